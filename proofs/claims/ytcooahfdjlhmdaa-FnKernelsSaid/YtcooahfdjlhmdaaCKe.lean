/- The given statement on kernels and solutions (FnKernels): its law holds for every input. -/
import Derived.Test.YtcooahfdjlhmdaaCP26
import Derived.Test.YtcooahfdjlhmdaaCP28
import Derived.Test.YtcooahfdjlhmdaaCP30
import Derived.Test.YtcooahfdjlhmdaaCP35
import Derived.Test.YtcooahfdjlhmdaaCP36
open Int renaming reduceNatCast'→iQ0
namespace Go.Grp
end Go.Grp
set_option linter.unusedSimpArgs false
set_option linter.unusedVariables false
namespace Go.Proofs
open Go.Ab Go.Lie Go.Grp Go.Mx
variable {σ:PHeap} {K:PV→PHeap→Prop} {vC:PV} {bs:List Int}
theorem isMx.sz {p c:Int} {F:List (List Int)} (h:isMx p c F):SzL F:=by
 obtain⟨n,rfl,hn,hp,hl,hA⟩:=mx_n h;exact⟨by omega,fun r hr=>by rw [(hA r hr).len];omega⟩
end Go.Proofs
namespace Go.Grp
end Go.Grp
namespace Go.Proofs
open Go.Ab Go.Lie Go.Grp Go.Mx
variable {σ:PHeap} {K:PV→PHeap→Prop} {vC:PV} {bs:List Int}
theorem isMx.make {p:Int} {n:Nat} {A:List (List Int)} (hp:isP p) (hn:n≤8) (hl:A.length≤8) (hA:Ma p n A):isMx p n A:=⟨hp,by omega,hl,by simpa using hA⟩
theorem Sol.hit {p c:Int} {F:List (List Int)} {b r:List Int} {e:Int} {n:Nat} (hs:Sol p c F b r e) (he:e=0) (hc:c=n):El p n b∧Ve p F.length r∧vt p n r F=b:=by
 rcases hs with ⟨_,_,h⟩|⟨n',u,_,h1,_,hl,hp,hF,hEb,hu,⟨hz,rfl,_⟩|⟨_,_,h⟩⟩
 ·omega
 ·obtain rfl:n'=n:=by omega
  have hq:pr7 p:=hp;obtain⟨h2,h3⟩:=zBA (m:=F.length) hq hu.base.els hEb;have hLl:(left p n' F.length u b).length=n'+F.length:=h3.1;obtain⟨h4,h5⟩:=zBh hq hF hu hEb fun j hj=>by
   have:=hz (at_ (left p n' F.length u b) j) (by rw [at_eq (by omega),List.mem_take_iff_getElem];exact⟨j,by omega,rfl⟩)
   exact this
  exact⟨hEb,zJD hq hF hu h4 h5⟩
 ·omega
theorem Sol.len {p c:Int} {F:List (List Int)} {b r:List Int} {e:Int} (hs:Sol p c F b r e):r.length≤8:=by
 rcases hs with ⟨_,rfl,_⟩|⟨n',u,a1,h1,a2,hl,hp,hF,hEb,hu,⟨hz,hr,he⟩|⟨_,rfl,_⟩⟩
 ·simp
 ·have:=(Sol.hit (n:=n') (.inr ⟨n',u,a1,h1,a2,hl,hp,hF,hEb,hu,.inl ⟨hz,hr,he⟩⟩) he h1).2.1.len
  omega
 ·simp
set_option maxHeartbeats 3200000 in
theorem zEX (hb:FB vC bs) (hbd:∀b∈bs,0≤b∧b≤255) (hk:∀σ',K (.bool true) σ'):zB Try.prog 7 [vC] σ K:=by
 have hb1:=hb.one;have hb2:=hb.cells;refine zB.gh ?_;have fin:∀{g:PHeap},Keep σ g→Gh σ K (.bool true) g:=fun {g} k=>Gh.fin0 k trivial (hk _)
 refine Qa mix Try.func7 cf7 rfl ?_;dsimp only [if7,qI,eI,mI0,kI0,tI0,lI0,LI0,fI0,xI0,bI0,cI0,nI0,sI0,eI0,C1,C2,I0,G0,gm0,oI0,aI0,vI0,R0,S0];simp only [pwA,seval,-iQ0,hb1];refine zKM hb fun t ht=>?_
 cases t with
 | true=>
  simp only [pwA,seval,-iQ0];exact fin (Keep.refl _)
 | false=>
 have hlen:bs.length≤4096:=by
  rcases Nat.lt_or_ge 4096 bs.length with e|e
  ·have:=ht.2 e;cases this
  ·exact e
 clear ht;have hB:Byt bs:=⟨by omega,hbd⟩
 simp only [pwA,seval,-iQ0,hb1];refine zBq hb hB fun p c zA A vb b hA dm hvb hbl=>?_
 have a1:=hA.one;have a2:=hA.cells;have sz:=dm.sz;have b1:=hvb.one;have b2:=hvb.cells;simp only [pwA,seval,-iQ0,a1,a2,b1,b2];refine zFE hA sz hvb (by omega) fun v r e hv hs=>?_
 have v1:=hv.one;have v2:=hv.cells;simp only [pwA,seval,-iQ0,v1,v2,a1,b1];refine zFD hA sz hvb (by omega) fun v' r' e' hv' hs'=>?_
 obtain⟨rfl,rfl⟩:=hs.unique hs';have w1:=hv'.one;have w2:=hv'.cells;have hrl:r.length≤1048576:=by have:=hs.len;omega
 simp only [pwA,seval,-iQ0,w1,w2,v1,a1];refine zBU hv hv' hrl fun t ht=>?_
 obtain rfl:t=true:=ht.2 rfl;simp only [pwA,seval,-iQ0];refine Qe sz hA fun t ht=>?_
 cases t with
 | false=>
  simp only [pwA,seval,-iQ0];refine qb sz hA fun t ht2=>?_
  cases t with
  | true=>cases ht.2 (ht2.1 rfl)
  | false=>
   simp only [pwA,seval,-iQ0];exact fin (zF _ _)
 | true=>
 have hm:=ht.1 rfl;obtain⟨n,rfl,hn,hp,hl,hMA⟩:=mx_n hm;have hq:pr7 p:=hp;have hpb:=hp.bd;have hp0:0<p:=by omega
 have szl:pLen zA=some (.int .i64 A.length):=by obtain⟨w,a,r,rfl,_⟩:=hA;rfl
 simp only [pwA,seval,-iQ0];refine zEU hm hA fun zW w hW hw=>?_
 have c1:=hW.one;have c2:=hW.cells;have lW:pLen zW=some (.int .i64 w.length):=by obtain⟨w,a,r,rfl,_⟩:=hW;rfl
 simp only [pwA,seval,-iQ0,c1,c2,a1];refine zEV hm hA fun zK u hK hu=>?_
 have d1:=hK.one;have d2:=hK.cells;have lK:pLen zK=some (.int .i64 (nul n u).length):=by obtain⟨w,a,r,rfl,_⟩:=hK;rfl
 have hrn:=zGj hq hMA hu hw;obtain⟨cn,hker⟩:=zAm hq hMA hu;have ew:IntKind.i64.wrap ((w.length:Int)+((nul n u).length:Int))=(A.length:Int):=by rw [wrap64 (by omega) (by omega)];omega
 have hMK:Ma p A.length (nul n u):=el_ma hp0 cn.base.els;have hmK:isMx p A.length (nul n u):=isMx.make hp hl (by omega) hMK
 have hmm:=mm_ma hp0 hMK hMA;have hml:(mm p n (nul n u) A).length=(nul n u).length:=ZH;have e1:mpRes p A.length (nul n u) p n A=((p,(n:Int),mm p n (nul n u) A),0):=by
  unfold mpRes;rw [if_pos ⟨hmK,hm⟩,if_pos ⟨rfl,rfl⟩]
  rfl
 simp only [pwA,seval,-iQ0,c1,c2,d1,d2,a1,a2,lW,lK,szl,ew];refine Qt hK hmK.sz hA sz fun vX hX=>?_
 have x1:=hX.one;have x2:=hX.cells;rw [e1]at hX ⊢
 have lX:pLen vX=some (.int .i64 (nul n u).length):=by obtain⟨w,a,r,rfl,_⟩:=hX;rw [←hml];rfl
 have hX0:=hX;obtain⟨wx,ax,rx,rfl,hrx⟩:=hX;have rz:∀i (h:i<(mm p n (nul n u) A).length),isZ (mm p n (nul n u) A)[i]:=fun i h x hx=>by
  have hi:i<(nul n u).length:=by omega
  have hg:=(hker _ (cn.base.els _ (List.getElem_mem hi))).1 (zY (List.getElem_mem hi));have e:(mm p n (nul n u) A)[i]=vt p n (nul n u)[i] A:=by simp [mm]
  rw [e]at hx
  obtain⟨j,hj,rfl⟩:=List.mem_iff_getElem.1 hx;rw [←at_eq hj];exact hg.2 j
 simp only [pwA,seval,-iQ0,x1,x2,d1,d2,c1,c2,lX,lK];have hkG:Keep σ ((((σ.new [.int .i64 p,.int .i64 n,zA]).new [.int .i64 p,.int .i64 n,zW]).new [.int .i64 p,.int .i64 A.length,zK]).new [.int .i64 p,.int .i64 n,.fz wx ax (mm p n (nul n u) A).length rx]):=(((zF σ _).new _).new _).new _;have oA:((((σ.new [.int .i64 p,.int .i64 n,zA]).new [.int .i64 p,.int .i64 n,zW]).new [.int .i64 p,.int .i64 A.length,zK]).new [.int .i64 p,.int .i64 n,.fz wx ax (mm p n (nul n u) A).length rx]).obj σ.next=some [.int .i64 p,.int .i64 n,zA]:=by simp only [pwA,seval,-iQ0]
 have oW:((((σ.new [.int .i64 p,.int .i64 n,zA]).new [.int .i64 p,.int .i64 n,zW]).new [.int .i64 p,.int .i64 A.length,zK]).new [.int .i64 p,.int .i64 n,.fz wx ax (mm p n (nul n u) A).length rx]).obj (σ.next+1)=some [.int .i64 p,.int .i64 n,zW]:=by simp only [pwA,seval,-iQ0]
 have oX:((((σ.new [.int .i64 p,.int .i64 n,zA]).new [.int .i64 p,.int .i64 n,zW]).new [.int .i64 p,.int .i64 A.length,zK]).new [.int .i64 p,.int .i64 n,.fz wx ax (mm p n (nul n u) A).length rx]).obj (σ.next+3)=some [.int .i64 p,.int .i64 n,.fz wx ax (mm p n (nul n u) A).length rx]:=by simp only [pwA,seval,-iQ0]
 have hGn:((((σ.new [.int .i64 p,.int .i64 n,zA]).new [.int .i64 p,.int .i64 n,zW]).new [.int .i64 p,.int .i64 A.length,zK]).new [.int .i64 p,.int .i64 n,.fz wx ax (mm p n (nul n u) A).length rx]).next=σ.next+4:=rfl;generalize (((σ.new [.int .i64 p,.int .i64 n,zA]).new [.int .i64 p,.int .i64 n,zW]).new [.int .i64 p,.int .i64 A.length,zK]).new [.int .i64 p,.int .i64 n,.fz wx ax (mm p n (nul n u) A).length rx]=G at *
 have rX:G.rd1 (σ.next+3) 2=some (.fz wx ax (mm p n (nul n u) A).length rx):=by rw [zG oX];rfl
 have rA:G.rd σ.next 0 3=some [.int .i64 p,.int .i64 n,zA]:=by rw [zm oA];rfl
 have rA0:G.rd1 σ.next 0=some (.int .i64 p):=by rw [zG oA];rfl
 have rA2:G.rd1 σ.next 2=some zA:=by rw [zG oA];rfl
 have rW:G.rd (σ.next+1) 0 3=some [.int .i64 p,.int .i64 n,zW]:=by rw [zm oW];rfl
 refine zM (fun m vs h'=>∃i:Nat,i≤(mm p n (nul n u) A).length∧m=(mm p n (nul n u) A).length-i∧vs=[.ptr σ.next 0,vb,v,.int .i64 e,.ptr (σ.next+1) 0,.ptr (σ.next+3) 0,.int .i64 i]∧h'=G) (mm p n (nul n u) A).length ⟨0,by omega,by omega,rfl,rfl⟩ ?_
 rintro m vs h' ⟨i,hi,rfl,rfl,rfl⟩
 by_cases hlt:i<(mm p n (nul n u) A).length
 ·obtain⟨w4,a4,hr⟩:=hrx.rowI hlt
  have hrl:=(hmm _ (List.getElem_mem hlt)).len;simp only [pwA,seval,-iQ0,hlt,rX,hr];refine zHx rfl (by omega) (rz i hlt) ?_
  simp only [pwA,seval,-iQ0,wrapS hlt (by omega:(mm p n (nul n u) A).length≤4611686018427387904)]
  exact⟨_,by omega,i+1,by omega,rfl,rfl⟩
 by_cases he:e=0
 rotate_left
 ·simp only [pwA,seval,-iQ0,rX,hlt,he]
  exact fin hkG
 subst he;obtain⟨hEb,hVr,hvt⟩:=hs.hit rfl rfl;have hMr:Ma p A.length [r]:=fun x hx=>by rw [List.mem_singleton.1 hx];exact hVr
 have hmr:isMx p A.length [r]:=isMx.make hp hl (by simp) hMr
 have e2:mpRes p A.length [r] p n A=((p,(n:Int),[b]),0):=by
  unfold mpRes;rw [if_pos ⟨hmr,hm⟩,if_pos ⟨rfl,rfl⟩]
  have:mm p n [r] A=[b]:=by rw [←hvt];rfl
  rw [←this];rfl
 have n0:¬σ.next=h'.next:=by omega
 have n1:¬σ.next+1=h'.next:=by omega
 simp only [pwA,seval,-iQ0,rX,hlt,rA,rA0,rA2,szl,v1,v2,n0,n1];refine zB.frz (s:=h'.next) (cs:=[v]) (by rw [zN,if_pos rfl]) ⟨hv.bel _,trivial⟩ fun o1=>?_
 have hsv:∀s o cs,sb s o cs zA=zA:=fun s o cs=>by obtain⟨w,a,r,rfl,_⟩:=hA;rfl
 have ck:capOK (.known 1) 1=true:=by simp [capOK]
 simp only [sbs,sb,hsv,ck,and_self,if_true,nm_eq];refine Qt (F:=[r]) (F':=A) ⟨true,.sl o1 0 1 (.known 1),[v],rfl,⟨rfl,fun j x y hx hy=>?_⟩⟩ hmr.sz hA sz fun vY hY=>?_
 ·cases j with
  | zero=>simp only [List.getElem?_cons_zero,Option.some.injEq]at hx hy;subst hx;subst hy;exact hv
  | succ j=>simp at hx
 have y1:=hY.one;have y2:=hY.cells;rw [e2]at hY ⊢
 have lY:pLen vY=some (.int .i64 1):=by obtain⟨w,a,r,rfl,_⟩:=hY;rfl
 obtain⟨wy,ay,ry,rfl,hry⟩:=hY;obtain⟨w6,a6,hr6⟩:=hry.rowI (k:=0) (by simp)
 have k2:Keep σ ((h'.new [v]).kill h'.next):=(hkG.new _).kill (by omega)
 have r6:ry[0]? = some (.fz w6 a6 b.length (pis b)):=hr6;have one1:((1:Nat):Int)=1:=rfl;simp only [pwA,seval,-iQ0,y1,rX,rW,lY,one1,r6,n0,n1];refine zBU ⟨w6,a6,rfl⟩ hvb (by omega) fun t ht=>?_
 obtain rfl:t=true:=ht.2 rfl;have hmw:isMx p n w:=isMx.make hp hn (by omega) (el_ma hp0 hw.base.els)
 simp only [pwA,seval,-iQ0,rW,n0,n1];refine zFI hmw ⟨hw.base,hw.red,fun f=>Iff.rfl⟩ hW hEb hvb ((hw.gen _).1 (by rw [←hvt];exact zDQ hp0 hMA hVr.len)) ?_
 simp only [pwA,seval,-iQ0];exact fin (k2.new _)
end Go.Proofs
namespace Go.Proofs.Ytcooahfdjlhmdaa
open Go.ChangeShapes Go.WideShapes Go.ChangeAt Go.RowKit Go.Ab Go.Joins Go.Lie Go.Proofs
set_option maxRecDepth 100000 in
theorem zCF {H:Type} {enc:TypeId×Value→H} (W:World) (base:Nat) (args:Array Value) (ds gs:List (DataW H)) (before:List MemPlace)
  (hval:∀(j:Nat) t v,Try.f7.params[j]? = some t→args[j]? = some v→Value.okWide Try.prog W .any base t v)
  (hW:DataW.Whole enc Try.prog Try.f7.params.toList Rows.fnKernelsSpec.vars false W args.toList ds gs before):
  Calls Try.prog 7 args W fun e W'=>∃v,e=.returned v∧Rows.fnKernelsSpec.post enc Try.prog Try.f7 false true false false W args v W':=by
 have hW':=hW;obtain⟨p,q,hA0,hV,rfl,hfz,hnd⟩:=hW;have hA:DataW.TrodAll enc Try.prog W 0 (fun _=>true) true Try.f7.params.toList args.toList ds p:=hA0
 rw [Try.params7]at hA hval
 obtain⟨v0,vs0,d0,ds0,p0,q0,hargs,rfl,rfl,t0,r0⟩:=trodAll_cons hA;obtain⟨rfl,rfl,rfl⟩:=trodAll_nil r0;obtain rfl:args = #[v0]:=by cases args;simp_all
 obtain⟨n0,t0⟩:=t0;obtain⟨s0,s0',s0'',hv0⟩:=okWide_slice Try.underlying22 (hval 0 22 v0 rfl rfl);have hc0:v0.cells.toList=[v0]:=by rw [hv0];rfl
 rw [hc0]at t0
 obtain⟨j0,h0,vX0,X0,m0,l0,e0,i0,o0,_,R0,y0⟩:=layB _ _ _ true n0 _ _ (MR.empty W) t0;have pc:zB Try.prog 7 [vX0] (PHeap.start h0) (fun v _=>v=.bool true):=zEX R0 y0 (fun _=>rfl)
 have ac:=pc.law m0.wf ⟨o0,trivial⟩;refine(ac.calls m0 (cargs:=#[v0]) ⟨_,_,rfl,i0,rfl⟩).mono fun e W' ⟨he,hb⟩=>?_
 exact⟨_,he,zDD rfl laidOut (by rw [Try.params7];intro t ht;simp only [List.mem_cons,List.not_mem_nil,or_false]at ht;rcases ht with rfl<;>exact⟨by kernel_rfl,of_decide_eq_true (by kernel_rfl)⟩) (by kernel_rfl) Try.underlying4 rfl hW' hb⟩
set_option maxRecDepth 100000 in
theorem zDG (os:Os) (started:os.Started) (H:Type) (enc:TypeId×Value→H):
  ReturnsInHanded {} Try.checked os 7 .any (Rows.fnKernelsSpec.pre6 enc Try.prog Try.f7 Rows.fnKernelsRow.domain false) (Rows.fnKernelsSpec.post enc Try.prog Try.f7 false true false false):=by
 refine returnsInHanded_of_change (C:=Try.checked) own started (by kernel_rfl) Try.func7
  (ChangeSpec.witness6 (enc:=enc) (C:=Try.checked) false ⟨#[],#[.slice none 0 0],[]⟩ 8 (by kernel_rfl) (by kernel_rfl) (by kernel_rfl) (by kernel_rfl)) ?_
 intro W base args ds gs before hval hW _ _;exact zCF W base args ds gs before hval hW
set_option maxRecDepth 100000 in
theorem zD2:Try.prog.funcNamed Rows.fnKernelsRow.func=some 7:=by kernel_rfl
set_option maxRecDepth 100000 in
set_option maxHeartbeats 1600000 in
set_option maxRecDepth 100000 in
theorem zDH:joinedFacts Try.prog 7 Try.f7 Rows.fnKernelsSpec Rows.fnKernelsRow=true:=by
 unfold joinedFacts;simp only [Bool.and_eq_true]
 repeat' apply And.intro
 all_goals (as_aux_lemma=>kernel_rfl)
theorem kernelsProved:Rows.FnKernelsSaid:=
 OpenClaim.holds_of_wide 7 Try.f7 rfl rfl rfl rfl rfl rfl rfl ⟨rfl,rfl,rfl,rfl,rfl⟩ rfl rfl rfl rfl rfl zD2 Try.func7 zDH
  (of_decide_eq_true (by kernel_rfl)) (by unfold Func.isWrapper;first | (rw [if_pos (by decide +kernel)];kernel_rfl) | (rw [if_neg (by decide +kernel)];exact⟨rfl,rfl⟩))
  (fun os started H enc _=>zDG os started H enc)
end Go.Proofs.Ytcooahfdjlhmdaa
