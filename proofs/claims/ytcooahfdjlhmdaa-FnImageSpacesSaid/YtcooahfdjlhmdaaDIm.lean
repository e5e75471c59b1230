/- The given statement on images of subspaces (FnImageSpaces): its law holds for every input. -/
import Derived.Test.YtcooahfdjlhmdaaDP26
import Derived.Test.YtcooahfdjlhmdaaDP28
import Derived.Test.YtcooahfdjlhmdaaDP30
import Derived.Test.YtcooahfdjlhmdaaDP35
import Derived.Test.YtcooahfdjlhmdaaDP36
open Int renaming reduceNatCast'→iQ0
namespace Go.Grp
end Go.Grp
set_option linter.unusedSimpArgs false
set_option linter.unusedVariables false
namespace Go.Proofs
open Go.Ab Go.Lie Go.Grp Go.Mx
variable {σ:PHeap} {K:PV→PHeap→Prop} {vC:PV} {bs:List Int}
theorem SzL.nil:SzL []:=⟨by simp,fun x hx=>by cases hx⟩
theorem isMx.sz {p c:Int} {F:List (List Int)} (h:isMx p c F):SzL F:=by
 obtain⟨n,rfl,hn,hp,hl,hA⟩:=mx_n h;exact⟨by omega,fun r hr=>by rw [(hA r hr).len];omega⟩
end Go.Proofs
namespace Go.Grp
end Go.Grp
namespace Go.Proofs
open Go.Ab Go.Lie Go.Grp Go.Mx
variable {σ:PHeap} {K:PV→PHeap→Prop} {vC:PV} {bs:List Int}
theorem isMx.make {p:Int} {n:Nat} {A:List (List Int)} (hp:isP p) (hn:n≤8) (hl:A.length≤8) (hA:Ma p n A):isMx p n A:=⟨hp,by omega,hl,by simpa using hA⟩
end Go.Proofs
namespace Go.Grp
end Go.Grp
namespace Go.Proofs
open Go.Ab Go.Lie Go.Grp Go.Mx
variable {σ:PHeap} {K:PV→PHeap→Prop} {vC:PV} {bs:List Int}
set_option maxHeartbeats 3200000 in
theorem zCB (hb:FB vC bs) (hbd:∀b∈bs,0≤b∧b≤255) (hk:∀σ',K (.bool true) σ'):zC Try.prog 6 [vC] σ K:=by
 have hb1:=hb.one;have hb2:=hb.cells;refine Qc mix Try.func6 cf6 rfl ?_;dsimp only [if6,eI,mI0,tI0,LI0,bI0,cI0,eI0,C1,C2,I0,G0,gm0,oI0,aI0,vI0,R0,S0];simp only [pwA,seval,-iQ0,hb1];refine zKe hb fun t ht=>?_
 cases t with
 | true=>
  simp only [pwA,seval,-iQ0];exact hk _
 | false=>
 have hlen:bs.length≤4096:=by
  rcases Nat.lt_or_ge 4096 bs.length with e|e
  ·have:=ht.2 e;cases this
  ·exact e
 clear ht;have hB:Byt bs:=⟨by omega,hbd⟩
 simp only [pwA,seval,-iQ0,hb1];refine zAe hb hB fun p c zA A p' c' zB B hA dmA hB' dmB=>?_
 have a1:=hA.one;have a2:=hA.cells;have b1:=hB'.one;have b2:=hB'.cells;simp only [pwA,seval,-iQ0,a1,a2,b1,b2];refine zCv hA dmA.sz hB' dmB.sz fun r hr v hv=>?_
 have v1:=hv.one;have v2:=hv.cells;simp only [pwA,seval,-iQ0,v1,v2,a1,a2,b1,b2];refine zCu hA dmA.sz hB' dmB.sz fun r' hr' v' hv'=>?_
 obtain rfl:=hr.unique hr';have w1:=hv'.one;have w2:=hv'.cells;simp only [pwA,seval,-iQ0,w1,w2,v1,v2,a1,a2,b1,b2];rcases hr with ⟨_,rfl⟩|⟨_,_,_,rfl⟩|⟨hs,hm,⟨rfl,hc⟩,U,hU,rfl⟩
 ·refine Qp hv hv' SzL.nil fun t ht=>?_
  obtain rfl:t=true:=ht.2 ⟨rfl,rfl,rfl⟩;simp only [pwA,seval,-iQ0];exact hk _
 ·refine Qp hv hv' SzL.nil fun t ht=>?_
  obtain rfl:t=true:=ht.2 ⟨rfl,rfl,rfl⟩;simp only [pwA,seval,-iQ0];exact hk _
 obtain⟨n,rfl,hn,hp,hlB,hMB⟩:=mx_n hm;have hq:pr7 p:=hp;have hpb:=hp.bd;have hp0:0<p:=by omega
 subst hc;rw [Int.toNat_natCast]at hU
 have cA:=hs.can;have hlA:=hs.1.2.2.1;have hm8:B.length≤8:=hlB;have hMA:Ma p B.length A:=el_ma hp0 cA.base.els;have hmm:=mm_ma hp0 hMA hMB;have hUl:U.length≤8:=by
  have:=zAC hq (ma_el hmm) hU
  rw [zn]at this
  omega
 have cU:Canon p n (W0 n) U U:=⟨hU.base,hU.red,fun f=>Iff.rfl⟩
 have hmU:isMx p n U:=isMx.make hp hn hUl (el_ma hp0 hU.base.els);have sU:isSp p n U:=⟨hmU,by rw [Int.toNat_natCast];exact cU⟩
 refine Qp hv hv' hmU.sz fun t ht=>?_
 obtain rfl:t=true:=ht.2 ⟨rfl,rfl,rfl⟩;simp only [pwA,seval,-iQ0,v1,v2,b1,b2];refine zBE sU hm hv hB' fun zP wP uP hP hwP huP=>?_
 have c1:=hP.one;have c2:=hP.cells;simp only [pwA,seval,-iQ0,c1,c2,v1,v2,a1,a2,b1,b2];refine zEq hm hB' fun zK wK hK hwK=>?_
 have d1:=hK.one;have d2:=hK.cells;obtain⟨cn,hker⟩:=zAG hq hMB hwK;have hnl:(nul n wK).length≤8:=by
  have h1:=zCE hq hMB hwK;have h2:=Qh (n:=n) (u:=wK);omega
 have hmK:isMx p B.length (nul n wK):=isMx.make hp hm8 hnl (el_ma hp0 cn.base.els);have sK:isSp p B.length (nul n wK):=⟨hmK,by rw [Int.toNat_natCast];exact cn⟩
 simp only [pwA,seval,-iQ0,d1,d2,c1,c2,v1,v2,a1,a2,b1,b2];refine zDk hs sK hA hK fun zS uS hS huS=>?_
 have e1:=hS.one;have e2:=hS.cells
 -- the preimage is the sum
 have hMBU:Ma p n (B++U):=zCe hMB (el_ma hp0 hU.base.els);obtain⟨cP,kP⟩:=zAG hq hMBU hwP;have hBU:(B++U).length=B.length+U.length:=List.length_append;have hPel:∀r∈nul n wP,El p (B.length+U.length) r:=fun r hr=>by rw [←hBU];exact cP.base.els r hr
 have pg:=zJh (u:=A) (U:=U) (N:=nul n wP) (w:=nul n wK) hq hMB cA.base.els hU (fun x hx=>by
  have:=kP x (by rw [hBU];exact hx)
  rwa [hBU]at this) hPel hker cn.base.els
 have huS':Canon p B.length (W0 B.length) ((nul n wP).map (List.take B.length)) uS:=⟨huS.base,huS.red,fun f=>(pg f).trans (huS.gen f)⟩
 obtain rfl:uP=uS:=huP.unique (W0_ok hq.ok _) huS';have hmP:isMx p B.length uP:=isMx.make hp hm8 (by have:=zBw hq huP;omega) (el_ma hp0 huP.base.els)
 simp only [pwA,seval,-iQ0,e1,e2,d1,d2,c1,c2,v1,v2,a1,a2,b1,b2];refine Qp hP hS hmP.sz fun t ht=>?_
 obtain rfl:t=true:=ht.2 ⟨rfl,rfl,rfl⟩;simp only [pwA,seval,-iQ0,e1,e2,d1,d2,c1,c2,v1,v2,a1,a2,b1,b2];refine Q7 hs sK hA hK fun zM M hM cM hmem=>?_
 have f1:=hM.one;have f2:=hM.cells;have il:=zHy hq hMB cA hU cM fun x hx=>(hmem x hx).trans ⟨fun h=>⟨h.1,(hker x hx).1 h.2⟩,fun h=>⟨h.1,(hker x hx).2 h.2⟩⟩
 have lv:pLen v=some (.int .i64 U.length):=by obtain⟨w,a,r,rfl,_⟩:=hv;rfl
 have lM:pLen zM=some (.int .i64 M.length):=by obtain⟨w,a,r,rfl,_⟩:=hM;rfl
 have lA:pLen zA=some (.int .i64 A.length):=by obtain⟨w,a,r,rfl,_⟩:=hA;rfl
 have ew:IntKind.i64.wrap ((U.length:Int)+(M.length:Int))=(A.length:Int):=by rw [wrap64 (by omega) (by omega)];omega
 simp only [pwA,seval,-iQ0,f1,f2,e1,e2,d1,d2,c1,c2,v1,v2,a1,a2,b1,b2,lv,lM,lA,ew];exact hk _
end Go.Proofs
namespace Go.Proofs.Ytcooahfdjlhmdaa
open Go.ChangeShapes Go.WideShapes Go.ChangeAt Go.RowKit Go.Ab Go.Joins Go.Lie Go.Proofs
set_option maxRecDepth 100000 in
theorem zAj {H:Type} {enc:TypeId×Value→H} (W:World) (base:Nat) (args:Array Value) (ds gs:List (DataW H)) (before:List MemPlace)
  (hval:∀(j:Nat) t v,Try.f6.params[j]? = some t→args[j]? = some v→Value.okWide Try.prog W .any base t v)
  (hW:DataW.Whole enc Try.prog Try.f6.params.toList Rows.fnImageSpacesSpec.vars false W args.toList ds gs before):
  Calls Try.prog 6 args W fun e W'=>∃v,e=.returned v∧Rows.fnImageSpacesSpec.post enc Try.prog Try.f6 false true false false W args v W':=by
 have hW':=hW;obtain⟨p,q,hA0,hV,rfl,hfz,hnd⟩:=hW;have hA:DataW.TrodAll enc Try.prog W 0 (fun _=>true) true Try.f6.params.toList args.toList ds p:=hA0
 rw [Try.params6]at hA hval
 obtain⟨v0,vs0,d0,ds0,p0,q0,hargs,rfl,rfl,t0,r0⟩:=trodAll_cons hA;obtain⟨rfl,rfl,rfl⟩:=trodAll_nil r0;obtain rfl:args = #[v0]:=by cases args;simp_all
 obtain⟨n0,t0⟩:=t0;obtain⟨s0,s0',s0'',hv0⟩:=okWide_slice Try.underlying22 (hval 0 22 v0 rfl rfl);have hc0:v0.cells.toList=[v0]:=by rw [hv0];rfl
 rw [hc0]at t0
 obtain⟨j0,h0,vX0,X0,m0,l0,e0,i0,o0,_,R0,y0⟩:=layB _ _ _ true n0 _ _ (MR.empty W) t0;have pc:zC Try.prog 6 [vX0] (PHeap.start h0) (fun v _=>v=.bool true):=zCB R0 y0 (fun _=>rfl)
 have ac:=pc.law m0.wf ⟨o0,trivial⟩;refine(ac.calls m0 (cargs:=#[v0]) ⟨_,_,rfl,i0,rfl⟩).mono fun e W' ⟨he,hb⟩=>?_
 exact⟨_,he,zDZ rfl laidOut (by rw [Try.params6];intro t ht;simp only [List.mem_cons,List.not_mem_nil,or_false]at ht;rcases ht with rfl<;>exact⟨by kernel_rfl,of_decide_eq_true (by kernel_rfl)⟩) (by kernel_rfl) Try.underlying4 rfl hW' hb⟩
set_option maxRecDepth 100000 in
theorem zBW (os:Os) (started:os.Started) (H:Type) (enc:TypeId×Value→H):
  ReturnsInHanded {} Try.checked os 6 .any (Rows.fnImageSpacesSpec.pre6 enc Try.prog Try.f6 Rows.fnImageSpacesRow.domain false) (Rows.fnImageSpacesSpec.post enc Try.prog Try.f6 false true false false):=by
 refine returnsInHanded_of_change (C:=Try.checked) own started (by kernel_rfl) Try.func6
  (ChangeSpec.witness6 (enc:=enc) (C:=Try.checked) false ⟨#[],#[.slice none 0 0],[]⟩ 8 (by kernel_rfl) (by kernel_rfl) (by kernel_rfl) (by kernel_rfl)) ?_
 intro W base args ds gs before hval hW _ _;exact zAj W base args ds gs before hval hW
set_option maxRecDepth 100000 in
theorem zB2:Try.prog.funcNamed Rows.fnImageSpacesRow.func=some 6:=by kernel_rfl
set_option maxRecDepth 100000 in
set_option maxHeartbeats 1600000 in
set_option maxRecDepth 100000 in
theorem zBX:joinedFacts Try.prog 6 Try.f6 Rows.fnImageSpacesSpec Rows.fnImageSpacesRow=true:=by
 unfold joinedFacts;simp only [Bool.and_eq_true]
 repeat' apply And.intro
 all_goals (as_aux_lemma=>kernel_rfl)
theorem imageSpacesProved:Rows.FnImageSpacesSaid:=
 OpenClaim.holds_of_wide 6 Try.f6 rfl rfl rfl rfl rfl rfl rfl ⟨rfl,rfl,rfl,rfl,rfl⟩ rfl rfl rfl rfl rfl zB2 Try.func6 zBX
  (of_decide_eq_true (by kernel_rfl)) (by unfold Func.isWrapper;first | (rw [if_pos (by decide +kernel)];kernel_rfl) | (rw [if_neg (by decide +kernel)];exact⟨rfl,rfl⟩))
  (fun os started H enc _=>zBW os started H enc)
end Go.Proofs.Ytcooahfdjlhmdaa
