/- The given statement on determinants and inverses (FnDeterminants): its law holds for every input. -/
import Derived.Test.YtcooahfdjlhmdaaBP26
import Derived.Test.YtcooahfdjlhmdaaBP28
import Derived.Test.YtcooahfdjlhmdaaBP30
import Derived.Test.YtcooahfdjlhmdaaBP35
import Derived.Test.YtcooahfdjlhmdaaBP36
open Int renaming reduceNatCast'→iQ0
namespace Go.Grp
end Go.Grp
set_option linter.unusedSimpArgs false
set_option linter.unusedVariables false
namespace Go.Proofs
open Go.Ab Go.Lie Go.Grp Go.Mx
variable {σ:PHeap} {K:PV→PHeap→Prop} {vC:PV} {bs:List Int}
theorem SzL.nil:SzL []:=⟨by simp,fun x hx=>by cases hx⟩
theorem isMx.sz {p c:Int} {F:List (List Int)} (h:isMx p c F):SzL F:=by
 obtain⟨n,rfl,hn,hp,hl,hA⟩:=mx_n h;exact⟨by omega,fun r hr=>by rw [(hA r hr).len];omega⟩
end Go.Proofs
namespace Go.Grp
end Go.Grp
namespace Go.Proofs
open Go.Ab Go.Lie Go.Grp Go.Mx
variable {σ:PHeap} {K:PV→PHeap→Prop} {vC:PV} {bs:List Int}
set_option maxHeartbeats 1600000 in
theorem zBX (hb:FB vC bs) (hbd:∀b∈bs,0≤b∧b≤255) (hk:∀σ',K (.bool true) σ'):zB Try.prog 5 [vC] σ K:=by
 have hb1:=hb.one;have hb2:=hb.cells;refine Qd mix Try.func5 cf5 rfl ?_;dsimp only [if5,qI,eI,mI0,tI0,lI0,LI0,fI0,bI0,cI0,eI0,C1,C2,I0,G0,gm0,oI0,aI0,vI0,R0,S0];simp only [pwA,seval,-iQ0,hb1];refine zKf hb fun t ht=>?_
 cases t with
 | true=>
  simp only [pwA,seval,-iQ0];exact hk _
 | false=>
 have hlen:bs.length≤4096:=by
  rcases Nat.lt_or_ge 4096 bs.length with e|e
  ·have:=ht.2 e;cases this
  ·exact e
 clear ht;have hB:Byt bs:=⟨by omega,hbd⟩
 simp only [pwA,seval,-iQ0,hb1];refine zAV hb hB fun p c zA A hA dm=>?_
 have a1:=hA.one;have a2:=hA.cells;have sz:=dm.sz;simp only [pwA,seval,-iQ0,a1,a2];refine zCq hA sz fun r hr v hv=>?_
 have v1:=hv.one;have v2:=hv.cells;simp only [pwA,seval,-iQ0,v1,v2,a1];refine zCp hA sz fun r' hr' v' hv'=>?_
 obtain rfl:=hr.unique hr';have w1:=hv'.one;have w2:=hv'.cells;simp only [pwA,seval,-iQ0,w1,w2,v1,a1];refine QK hA sz fun d e hd=>?_
 simp only [pwA,seval,-iQ0];rcases hr with ⟨hm,rfl⟩|⟨hm,hc,rfl⟩|⟨n,u,hm,rfl,hn,hp,hsq,hu,hr⟩
 ·obtain⟨rfl,rfl⟩:d=0∧e=1:=by
   rcases hd with ⟨_,h⟩|⟨h,_⟩|⟨h,_⟩
   ·exact h
   ·exact absurd h hm
   ·exact absurd h hm
  refine Z8 hv hv' SzL.nil fun t ht=>?_
  obtain rfl:t=true:=ht.2 ⟨rfl,rfl,rfl⟩;simp only [pwA,seval,-iQ0];exact hk _
 ·obtain⟨rfl,rfl⟩:d=0∧e=2:=by
   rcases hd with ⟨h,_⟩|⟨_,_,h⟩|⟨h,⟨n,h2,_,_,h3,_⟩,_⟩
   ·exact absurd hm h
   ·exact h
   ·exact absurd (by rw [h3.1,h2]) hc
  refine Z8 hv hv' SzL.nil fun t ht=>?_
  obtain rfl:t=true:=ht.2 ⟨rfl,rfl,rfl⟩;simp only [pwA,seval,-iQ0];exact hk _
 have hq:pr7 p:=hp;have hpb:=hp.bd;have hp0:0<p:=by omega
 have hpz:p≠0:=by omega
 have hAn:=hsq.1;obtain⟨rfl,rfl⟩:d=dt n A % p∧e=0:=by
  rcases hd with ⟨h,_⟩|⟨_,h,_⟩|⟨_,⟨n',h2,_,_,h3,h4⟩,h5⟩
  ·exact absurd hm h
  ·exact absurd (by rw [hAn]) h
  ·obtain rfl:n=n':=by omega
   exact⟨h4,h5⟩
 obtain⟨w,cw,hwl⟩:=QD hq (ma_el hsq.2);have fr:=zDK (u:=u) hq hsq (by rw [hAn];exact hu) cw
 have dr:=zFj hq hsq cw;have hdb:0≤dt n A % p∧dt n A % p<p:=⟨Int.emod_nonneg _ hpz,Int.emod_lt_of_pos _ hp0⟩;have hdz:dt n A % p=0↔¬Fll n u:=by rw [dr,fr];omega
 have tA:=zAd hp0 hsq.2;rw [hAn]at tA
 have hmt:isMx p n (trm n A):=⟨hp,by omega,by rw [zb];omega,by simpa using tA⟩
 have sqt:Sq p n (trm n A):=⟨by rw [zb],tA⟩
 have hmm:=mm_ma (n:=n) (A:=A) (B:=trm n A) hp0 (by rw [zb];exact hsq.2) tA
 have sqm:Sq p n (mm p n A (trm n A)):=⟨by rw [zt];exact hAn,hmm⟩
 have hmp:isMx p n (mm p n A (trm n A)):=⟨hp,by omega,by rw [zt];omega,by simpa using hmm⟩
 have e1:mpRes p n A p n (trm n A)=((p,(n:Int),mm p n A (trm n A)),0):=by
  unfold mpRes;rw [if_pos ⟨hm,hmt⟩,if_pos ⟨rfl,by rw [zb]⟩]
  rfl
 have hdd:dt n (mm p n A (trm n A)) % p=dt n A % p*(dt n A % p) % p:=by
  rw [dt_mm hq hsq sqt,Int.mul_emod,zKd hq hsq]
 generalize hD:dt n A % p=D at *
 have hmul:=sm7 (a:=D) (b:=D) (by omega) (by omega)
 have hmn:0≤D*D:=Int.mul_nonneg hdb.1 hdb.1;have ewm:IntKind.i64.wrap (D*D)=D*D:=wrap64 (by omega) (by omega)
 have etm:(D*D).tmod p=D*D % p:=Int.tmod_eq_emod_of_nonneg hmn;have part:∀{F:List (List Int)} {vF vF2:PV} {K':PV→PHeap→Prop} {h:PHeap},FII vF F→FII vF2 F→SzL F→K' (.bool true) h→zB Try.prog 12 [.agg [.int .i64 p,.int .i64 n,vF],.agg [.int .i64 p,.int .i64 n,vF2]] h K':=fun {F vF vF2 K' h} h1 h2 s k'=>Z8 h1 h2 s fun t ht=>by
  obtain rfl:t=true:=ht.2 ⟨rfl,rfl,rfl⟩;exact k'
 rcases hr with ⟨hf,rfl⟩|⟨hf,rfl⟩
 rotate_left
 ·obtain rfl:D=0:=hdz.2 hf
  refine Z8 hv hv' SzL.nil fun t ht=>?_
  obtain rfl:t=true:=ht.2 ⟨rfl,rfl,rfl⟩;simp only [pwA,seval,-iQ0,a1,a2,v1,v2,w1,w2,beq_self_eq_true,Bool.not_true];refine QL hm hA fun vT hT=>?_
  have t1:=hT.one;have t2:=hT.cells;rw [hAn];simp only [pwA,seval,-iQ0,t1,t2,a1,a2];refine ZF hA sz hT hmt.sz fun vS hS=>?_
  have s1:=hS.one;have s2:=hS.cells;rw [e1]at hS ⊢
  simp only [pwA,seval,-iQ0,s1,s2,t1,t2];refine QK hS hmp.sz fun d' e' hd'=>?_
  obtain⟨rfl,rfl⟩:d'=0∧e'=0:=by
   rcases hd' with ⟨h,_⟩|⟨_,h,_⟩|⟨_,⟨n',h2,_,_,h3,h4⟩,h5⟩
   ·exact absurd hmp h
   ·exact absurd (by rw [zt,hAn]) h
   ·obtain rfl:n=n':=by omega
    exact⟨by rw [h4,hdd];simp,h5⟩
  have e0:(IntKind.i64.wrap (0*0)).tmod p=0:=by rw [ewm,etm];simp
  have e1:(IntKind.i64.wrap 0).tmod p=0:=by rw [show IntKind.i64.wrap 0=0 from rfl];simp
  simp only [pwA,seval,-iQ0,hpz,e0,e1];exact hk _
 have hDz:¬D=0:=fun g=>hdz.1 g hf
 obtain⟨sqM,hMA⟩:=zER (u:=u) hq hsq (by rw [hAn];exact hu) hf
 have hAM:=zHv hq hsq sqM hMA;generalize hM:u.map (List.drop n)=M at *
 have hMn:=sqM.1;have hmM:isMx p n M:=⟨hp,by omega,by omega,by simpa using sqM.2⟩
 refine Z8 hv hv' hmM.sz fun t ht=>?_
 obtain rfl:t=true:=ht.2 ⟨rfl,rfl,rfl⟩;simp only [pwA,seval,-iQ0,hDz,beq_self_eq_true,Bool.not_true];refine QL hm hA fun vT hT=>?_
 have t1:=hT.one;have t2:=hT.cells;rw [hAn];simp only [pwA,seval,-iQ0,t1,t2,a1,a2];refine ZF hA sz hT hmt.sz fun vS hS=>?_
 have s1:=hS.one;have s2:=hS.cells;rw [e1]at hS ⊢
 simp only [pwA,seval,-iQ0,s1,s2,t1,t2];refine QK hS hmp.sz fun d' e' hd'=>?_
 obtain⟨rfl,rfl⟩:d'=D*D % p∧e'=0:=by
  rcases hd' with ⟨h,_⟩|⟨_,h,_⟩|⟨_,⟨n',h2,_,_,h3,h4⟩,h5⟩
  ·exact absurd hmp h
  ·exact absurd (by rw [zt,hAn]) h
  ·obtain rfl:n=n':=by omega
   exact⟨by rw [h4,hdd],h5⟩
 simp only [pwA,seval,-iQ0,ewm,etm,hpz,hDz];refine zB5 hp hn fun vI hI=>?_
 have i1:=hI.one;have i2:=hI.cells;simp only [pwA,seval,-iQ0,i1,i2,v1,v2];have szI:SzL (idm n):=⟨by rw [zV];omega,fun r hr=>by
  obtain⟨i,hi,rfl⟩:=List.mem_iff_getElem.1 hr;rw [zV]at hi
  rw [←zG (by rw [zV];exact hi),qW hi]
  simp [uv];omega⟩
 refine ZF hv hmM.sz hA sz fun vX hX=>?_
 have e2:mpRes p n M p n A=((p,(n:Int),idm n),0):=by
  unfold mpRes;rw [if_pos ⟨hmM,hm⟩,if_pos ⟨rfl,by rw [hAn]⟩,←hMA]
  rfl
 have x1:=hX.one;have x2:=hX.cells;rw [e2]at hX ⊢
 simp only [pwA,seval,-iQ0,x1,x2,i1,i2,v1,v2];refine ZF hA sz hv hmM.sz fun vY hY=>?_
 have e3:mpRes p n A p n M=((p,(n:Int),idm n),0):=by
  unfold mpRes;rw [if_pos ⟨hm,hmM⟩,if_pos ⟨rfl,by rw [hMn]⟩,←hAM]
  rfl
 have y1:=hY.one;have y2:=hY.cells;rw [e3]at hY ⊢
 simp only [pwA,seval,-iQ0,y1,y2,x1,x2,i1,i2];refine part hX hI szI ?_;simp only [pwA,seval,-iQ0,y1,y2,x1,x2,i1,i2];refine part hY hI szI ?_;simp only [pwA,seval,-iQ0];exact hk _
end Go.Proofs
namespace Go.Proofs.Ytcooahfdjlhmdaa
open Go.ChangeShapes Go.WideShapes Go.ChangeAt Go.RowKit Go.Ab Go.Joins Go.Lie Go.Proofs
set_option maxRecDepth 100000 in
theorem zAT {H:Type} {enc:TypeId×Value→H} (W:World) (base:Nat) (args:Array Value) (ds gs:List (DataW H)) (before:List MemPlace)
  (hval:∀(j:Nat) t v,Try.f5.params[j]? = some t→args[j]? = some v→Value.okWide Try.prog W .any base t v)
  (hW:DataW.Whole enc Try.prog Try.f5.params.toList Rows.fnDeterminantsSpec.vars false W args.toList ds gs before):
  Calls Try.prog 5 args W fun e W'=>∃v,e=.returned v∧Rows.fnDeterminantsSpec.post enc Try.prog Try.f5 false true false false W args v W':=by
 have hW':=hW;obtain⟨p,q,hA0,hV,rfl,hfz,hnd⟩:=hW;have hA:DataW.TrodAll enc Try.prog W 0 (fun _=>true) true Try.f5.params.toList args.toList ds p:=hA0
 rw [Try.params5]at hA hval
 obtain⟨v0,vs0,d0,ds0,p0,q0,hargs,rfl,rfl,t0,r0⟩:=trodAll_cons hA;obtain⟨rfl,rfl,rfl⟩:=trodAll_nil r0;obtain rfl:args = #[v0]:=by cases args;simp_all
 obtain⟨n0,t0⟩:=t0;obtain⟨s0,s0',s0'',hv0⟩:=okWide_slice Try.underlying22 (hval 0 22 v0 rfl rfl);have hc0:v0.cells.toList=[v0]:=by rw [hv0];rfl
 rw [hc0]at t0
 obtain⟨j0,h0,vX0,X0,m0,l0,e0,i0,o0,_,R0,y0⟩:=layB _ _ _ true n0 _ _ (MR.empty W) t0;have pc:zB Try.prog 5 [vX0] (PHeap.start h0) (fun v _=>v=.bool true):=zBX R0 y0 (fun _=>rfl)
 have ac:=pc.law m0.wf ⟨o0,trivial⟩;refine(ac.calls m0 (cargs:=#[v0]) ⟨_,_,rfl,i0,rfl⟩).mono fun e W' ⟨he,hb⟩=>?_
 exact⟨_,he,zDV rfl laidOut (by rw [Try.params5];intro t ht;simp only [List.mem_cons,List.not_mem_nil,or_false]at ht;rcases ht with rfl<;>exact⟨by kernel_rfl,of_decide_eq_true (by kernel_rfl)⟩) (by kernel_rfl) Try.underlying4 rfl hW' hb⟩
set_option maxRecDepth 100000 in
theorem zAv (os:Os) (started:os.Started) (H:Type) (enc:TypeId×Value→H):
  ReturnsInHanded {} Try.checked os 5 .any (Rows.fnDeterminantsSpec.pre6 enc Try.prog Try.f5 Rows.fnDeterminantsRow.domain false) (Rows.fnDeterminantsSpec.post enc Try.prog Try.f5 false true false false):=by
 refine returnsInHanded_of_change (C:=Try.checked) own started (by kernel_rfl) Try.func5
  (ChangeSpec.witness6 (enc:=enc) (C:=Try.checked) false ⟨#[],#[.slice none 0 0],[]⟩ 8 (by kernel_rfl) (by kernel_rfl) (by kernel_rfl) (by kernel_rfl)) ?_
 intro W base args ds gs before hval hW _ _;exact zAT W base args ds gs before hval hW
set_option maxRecDepth 100000 in
theorem zBV:Try.prog.funcNamed Rows.fnDeterminantsRow.func=some 5:=by kernel_rfl
set_option maxRecDepth 100000 in
set_option maxHeartbeats 1600000 in
set_option maxRecDepth 100000 in
theorem zAw:joinedFacts Try.prog 5 Try.f5 Rows.fnDeterminantsSpec Rows.fnDeterminantsRow=true:=by
 unfold joinedFacts;simp only [Bool.and_eq_true]
 repeat' apply And.intro
 all_goals (as_aux_lemma=>kernel_rfl)
theorem determinantsProved:Rows.FnDeterminantsSaid:=
 OpenClaim.holds_of_wide 5 Try.f5 rfl rfl rfl rfl rfl rfl rfl ⟨rfl,rfl,rfl,rfl,rfl⟩ rfl rfl rfl rfl rfl zBV Try.func5 zAw
  (of_decide_eq_true (by kernel_rfl)) (by unfold Func.isWrapper;first | (rw [if_pos (by decide +kernel)];kernel_rfl) | (rw [if_neg (by decide +kernel)];exact⟨rfl,rfl⟩))
  (fun os started H enc _=>zAv os started H enc)
end Go.Proofs.Ytcooahfdjlhmdaa
