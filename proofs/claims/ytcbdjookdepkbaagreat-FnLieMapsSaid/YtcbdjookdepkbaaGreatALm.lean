/- The given statement on maps of Lie rings (FnLieMaps): its law holds for every input. -/
import Derived.Test.YtcbdjookdepkbaaGreatAP29
import Derived.Test.YtcbdjookdepkbaaGreatAP31
import Derived.Test.YtcbdjookdepkbaaGreatAP33
import Derived.Test.YtcbdjookdepkbaaGreatAP35
import Derived.Test.YtcbdjookdepkbaaGreatAP38
import Derived.Test.YtcbdjookdepkbaaGreatAP39
import Derived.Test.YtcbdjookdepkbaaGreatAP40
open Int renaming reduceNatCast'→iQ0
set_option maxRecDepth 100000
namespace Go.Grp
end Go.Grp
set_option linter.unusedSimpArgs false
set_option linter.unusedVariables false
namespace Go.Proofs
open Go.Ab Go.Lie Go.Grp
variable {σ:PHeap} {K:PV→PHeap→Prop} {p:Int} {W:List (List Int)} {B:List (List (List Int))} {vC:PV} {bs:List Int}
theorem zEQ {A:Prop} {t u:Bool} (h:t=true↔A) (h':u=true↔A):t=u:=by
 cases t<;>cases u
 ·rfl
 ·exact absurd (h.2 (h'.1 rfl)) (by decide)
 ·exact absurd (h'.2 (h.1 rfl)) (by decide)
 ·rfl
set_option maxHeartbeats 1600000 in
theorem zGX (hF:FPok 32) (hb:FB vC bs) (hbd:∀b∈bs,0≤b∧b≤255) (hk:∀σ',K (.bool true) σ'):zA Tryz.prog 3 [vC] σ K:=by
 have hb1:=hb.one;have hb2:=hb.cells;refine Z8 mix Tryz.func3 ?_;simp only [pwA,seval,-iQ0,hb1];refine zM9 hb fun t ht=>?_
 cases t with
 | true=>
  simp only [pwA,seval,-iQ0];exact hk _
 | false=>
 have hlen:bs.length≤4096:=by
  rcases Nat.lt_or_ge 4096 bs.length with e|e
  ·have:=ht.2 e;cases this
  ·exact e
 clear ht;have hB:Byt bs:=⟨by omega,hbd⟩
 simp only [pwA,seval,-iQ0,hb1];refine zAS hb hB fun p vP vB W B p' vP' vB' W' B' vL im d hR d' hR' hL szl=>?_
 have g1:=hR.P.one;have g2:=hR.B.one;have f1:=hR'.P.one;have f2:=hR'.B.one;have sz:=d.sz;have sz':=d'.sz;have gl:=hL.one;simp only [pwA,seval,-iQ0,g1,g2,f1,f2,gl];have r1:((σ.new [.int .i64 p,vP,vB]).new [.int .i64 p',vP',vB']).rd σ.next 0 3=some [.int .i64 p,vP,vB]:=by simp only [pwA,seval,-iQ0]
 have r2:((σ.new [.int .i64 p,vP,vB]).new [.int .i64 p',vP',vB']).rd (σ.next+1) 0 3=some [.int .i64 p',vP',vB']:=by simp only [pwA,seval,-iQ0]
 have r3:((σ.new [.int .i64 p,vP,vB]).new [.int .i64 p',vP',vB']).rd1 σ.next 1=some vP:=by simp only [pwA,seval,-iQ0]
 have r4:((σ.new [.int .i64 p,vP,vB]).new [.int .i64 p',vP',vB']).rd1 (σ.next+1) 1=some vP':=by simp only [pwA,seval,-iQ0]
 have lP:pLen vP=some (.int .i64 W.length):=by
  obtain⟨wP,aP,rP,rfl,_⟩:=hR.P
  rfl
 have lP':pLen vP'=some (.int .i64 W'.length):=by
  obtain⟨wP,aP,rP,rfl,_⟩:=hR'.P
  rfl
 have hHn:((σ.new [.int .i64 p,vP,vB]).new [.int .i64 p',vP',vB']).next=σ.next+2:=rfl;generalize (σ.new [.int .i64 p,vP,vB]).new [.int .i64 p',vP',vB']=H at *
 have hHne2:¬σ.next+1=H.next:=by omega
 have hHne1:¬σ.next=H.next:=by omega
 refine zHQ hR hR' sz sz' hL szl fun ok hok=>?_
 simp only [pwA,seval,-iQ0,r1,r2,g1,g2,f1,f2];refine zBV hR hR' sz sz' hL szl fun same hsame=>?_
 simp only [pwA,seval,-iQ0,r1,r2,g1,g2,f1,f2];refine zEe hR hR' sz sz' hL szl fun ok2 hok2=>?_
 obtain rfl:=zEQ hok2 hok;clear hok;cases ok2 with
 | false=>
  obtain rfl:same=false:=by
   cases same
   ·rfl
   ·exact absurd (hok2.2 (hsame.1 rfl).1) (by decide)
  simp only [pwA,seval,-iQ0,r1,r2,g1,g2,f1,f2,decide_true,beq_self_eq_true,Bool.not_true];refine zEf hR hR' sz sz' hL szl fun same2 hsame2=>?_
  obtain rfl:=zEQ hsame2 hsame;simp only [pwA,seval,-iQ0,decide_true,beq_self_eq_true,Bool.not_true];exact hk _
 | true=>
 have hm:=hok2.1 rfl;clear hok2;simp only [pwA,seval,-iQ0,r1,r2,g1,g2,f1,f2,decide_true,beq_self_eq_true,Bool.not_true];refine zEf hR hR' sz sz' hL szl fun same2 hsame2=>?_
 obtain rfl:=zEQ hsame2 hsame;clear hsame;have M:=hm.mp;have hl:=hm.1;have hl':=hm.2.1;have hpp:=hm.2.2.1;have he:Els p' W'.length im:=hm.2.2.2.2.1;have o:=hl.1.w;have o':=hl'.1.w;have hn6:=o.le;have hn6':=o'.le;subst hpp;cases same2 with
 | false=>
  simp only [pwA,seval,-iQ0,r1,r2,g1,g2,f1,f2,decide_true,beq_self_eq_true,Bool.not_true];refine zEw hR' sz' hL szl fun v1 z1 c1 hz1 hv1=>?_
  obtain⟨k1,rfl⟩:=hz1.yes ⟨hl',he⟩;have sp1:=zDt k1;have len1:=sp1.2.len;have szz:SzL z1:=zHU o' sp1.1 (by omega)
  simp only [pwA,seval,-iQ0,r1,r2,g1,g2,f1,f2,hv1.one];refine zEv hR' sz' hL szl fun v2 z2 c2 hz2 hv2=>?_
  obtain⟨k2,rfl⟩:=hz2.yes ⟨hl',he⟩;obtain rfl:=k1.unique o' k2;clear hz1 hz2 k2;have lz:pLen v2=some (.int .i64 z1.length):=by
   obtain⟨wP,aP,rP,rfl,_⟩:=hv2
   rfl
  simp only [pwA,seval,-iQ0,r1,r2,g1,g2,f1,f2,hv2.one];refine zCn hR' sz' hv2 szz fun t c hr=>?_
  obtain⟨rfl,rfl⟩:t=true∧c=0:=by
   rcases hr with ⟨e,_⟩|⟨_,e,rfl⟩
   ·exact absurd ⟨hl',sp1⟩ e
   ·exact⟨e.2 fun x hx y hy=>M.subring k1 hx hy,rfl⟩
  clear hr;simp only [pwA,seval,-iQ0,decide_true];refine zBl hv1 hv2 szz fun t ht=>?_
  obtain rfl:t=true:=ht.2 rfl;clear ht
  by_cases e1:z1.length=W'.length
  ·have e1':(z1.length:Int)=(W'.length:Int):=by omega
   have e2:¬W'.length=W.length:=fun e=>absurd (hsame2.2 ((zB9 hm e.symm k1).2 e1)) (by decide)
   have e2':¬(W'.length:Int)=(W.length:Int):=by omega
   simp only [pwA,seval,-iQ0,r3,r4,lP,lP',lz,g1,f1,hv2.one,e1,e1',e2,e2',decide_true,beq_self_eq_true,Bool.not_true];exact hk _
  ·have e1':¬(z1.length:Int)=(W'.length:Int):=by omega
   simp only [pwA,seval,-iQ0,r3,r4,lP,lP',lz,g1,f1,hv2.one,e1,e1',decide_true,beq_self_eq_true,Bool.not_true];exact hk _
 | true=>
  simp only [pwA,seval,-iQ0,r1,r2,g1,g2,f1,f2,decide_true,beq_self_eq_true,Bool.not_true];refine zEw hR' sz' hL szl fun v1 z1 c1 hz1 hv1=>?_
  obtain⟨k1,rfl⟩:=hz1.yes ⟨hl',he⟩;have sp1:=zDt k1;have len1:=sp1.2.len;have szz:SzL z1:=zHU o' sp1.1 (by omega)
  simp only [pwA,seval,-iQ0,r1,r2,g1,g2,f1,f2,hv1.one];refine zEv hR' sz' hL szl fun v2 z2 c2 hz2 hv2=>?_
  obtain⟨k2,rfl⟩:=hz2.yes ⟨hl',he⟩;obtain rfl:=k1.unique o' k2;clear hz1 hz2 k2;have lz:pLen v2=some (.int .i64 z1.length):=by
   obtain⟨wP,aP,rP,rfl,_⟩:=hv2
   rfl
  simp only [pwA,seval,-iQ0,r1,r2,g1,g2,f1,f2,hv2.one];refine zCn hR' sz' hv2 szz fun t c hr=>?_
  obtain⟨rfl,rfl⟩:t=true∧c=0:=by
   rcases hr with ⟨e,_⟩|⟨_,e,rfl⟩
   ·exact absurd ⟨hl',sp1⟩ e
   ·exact⟨e.2 fun x hx y hy=>M.subring k1 hx hy,rfl⟩
  clear hr;simp only [pwA,seval,-iQ0,decide_true];refine zBl hv1 hv2 szz fun t ht=>?_
  obtain rfl:t=true:=ht.2 rfl;clear ht;have hI:=hsame2.1 rfl;have enn:W.length=W'.length:=hI.2.1;have e1:z1.length=W'.length:=(zB9 hm enn k1).1 hI;have e1':(z1.length:Int)=(W'.length:Int):=by omega
  have e2:W'.length=W.length:=enn.symm;have e2':(W'.length:Int)=(W.length:Int):=by omega
  simp only [pwA,seval,-iQ0,r1,r2,g2,f2,r3,r4,lP,lP',lz,g1,f1,hv2.one,e1,e1',e2,e2',decide_true,beq_self_eq_true,Bool.not_true];obtain⟨P,hP⟩:=Int.eq_ofNat_of_zero_le (show 0≤p by have:=hl.1.1;unfold isP at this;omega)
  have hP0:0<P:=by have:=hl.1.1;unfold isP at this;omega
  refine zA4 hF hP hR sz hl fun va E1 hE1 hva=>?_
  have ova:=hva.one;have q1:∀cs,(H.new cs).rd (σ.next+1) 0 3=some [.int .i64 p,vP',vB']:=fun cs=>by rw [Q8,if_neg hHne2];exact r2
  simp only [pwA,seval,-iQ0,ova,q1];refine zA4 hF hP hR' sz' hl' fun vb E2 hE2 hvb=>?_
  have hrk:rk p W.length W P=rk p W'.length W' P:=funext fun e=>by
   unfold rk cnt;rw [M.count hP hP0 enn k1 e1 (p ^ e)]
  rw [hrk,enn]at hE1 hva
  obtain rfl:=hE1.unique hE2;have ovb:=hvb.one;have hne3:¬σ.next=H.next+1:=by omega
  have hne4:¬σ.next+1=H.next+1:=by omega
  simp only [pwA,seval,-iQ0,ova,ovb,hne3,hne4,hHne1,hHne2,r1,r2,g1,g2,f1,f2];refine zCm hR sz hl fun c hc=>?_
  simp only [pwA,seval,-iQ0,ova,ovb,hne3,hne4,hHne1,hHne2,r1,r2,g1,g2,f1,f2];refine zCm hR' sz' hl' fun dd hd=>?_
  obtain rfl:=M.cls hP hP0 enn k1 e1 hc hd;have hpl:(pts P (gg (rk p W'.length W' P) W'.length E1) E1).length≤1048576:=by
   have h1:=Qv (P:=P) (g:=gg (rk p W'.length W' P) W'.length E1) (E:=E1) (fun j hj=>by
    unfold gg;rw [if_pos hj]
    split
    ·exact zHV o' hP (by omega)
    ·exact rk_le o' hP) (Nat.le_refl E1)
   have h2:gg (rk p W'.length W' P) W'.length E1 E1≤6:=by
    unfold gg;rw [if_pos (Nat.le_refl _)];exact Nat.le_trans (rk_le o' hP) hn6'
   omega
  simp only [pwA,seval,-iQ0,ova,ovb];refine zDa hva hvb hpl fun t ht=>?_
  obtain rfl:t=true:=ht.2 rfl;simp only [pwA,seval,-iQ0,decide_true];exact hk _
end Go.Proofs
namespace Go.Proofs.YtcbdjookdepkbaaGreat
open Go.ChangeShapes Go.WideShapes Go.ChangeAt Go.RowKit Go.Ab Go.Joins Go.Lie Go.Proofs
set_option maxRecDepth 100000 in
theorem zDb {H:Type} {enc:TypeId×Value→H} (W:World) (base:Nat) (args:Array Value) (ds gs:List (DataW H)) (before:List MemPlace)
  (hval:∀(j:Nat) t v,Tryz.f3.params[j]? = some t→args[j]? = some v→Value.okWide Tryz.prog W .any base t v)
  (hW:DataW.Whole enc Tryz.prog Tryz.f3.params.toList Rows.fnLieMapsSpec.vars false W args.toList ds gs before):
  Calls Tryz.prog 3 args W fun e W'=>∃v,e=.returned v∧Rows.fnLieMapsSpec.post enc Tryz.prog Tryz.f3 false true false false W args v W':=by
 have hW':=hW;obtain⟨p,q,hA0,hV,rfl,hfz,hnd⟩:=hW;have hA:DataW.TrodAll enc Tryz.prog W 0 (fun _=>true) true Tryz.f3.params.toList args.toList ds p:=hA0
 rw [Tryz.params3]at hA hval
 obtain⟨v0,vs0,d0,ds0,p0,q0,hargs,rfl,rfl,t0,r0⟩:=trodAll_cons hA;obtain⟨rfl,rfl,rfl⟩:=trodAll_nil r0;obtain rfl:args = #[v0]:=by cases args;simp_all
 obtain⟨n0,t0⟩:=t0;obtain⟨s0,s0',s0'',hv0⟩:=okWide_slice Tryz.underlying22 (hval 0 22 v0 rfl rfl);have hc0:v0.cells.toList=[v0]:=by rw [hv0];rfl
 rw [hc0]at t0
 obtain⟨j0,h0,vX0,X0,m0,l0,e0,i0,o0,_,R0,y0⟩:=layB _ _ _ true n0 _ _ (MR.empty W) t0;have pc:zA Tryz.prog 3 [vX0] (PHeap.start h0) (fun v _=>v=.bool true):=zGX FP_ok R0 y0 (fun _=>rfl)
 have ac:=pc.law m0.wf ⟨o0,trivial⟩;refine(ac.calls m0 (cargs:=#[v0]) ⟨_,_,rfl,i0,rfl⟩).mono fun e W' ⟨he,hb⟩=>?_
 exact⟨_,he,zE2 rfl laidOut (by rw [Tryz.params3];intro t ht;simp only [List.mem_cons,List.not_mem_nil,or_false]at ht;rcases ht with rfl<;>exact⟨by kernel_rfl,of_decide_eq_true (by kernel_rfl)⟩) (by kernel_rfl) Tryz.underlying4 rfl hW' hb⟩
set_option maxRecDepth 100000 in
theorem zE7 (os:Os) (started:os.Started) (H:Type) (enc:TypeId×Value→H):
  ReturnsInHanded {} Tryz.checked os 3 .any (Rows.fnLieMapsSpec.pre6 enc Tryz.prog Tryz.f3 Rows.fnLieMapsRow.domain false) (Rows.fnLieMapsSpec.post enc Tryz.prog Tryz.f3 false true false false):=by
 refine returnsInHanded_of_change (C:=Tryz.checked) own started (by kernel_rfl) Tryz.func3
  (ChangeSpec.witness6 (enc:=enc) (C:=Tryz.checked) false ⟨#[],#[.slice none 0 0],[]⟩ 8 (by kernel_rfl) (by kernel_rfl) (by kernel_rfl) (by kernel_rfl)) ?_
 intro W base args ds gs before hval hW _ _;exact zDb W base args ds gs before hval hW
set_option maxRecDepth 100000 in
theorem zFt:Tryz.prog.funcNamed Rows.fnLieMapsRow.func=some 3:=by kernel_rfl
set_option maxHeartbeats 1600000 in
set_option maxRecDepth 100000 in
theorem zE8:joinedFacts Tryz.prog 3 Tryz.f3 Rows.fnLieMapsSpec Rows.fnLieMapsRow=true:=by
 unfold joinedFacts;simp only [Bool.and_eq_true]
 repeat' apply And.intro
 all_goals (as_aux_lemma=>kernel_rfl)
theorem lieMapsProved:Rows.FnLieMapsSaid:=
 OpenClaim.holds_of_wide 3 Tryz.f3 rfl rfl rfl rfl rfl rfl rfl ⟨rfl,rfl,rfl,rfl,rfl⟩ rfl rfl rfl rfl rfl zFt Tryz.func3 zE8
  (of_decide_eq_true (by kernel_rfl)) (by unfold Func.isWrapper;first | (rw [if_pos (by decide +kernel)];kernel_rfl) | (rw [if_neg (by decide +kernel)];exact⟨rfl,rfl⟩))
  (fun os started H enc _=>zE7 os started H enc)
end Go.Proofs.YtcbdjookdepkbaaGreat
