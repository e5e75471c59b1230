/- The law of certificates' texts: the tied card that is given. -/
import Derived.Test.YtmiobhfjmhgplaaDoorAP19
import Derived.Test.YtmiobhfjmhgplaaDoorAP30
import Derived.Test.YtmiobhfjmhgplaaDoorAP33
import Derived.Test.YtmiobhfjmhgplaaDoorAP35
import Derived.Test.YtmiobhfjmhgplaaDoorAP37
import Derived.Test.YtmiobhfjmhgplaaDoorTie
import Derived.Test.YtmiobhfjmhgplaaDoorCards
import Derived.ProofKit
import Derived.LaidMore
import Derived.Lay
import Derived.Lib.LaidTab
import Derived.Stop.LaidErr
import Derived.SevenTiedAt
import Derived.Stop.Joined
open Int renaming reduceNatCast'→iQ0
set_option maxRecDepth 100000
namespace Go.Grp
end Go.Grp
set_option linter.unusedSimpArgs false
set_option linter.unusedVariables false
namespace Go.Proofs
open Go.Ab Go.Lie Go.Grp
variable {σ:PHeap} {K:PV→PHeap→Prop} {k:Int} {G:List Pre} {L:List (List Int)} {vG vL:PV}
theorem ZW (hG:FG vG G) (mx:MxG G) (hL:FII vL L) (mL:L.length≤9223372036854775807) (mL2:∀x∈L,x.length≤9223372036854775807) (hk:∀σ',K (.bool true) σ'):
  zA Tryd.prog 3 [.agg [.int .i64 k,vG,vL]] σ K:=by
 have h0:=hG.one;have h1:=hL.one;refine zG2 mix Tryd.func3 ?_;simp only [pwA,seval,-iQ0,h0,h1];refine zAf hG mx hL mL mL2 (by unfold left_;omega) fun r h=>?_
 rcases h with rfl|⟨l1,szG,szL⟩
 ·simp only [pwA,seval,-iQ0]
  exact hk _
 have:¬r<0:=by unfold left_ at l1;omega
 simp only [pwA,seval,-iQ0,this,h0,h1];refine qc hG szG hL szL fun a1 a2 q1 q2=>?_
 simp only [pwA,seval,-iQ0,h0,h1,q1.one,q2.one];obtain⟨v,c,hv⟩:∃v c,∀{σ:PHeap} {K:PV→PHeap→Prop},K (.tup [.str v,.int .i64 c]) σ→(¬zx k G L→K (.tup [.str [],.int .i64 1]) σ)∧(zx k G L→K (.tup [.str (certT k G L),.int .i64 0]) σ):=by
  by_cases hc:zx k G L
  ·exact⟨certT k G L,0,fun h=>⟨fun x=>absurd hc x,fun _=>h⟩⟩
  ·exact⟨[],1,fun h=>⟨fun _=>h,fun x=>absurd x hc⟩⟩
 have sp:∀{σ:PHeap} {K:PV→PHeap→Prop} {aG aL:PV},FG aG G→FII aL L→K (.tup [.str v,.int .i64 c]) σ→zA Tryd.prog 5 [.agg [.int .i64 k,aG,aL]] σ K:=
  fun g l h=>Z7 g szG l szL (hv h).1 (hv h).2
 have im:∀{σ:PHeap} {K:PV→PHeap→Prop} {aG aL:PV},FG aG G→FII aL L→K (.tup [.str v,.int .i64 c]) σ→zA Tryd.prog 7 [.agg [.int .i64 k,aG,aL]] σ K:=
  fun g l h=>zAA g szG l szL (hv h).1 (hv h).2
 refine sp q1 q2 ?_;simp only [pwA,seval,-iQ0,h0,h1];refine qc hG szG hL szL fun b1 b2 r1 r2=>?_
 simp only [pwA,seval,-iQ0,h0,h1,r1.one,r2.one];refine im r1 r2 ?_;simp only [pwA,seval,-iQ0,bne_self_eq_false,beq_self_eq_true,h0,h1,r1.one,r2.one];refine qc hG szG hL szL fun c1 c2 s1 s2=>?_
 simp only [pwA,seval,-iQ0,h0,h1,r1.one,r2.one];refine zAs r1 r2 s1 s2 szG szL fun t ht=>?_
 obtain rfl:=ht.2 ⟨rfl,rfl,rfl⟩;simp only [pwA,seval,-iQ0];exact hk _
end Go.Proofs
namespace Go.Proofs.YtmiobhfjmhgplaaDoor
open Go.ChangeShapes Go.WideShapes Go.ChangeAt Go.RowKit Go.Ab Go.Joins Go.Lie Go.Proofs
theorem gdT : Tryd.prog.globalNamed "internal/strconv.uint64pow10" = some gdB := by kernel_rfl
theorem zHj:∃t e,(Tryd.prog.globals[gdB]?).map (·.type)=some t∧Tryd.prog.underlying t=some (.array 20 e)∧Tryd.prog.underlying e=some (.int .u64)∧Tryd.prog.cellsOf e=1∧Tryd.prog.cellsOf t=20:=by
 refine⟨100,92,by kernel_rfl,by kernel_rfl,by kernel_rfl,by kernel_rfl,by kernel_rfl⟩
theorem zEe {W:World} (h:laidMetH Tryd.prog Rows.fnExactCertificateTextRow.laid W):Gd W.heap.size W:=by
 rw [MakeChecks.laidMetH_plain _ _ _ (by kernel_rfl)]at h
 obtain⟨t,e,h1,h2,h3,h4,h5⟩:=zHj;have hl : laidMet Tryd.prog (("internal/strconv.uint64pow10", Lib.tabData .u64 gdL) :: []) W := laidMet.tail (laidMet.tail h);have hT:=Lib.tabIs_of_head gdT h1 h2 h3 h4 h5 hl;unfold Lib.TabIs World.var? at hT
 rw [gdT]at hT
 simp only [Option.bind_some]at hT
 split at hT
 ·rename_i cs ty fz hg
  cases hT;exact⟨(Array.getElem?_eq_some_iff.1 hg).1,ty,fz,hg⟩
 ·cases hT
set_option maxRecDepth 100000 in
theorem Zt {H:Type} {enc:TypeId×Value→H} (W:World) (base:Nat) (args:Array Value) (ds gs:List (DataW H)) (before:List MemPlace)
  (hval:∀(j:Nat) t v,Tryd.f3.params[j]? = some t→args[j]? = some v→Value.okWide Tryd.prog W .any base t v)
  (hW:DataW.Whole enc Tryd.prog Tryd.f3.params.toList Rows.fnExactCertificateTextSpec.vars false W args.toList ds gs before) (hL:laidMetH Tryd.prog Rows.fnExactCertificateTextRow.laid W):
  Calls Tryd.prog 3 args W fun e W'=>∃v,e=.returned v∧Rows.fnExactCertificateTextSpec.post enc Tryd.prog Tryd.f3 false true false false W args v W':=by
 have hW':=hW;obtain⟨p,q,hA0,hV,rfl,hfz,hnd⟩:=hW;have hA:DataW.TrodAll enc Tryd.prog W 0 (fun _=>true) true Tryd.f3.params.toList args.toList ds p:=hA0
 rw [Tryd.params3]at hA hval
 obtain⟨v0,vs0,d0,ds0,p0,q0,hargs,rfl,rfl,t0,r0⟩:=trodAll_cons hA;obtain⟨rfl,rfl,rfl⟩:=trodAll_nil r0;obtain rfl:args = #[v0]:=by cases args;simp_all
 obtain⟨j0,h0,k0,vG0,vL0,G0,L0,m0,l0,e0,i0,o0,R0,x0,xx0,xy0,xz0⟩:=zHN (MR.empty W (zEe hL)) (hval 0 25 v0 rfl rfl) t0;have pc:zA Tryd.prog 3 [.agg [.int .i64 k0,vG0,vL0]] (PHeap.start h0) (fun v _=>v=.bool true):=ZW R0 x0 xx0 xy0 xz0 (fun _=>rfl)
 have ac:=pc.law m0.wf ⟨o0,trivial⟩;refine(ac.calls m0 (cargs:=#[v0]) ⟨_,_,rfl,i0,rfl⟩).mono fun e W' ⟨he,hb⟩=>?_
 exact⟨_,he,zB3 rfl laidOut (by rw [Tryd.params3];intro t ht;simp only [List.mem_cons,List.not_mem_nil,or_false]at ht;rcases ht with rfl<;>exact⟨by kernel_rfl,of_decide_eq_true (by kernel_rfl)⟩) (by kernel_rfl) Tryd.underlying4 rfl hW' hb⟩
set_option maxRecDepth 100000 in
theorem QK (os:Os) (started:os.Started) (H:Type) (enc:TypeId×Value→H):
  ReturnsInHanded {} Tryd.checked os 3 .any (fun w args=>(Rows.fnExactCertificateTextSpec.pre enc Tryd.prog Tryd.f3 Rows.fnExactCertificateTextRow.domain false w args∧laidMetH Tryd.prog Rows.fnExactCertificateTextRow.laid w)∧sizedMet enc Tryd.prog Tryd.f3 (OpenSpec.ofChange Rows.fnExactCertificateTextSpec) false w args)
   (Rows.fnExactCertificateTextSpec.post enc Tryd.prog Tryd.f3 false true false false):=by
 refine returnsInHanded_of_change_and (C:=Tryd.checked) (X:=fun w _=>laidMetH Tryd.prog Rows.fnExactCertificateTextRow.laid w) (fun _ _ _ hh h=>h.of_heap hh) own started (by kernel_rfl) Tryd.func3
  (ChangeSpec.witness_shaped (enc:=enc) (C:=Tryd.checked) (os:=os) (X:=fun w _=>laidMetH Tryd.prog Rows.fnExactCertificateTextRow.laid w) false (World.laidAll Tryd.prog os Rows.fnExactCertificateTextRow.laid) #[.agg #[.int .i64 0,.slice none 0 0,.slice none 0 0]] 8 (World.laidAll_os _ _ _)
   (World.shaped_of_ZipB (by kernel_rfl) (by kernel_rfl)) (by kernel_rfl) (by kernel_rfl) (by kernel_rfl)
   (by rw [MakeChecks.laidMetH_plain _ _ _ (by kernel_rfl)];exact laidMet_laidAll _ (by kernel_rfl) (by kernel_rfl))) ?_
 intro W base args ds gs before hval hW _ _ hL _;exact Zt W base args ds gs before hval hW hL
set_option maxRecDepth 100000 in
theorem qx:Tryd.prog.funcNamed Rows.fnExactCertificateTextRow.func=some 3:=by kernel_rfl
set_option maxRecDepth 100000 in
set_option maxHeartbeats 1600000 in
theorem QL:joinedFacts Tryd.prog 3 Tryd.f3 Rows.fnExactCertificateTextSpec Rows.fnExactCertificateTextRow=true:=by
 unfold joinedFacts;simp only [Bool.and_eq_true]
 repeat' apply And.intro
 all_goals (as_aux_lemma=>kernel_rfl)
theorem QX:Rows.FnExactCertificateTextSaid:=
 OpenClaim.holds_of_wide 3 Tryd.f3 rfl rfl rfl rfl rfl rfl rfl ⟨rfl,rfl,rfl,rfl,rfl⟩ rfl rfl rfl rfl rfl qx Tryd.func3 QL
  (of_decide_eq_true (by kernel_rfl)) (by unfold Func.isWrapper;first | (rw [if_pos (by decide +kernel)];kernel_rfl) | (rw [if_neg (by decide +kernel)];exact⟨rfl,rfl⟩))
  (fun os started H enc _=>QK os started H enc)
theorem certificateTextProved:Rows.FnExactCertificateTextCardSaid:=
 Claim7.holds_tied_plain_at .later [] [.data, .data, .data] true (true, "1ef9540aba5ce8f82508fbb88942d11dd6f467f5dfe24bf9128fbbe19fc5c29e") false QX (fun _ h => by cases h) (by kernel_rfl) (fun _ h => by cases h) fnExactCertificateText_row_tie rfl ⟨rfl, rfl⟩ (by kernel_rfl) rfl
  (fun f fn hf hfn=>by
   obtain rfl:f=3:=Option.some.inj (qx.symm.trans hf) |>.symm;obtain rfl:fn=Tryd.f3:=(Option.some.inj (Tryd.func3.symm.trans hfn)).symm;exact⟨by kernel_rfl,fun j t ht=>by
    rw [Tryd.params3]at ht
    have hm:t∈[25]:=by simpa using Array.mem_of_getElem? ht
    have hall:([25].all fun u=>!Tryd.prog.wantsStandIn u)=true:=by kernel_rfl
    exact(show Tryd.prog.wantsStandIn t=false by simpa using List.all_eq_true.1 hall t hm)⟩)
  (by kernel_rfl)
end Go.Proofs.YtmiobhfjmhgplaaDoor
