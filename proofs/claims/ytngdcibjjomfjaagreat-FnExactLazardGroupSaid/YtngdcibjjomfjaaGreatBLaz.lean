/- The statement on the groups of Lazard rings. -/
import Derived.Test.YtngdcibjjomfjaaGreatBP27
import Derived.Test.YtngdcibjjomfjaaGreatBP28
import Derived.Test.YtngdcibjjomfjaaGreatBP29
import Derived.Test.YtngdcibjjomfjaaGreatBP31
import Derived.Test.YtngdcibjjomfjaaGreatBP32
import Derived.Test.YtngdcibjjomfjaaGreatBP34
import Derived.Test.YtngdcibjjomfjaaGreatBP37
import Derived.Test.YtngdcibjjomfjaaGreatBP41
import Derived.Test.YtngdcibjjomfjaaGreatBP42
namespace Go.Grp
end Go.Grp
set_option linter.unusedSimpArgs false
set_option linter.unusedVariables false
namespace Go.Proofs
open Go.Ab Go.Lie Go.Grp
theorem FnExactLazardGroup_ok {h : AHeap} {pr : Int} {Wr : List (List Int)} {Br : List (List (List Int))} {vPr vBr : PV} (hRr : IsR vPr vBr Wr Br) (mxr : MxR Wr Br) (ha : ∀ o ∈ eads [.agg [.int .i64 pr, vPr, vBr]], o < h.next) :
    vm Tryz.prog if3.body (retP if3.res isTrue_) (PEnv.mk if3.params [.agg [.int .i64 pr, vPr, vBr]]) (PHeap.start h) := by
  have h1r := hRr.P.one
  have h2r := hRr.B.one
  have havPr : ∀ o ∈ ead vPr, o < h.next := fun o ho => ha o (by simp [eads, ead, ho])
  have havBr : ∀ o ∈ ead vBr, o < h.next := fun o ho => ha o (by simp [eads, ead, ho])
  dsimp only [if3, qI, eI, nI, qD, eD]
  simp only [pm0, pwA, if_true, if_false, eq_self, nm_eq, reduceCtorEq, ↓reduceIte, Nat.reduceEqDiff, Nat.reduceLeDiff, Nat.reduceBEq, Nat.reduceAdd, Nat.reduceLT, Nat.reduceSub, Nat.reduceMul, Int.reduceEq, Int.reduceLT, Int.reduceLE, Int.reduceNeg, Int.reduceToNat, List.reduceReplicate, Int.ofNat_le, List.getElem?_drop, h1r, h2r]
  refine CallM.pure ?_
  simp only [pm0, pwA, if_true, if_false, eq_self, nm_eq, reduceCtorEq, ↓reduceIte, Nat.reduceEqDiff, Nat.reduceLeDiff, Nat.reduceBEq, Nat.reduceAdd, Nat.reduceLT, Nat.reduceSub, Nat.reduceMul, Int.reduceEq, Int.reduceLT, Int.reduceLE, Int.reduceNeg, Int.reduceToNat, List.reduceReplicate, Int.ofNat_le, List.getElem?_drop]
  refine szLieRing_ok hRr mxr (by unfold left_; omega) fun rr hr => ?_
  rcases hr with rfl | ⟨lr, szr⟩
  · simp only [pm0, pwA, if_true, if_false, eq_self, nm_eq, reduceCtorEq, ↓reduceIte, Nat.reduceEqDiff, Nat.reduceLeDiff, Nat.reduceBEq, Nat.reduceAdd, Nat.reduceLT, Nat.reduceSub, Nat.reduceMul, Int.reduceEq, Int.reduceLT, Int.reduceLE, Int.reduceNeg, Int.reduceToNat, List.reduceReplicate, Int.ofNat_le, List.getElem?_drop]
    rfl
  have hrr : ¬ rr < 0 := by unfold left_ at lr; omega
  simp only [pm0, pwA, if_true, if_false, eq_self, nm_eq, reduceCtorEq, ↓reduceIte, Nat.reduceEqDiff, Nat.reduceLeDiff, Nat.reduceBEq, Nat.reduceAdd, Nat.reduceLT, Nat.reduceSub, Nat.reduceMul, Int.reduceEq, Int.reduceLT, Int.reduceLE, Int.reduceNeg, Int.reduceToNat, List.reduceReplicate, Int.ofNat_le, List.getElem?_drop, hrr]
  refine CallM.pure ?_
  simp only [pm0, pwA, if_true, if_false, eq_self, nm_eq, reduceCtorEq, ↓reduceIte, Nat.reduceEqDiff, Nat.reduceLeDiff, Nat.reduceBEq, Nat.reduceAdd, Nat.reduceLT, Nat.reduceSub, Nat.reduceMul, Int.reduceEq, Int.reduceLT, Int.reduceLE, Int.reduceNeg, Int.reduceToNat, List.reduceReplicate, Int.ofNat_le, List.getElem?_drop]
  refine toLieRing_fz hRr szr fun aPr aBr aqr => ?_
  simp only [pm0, pwA, if_true, if_false, eq_self, nm_eq, reduceCtorEq, ↓reduceIte, Nat.reduceEqDiff, Nat.reduceLeDiff, Nat.reduceBEq, Nat.reduceAdd, Nat.reduceLT, Nat.reduceSub, Nat.reduceMul, Int.reduceEq, Int.reduceLT, Int.reduceLE, Int.reduceNeg, Int.reduceToNat, List.reduceReplicate, Int.ofNat_le, List.getElem?_drop]
  refine CallM.pure ?_
  simp only [pm0, pwA, if_true, if_false, eq_self, nm_eq, reduceCtorEq, ↓reduceIte, Nat.reduceEqDiff, Nat.reduceLeDiff, Nat.reduceBEq, Nat.reduceAdd, Nat.reduceLT, Nat.reduceSub, Nat.reduceMul, Int.reduceEq, Int.reduceLT, Int.reduceLE, Int.reduceNeg, Int.reduceToNat, List.reduceReplicate, Int.ofNat_le, List.getElem?_drop]
  refine l34LazardGroup_ok aqr szr fun w0 w1 w2 z0 z1 z2 c hz hw0 => ?_
  have hzb := lg_bd hz
  simp only [pm0, pwA, if_true, if_false, eq_self, nm_eq, reduceCtorEq, ↓reduceIte, Nat.reduceEqDiff, Nat.reduceLeDiff, Nat.reduceBEq, Nat.reduceAdd, Nat.reduceLT, Nat.reduceSub, Nat.reduceMul, Int.reduceEq, Int.reduceLT, Int.reduceLE, Int.reduceNeg, Int.reduceToNat, List.reduceReplicate, Int.ofNat_le, List.getElem?_drop, hw0.O.one, hw0.P.one, hw0.C.one]
  refine CallM.topH fun t0 ht0 hb0 hbh => ?_
  have bw' := hbh ((PHeap.start h).next + 1) [w0, w1, w2] (by simp only [pm0, pwA, if_true, if_false, eq_self, nm_eq, reduceCtorEq, ↓reduceIte, Nat.reduceEqDiff, Nat.reduceLeDiff, Nat.reduceBEq, Nat.reduceAdd, Nat.reduceLT, Nat.reduceSub, Nat.reduceMul, Int.reduceEq, Int.reduceLT, Int.reduceLE, Int.reduceNeg, Int.reduceToNat, List.reduceReplicate, Int.ofNat_le, List.getElem?_drop])
  have bw0 : ∀ o ∈ ead w0, o < t0 := fun o ho => bw' o (by simp [eads, ho])
  have bw1 : ∀ o ∈ ead w1, o < t0 := fun o ho => bw' o (by simp [eads, ho])
  have bw2 : ∀ o ∈ ead w2, o < t0 := fun o ho => bw' o (by simp [eads, ho])
  simp only [ptop_new, ptop_start] at ht0
  refine CallM.pure ?_
  simp only [pm0, pwA, if_true, if_false, eq_self, nm_eq, reduceCtorEq, ↓reduceIte, Nat.reduceEqDiff, Nat.reduceLeDiff, Nat.reduceBEq, Nat.reduceAdd, Nat.reduceLT, Nat.reduceSub, Nat.reduceMul, Int.reduceEq, Int.reduceLT, Int.reduceLE, Int.reduceNeg, Int.reduceToNat, List.reduceReplicate, Int.ofNat_le, List.getElem?_drop]
  refine toLieRing_T hRr szr fun xPr xBr t1 qr or hh1 => ?_
  simp only [ptop_up] at or hh1
  simp only [pm0, pwA, if_true, if_false, eq_self, nm_eq, reduceCtorEq, ↓reduceIte, Nat.reduceEqDiff, Nat.reduceLeDiff, Nat.reduceBEq, Nat.reduceAdd, Nat.reduceLT, Nat.reduceSub, Nat.reduceMul, Int.reduceEq, Int.reduceLT, Int.reduceLE, Int.reduceNeg, Int.reduceToNat, List.reduceReplicate, Int.ofNat_le, List.getElem?_drop, qr.P.one, qr.B.one, up_up]
  refine CallM.pure ?_
  simp only [pm0, pwA, if_true, if_false, eq_self, nm_eq, reduceCtorEq, ↓reduceIte, Nat.reduceEqDiff, Nat.reduceLeDiff, Nat.reduceBEq, Nat.reduceAdd, Nat.reduceLT, Nat.reduceSub, Nat.reduceMul, Int.reduceEq, Int.reduceLT, Int.reduceLE, Int.reduceNeg, Int.reduceToNat, List.reduceReplicate, Int.ofNat_le, List.getElem?_drop]
  refine LazardGroup_T qr szr fun g0 g1 g2 y0 y1 y2 c' t2 hz' hg0 og hh2 => ?_
  simp only [ptop_up] at og hh2
  obtain ⟨⟨rfl, rfl, rfl⟩, rfl⟩ := hz'.unique hz
  simp only [pm0, pwA, if_true, if_false, eq_self, nm_eq, reduceCtorEq, ↓reduceIte, Nat.reduceEqDiff, Nat.reduceLeDiff, Nat.reduceBEq, Nat.reduceAdd, Nat.reduceLT, Nat.reduceSub, Nat.reduceMul, Int.reduceEq, Int.reduceLT, Int.reduceLE, Int.reduceNeg, Int.reduceToNat, List.reduceReplicate, Int.ofNat_le, List.getElem?_drop, hg0.O.one, hg0.P.one, hg0.C.one]
  have lg0 : ∀ o ∈ ead g0, t1 ≤ o ∧ o < t2 := fun o ho => og.lt o (by simp [ead, eads, ho])
  have lg1 : ∀ o ∈ ead g1, t1 ≤ o ∧ o < t2 := fun o ho => og.lt o (by simp [ead, eads, ho])
  have lg2 : ∀ o ∈ ead g2, t1 ≤ o ∧ o < t2 := fun o ho => og.lt o (by simp [ead, eads, ho])
  refine CallM.pure ?_
  simp only [pm0, pwA, if_true, if_false, eq_self, nm_eq, reduceCtorEq, ↓reduceIte, Nat.reduceEqDiff, Nat.reduceLeDiff, Nat.reduceBEq, Nat.reduceAdd, Nat.reduceLT, Nat.reduceSub, Nat.reduceMul, Int.reduceEq, Int.reduceLT, Int.reduceLE, Int.reduceNeg, Int.reduceToNat, List.reduceReplicate, Int.ofNat_le, List.getElem?_drop]
  refine eqPresentation_ok hg0 hw0 hzb fun t ht => ?_
  obtain rfl := ht.2 ⟨rfl, rfl, rfl⟩
  simp only [pm0, pwA, if_true, if_false, eq_self, nm_eq, reduceCtorEq, ↓reduceIte, Nat.reduceEqDiff, Nat.reduceLeDiff, Nat.reduceBEq, Nat.reduceAdd, Nat.reduceLT, Nat.reduceSub, Nat.reduceMul, Int.reduceEq, Int.reduceLT, Int.reduceLE, Int.reduceNeg, Int.reduceToNat, List.reduceReplicate, Int.ofNat_le, List.getElem?_drop]
  refine toLieRing_fz hRr szr fun b1r b2r sr => ?_
  simp only [pm0, pwA, if_true, if_false, eq_self, nm_eq, reduceCtorEq, ↓reduceIte, Nat.reduceEqDiff, Nat.reduceLeDiff, Nat.reduceBEq, Nat.reduceAdd, Nat.reduceLT, Nat.reduceSub, Nat.reduceMul, Int.reduceEq, Int.reduceLT, Int.reduceLE, Int.reduceNeg, Int.reduceToNat, List.reduceReplicate, Int.ofNat_le, List.getElem?_drop]
  refine eqLieRing_ok qr sr szr fun t ht => ?_
  obtain rfl := ht.2 ⟨rfl, rfl, rfl⟩
  simp only [pm0, pwA, if_true, if_false, eq_self, nm_eq, reduceCtorEq, ↓reduceIte, Nat.reduceEqDiff, Nat.reduceLeDiff, Nat.reduceBEq, Nat.reduceAdd, Nat.reduceLT, Nat.reduceSub, Nat.reduceMul, Int.reduceEq, Int.reduceLT, Int.reduceLE, Int.reduceNeg, Int.reduceToNat, List.reduceReplicate, Int.ofNat_le, List.getElem?_drop]
  have hbtr := totR_bd szr
  refine CallM.mark' (by simp only [pm0, pwA, if_true, if_false, eq_self, nm_eq, reduceCtorEq, ↓reduceIte, Nat.reduceEqDiff, Nat.reduceLeDiff, Nat.reduceBEq, Nat.reduceAdd, Nat.reduceLT, Nat.reduceSub, Nat.reduceMul, Int.reduceEq, Int.reduceLT, Int.reduceLE, Int.reduceNeg, Int.reduceToNat, List.reduceReplicate, Int.ofNat_le, List.getElem?_drop]) (markLieRing_M (k := 1) qr or szr (by omega) (by omega)) ?_
  have k0 := keysR (k := 1) qr or
  generalize mkR (1) xPr xBr Wr Br = L1 at *
  have m0_0 : rm L1 vPr = vPr := rm_far k0 fun o ho => .inl (by have := havPr o ho; omega)
  have m0_1 : rm L1 vBr = vBr := rm_far k0 fun o ho => .inl (by have := havBr o ho; omega)
  have m0_w0 : rm L1 w0 = w0 := rm_far k0 fun o ho => .inl (by have := bw0 o ho; omega)
  have m0_w1 : rm L1 w1 = w1 := rm_far k0 fun o ho => .inl (by have := bw1 o ho; omega)
  have m0_w2 : rm L1 w2 = w2 := rm_far k0 fun o ho => .inl (by have := bw2 o ho; omega)
  have m0_g0 : rm L1 g0 = g0 := rm_far k0 fun o ho => .inr (by have := lg0 o ho; omega)
  have m0_g1 : rm L1 g1 = g1 := rm_far k0 fun o ho => .inr (by have := lg1 o ho; omega)
  have m0_g2 : rm L1 g2 = g2 := rm_far k0 fun o ho => .inr (by have := lg2 o ho; omega)
  have hn : ¬ (1 + (totR Wr Br : Int) < 0) := by omega
  simp only [pm0, pwA, if_true, if_false, eq_self, nm_eq, reduceCtorEq, ↓reduceIte, Nat.reduceEqDiff, Nat.reduceLeDiff, Nat.reduceBEq, Nat.reduceAdd, Nat.reduceLT, Nat.reduceSub, Nat.reduceMul, Int.reduceEq, Int.reduceLT, Int.reduceLE, Int.reduceNeg, Int.reduceToNat, List.reduceReplicate, Int.ofNat_le, List.getElem?_drop, m0_0, m0_1, m0_w0, m0_w1, m0_w2, m0_g0, m0_g1, m0_g2, hn]
  refine CallM.pure ?_
  simp only [pm0, pwA, if_true, if_false, eq_self, nm_eq, reduceCtorEq, ↓reduceIte, Nat.reduceEqDiff, Nat.reduceLeDiff, Nat.reduceBEq, Nat.reduceAdd, Nat.reduceLT, Nat.reduceSub, Nat.reduceMul, Int.reduceEq, Int.reduceLT, Int.reduceLE, Int.reduceNeg, Int.reduceToNat, List.reduceReplicate, Int.ofNat_le, List.getElem?_drop]
  refine eqPresentation_ok hg0 hw0 hzb fun t ht => ?_
  obtain rfl := ht.2 ⟨rfl, rfl, rfl⟩
  simp only [pm0, pwA, if_true, if_false, eq_self, nm_eq, reduceCtorEq, ↓reduceIte, Nat.reduceEqDiff, Nat.reduceLeDiff, Nat.reduceBEq, Nat.reduceAdd, Nat.reduceLT, Nat.reduceSub, Nat.reduceMul, Int.reduceEq, Int.reduceLT, Int.reduceLE, Int.reduceNeg, Int.reduceToNat, List.reduceReplicate, Int.ofNat_le, List.getElem?_drop]
  have hzt := totP_bdx hzb
  refine CallM.mark' (by simp only [pm0, pwA, if_true, if_false, eq_self, nm_eq, reduceCtorEq, ↓reduceIte, Nat.reduceEqDiff, Nat.reduceLeDiff, Nat.reduceBEq, Nat.reduceAdd, Nat.reduceLT, Nat.reduceSub, Nat.reduceMul, Int.reduceEq, Int.reduceLT, Int.reduceLE, Int.reduceNeg, Int.reduceToNat, List.reduceReplicate, Int.ofNat_le, List.getElem?_drop]) (markPresentation_M (k := 1) hg0 og hzb (by omega) (by omega)) ?_
  have kg := keysP (k := 1) hg0 og
  obtain ⟨hgm0, hgm1, hgm2⟩ := rmP (k := 1) hg0 og
  generalize mkPr 1 g0 g1 g2 y0 y1 y2 = Lg at *
  have mg_0 : rm Lg vPr = vPr := rm_far kg fun o ho => .inl (by have := havPr o ho; omega)
  have mg_1 : rm Lg vBr = vBr := rm_far kg fun o ho => .inl (by have := havBr o ho; omega)
  have mg_w0 : rm Lg w0 = w0 := rm_far kg fun o ho => .inl (by have := bw0 o ho; omega)
  have mg_w1 : rm Lg w1 = w1 := rm_far kg fun o ho => .inl (by have := bw1 o ho; omega)
  have mg_w2 : rm Lg w2 = w2 := rm_far kg fun o ho => .inl (by have := bw2 o ho; omega)
  obtain ⟨rg0, mg_g0⟩ : ∃ r, rm Lg g0 = r := ⟨_, rfl⟩
  rw [mg_g0] at hgm0
  obtain ⟨rg1, mg_g1⟩ : ∃ r, rm Lg g1 = r := ⟨_, rfl⟩
  rw [mg_g1] at hgm1
  obtain ⟨rg2, mg_g2⟩ : ∃ r, rm Lg g2 = r := ⟨_, rfl⟩
  rw [mg_g2] at hgm2
  have hzu := hzt
  unfold totP at hzu
  have hte : 1 + (y0.length : Int) + (totL List.length y1 : Int) + (totL (totL List.length) y2 : Int) = 1 + (totP y0 y1 y2 : Int) := by unfold totP; omega
  simp only [pm0, pwA, if_true, if_false, eq_self, nm_eq, reduceCtorEq, ↓reduceIte, Nat.reduceEqDiff, Nat.reduceLeDiff, Nat.reduceBEq, Nat.reduceAdd, Nat.reduceLT, Nat.reduceSub, Nat.reduceMul, Int.reduceEq, Int.reduceLT, Int.reduceLE, Int.reduceNeg, Int.reduceToNat, List.reduceReplicate, Int.ofNat_le, List.getElem?_drop, mg_0, mg_1, mg_w0, mg_w1, mg_w2, mg_g0, mg_g1, mg_g2]
  refine CallM.pure ?_
  simp only [pm0, pwA, if_true, if_false, eq_self, nm_eq, reduceCtorEq, ↓reduceIte, Nat.reduceEqDiff, Nat.reduceLeDiff, Nat.reduceBEq, Nat.reduceAdd, Nat.reduceLT, Nat.reduceSub, Nat.reduceMul, Int.reduceEq, Int.reduceLT, Int.reduceLE, Int.reduceNeg, Int.reduceToNat, List.reduceReplicate, Int.ofNat_le, List.getElem?_drop]
  refine heldPresentation_ok hgm0 hgm1 hgm2 hzb (by omega) (by omega) ?_
  rw [hte]
  have hn1 : ¬ (1 + (totP y0 y1 y2 : Int) < 0) := by omega
  simp only [pm0, pwA, if_true, if_false, eq_self, nm_eq, reduceCtorEq, ↓reduceIte, Nat.reduceEqDiff, Nat.reduceLeDiff, Nat.reduceBEq, Nat.reduceAdd, Nat.reduceLT, Nat.reduceSub, Nat.reduceMul, Int.reduceEq, Int.reduceLT, Int.reduceLE, Int.reduceNeg, Int.reduceToNat, List.reduceReplicate, Int.ofNat_le, List.getElem?_drop, hn1]
  refine CallM.pure ?_
  simp only [pm0, pwA, if_true, if_false, eq_self, nm_eq, reduceCtorEq, ↓reduceIte, Nat.reduceEqDiff, Nat.reduceLeDiff, Nat.reduceBEq, Nat.reduceAdd, Nat.reduceLT, Nat.reduceSub, Nat.reduceMul, Int.reduceEq, Int.reduceLT, Int.reduceLE, Int.reduceNeg, Int.reduceToNat, List.reduceReplicate, Int.ofNat_le, List.getElem?_drop]
  refine toLieRing_fz hRr szr fun dPr dBr dqr => ?_
  simp only [pm0, pwA, if_true, if_false, eq_self, nm_eq, reduceCtorEq, ↓reduceIte, Nat.reduceEqDiff, Nat.reduceLeDiff, Nat.reduceBEq, Nat.reduceAdd, Nat.reduceLT, Nat.reduceSub, Nat.reduceMul, Int.reduceEq, Int.reduceLT, Int.reduceLE, Int.reduceNeg, Int.reduceToNat, List.reduceReplicate, Int.ofNat_le, List.getElem?_drop]
  refine CallM.pure ?_
  simp only [pm0, pwA, if_true, if_false, eq_self, nm_eq, reduceCtorEq, ↓reduceIte, Nat.reduceEqDiff, Nat.reduceLeDiff, Nat.reduceBEq, Nat.reduceAdd, Nat.reduceLT, Nat.reduceSub, Nat.reduceMul, Int.reduceEq, Int.reduceLT, Int.reduceLE, Int.reduceNeg, Int.reduceToNat, List.reduceReplicate, Int.ofNat_le, List.getElem?_drop]
  refine LazardGroup_T dqr szr fun f0 f1 f2 x0 x1 x2 c2 tz hz2 hg2 og2 hhz => ?_
  obtain ⟨⟨rfl, rfl, rfl⟩, rfl⟩ := hz2.unique hz
  simp only [pm0, pwA, if_true, if_false, eq_self, nm_eq, reduceCtorEq, ↓reduceIte, Nat.reduceEqDiff, Nat.reduceLeDiff, Nat.reduceBEq, Nat.reduceAdd, Nat.reduceLT, Nat.reduceSub, Nat.reduceMul, Int.reduceEq, Int.reduceLT, Int.reduceLE, Int.reduceNeg, Int.reduceToNat, List.reduceReplicate, Int.ofNat_le, List.getElem?_drop, hg2.O.one, hg2.P.one, hg2.C.one]
  refine CallM.pure ?_
  simp only [pm0, pwA, if_true, if_false, eq_self, nm_eq, reduceCtorEq, ↓reduceIte, Nat.reduceEqDiff, Nat.reduceLeDiff, Nat.reduceBEq, Nat.reduceAdd, Nat.reduceLT, Nat.reduceSub, Nat.reduceMul, Int.reduceEq, Int.reduceLT, Int.reduceLE, Int.reduceNeg, Int.reduceToNat, List.reduceReplicate, Int.ofNat_le, List.getElem?_drop]
  refine eqPresentation_ok hg2 hw0 hzb fun t ht => ?_
  obtain rfl := ht.2 ⟨rfl, rfl, rfl⟩
  simp only [pm0, pwA, if_true, if_false, eq_self, nm_eq, reduceCtorEq, ↓reduceIte, Nat.reduceEqDiff, Nat.reduceLeDiff, Nat.reduceBEq, Nat.reduceAdd, Nat.reduceLT, Nat.reduceSub, Nat.reduceMul, Int.reduceEq, Int.reduceLT, Int.reduceLE, Int.reduceNeg, Int.reduceToNat, List.reduceReplicate, Int.ofNat_le, List.getElem?_drop]
  refine CallM.pure ?_
  simp only [pm0, pwA, if_true, if_false, eq_self, nm_eq, reduceCtorEq, ↓reduceIte, Nat.reduceEqDiff, Nat.reduceLeDiff, Nat.reduceBEq, Nat.reduceAdd, Nat.reduceLT, Nat.reduceSub, Nat.reduceMul, Int.reduceEq, Int.reduceLT, Int.reduceLE, Int.reduceNeg, Int.reduceToNat, List.reduceReplicate, Int.ofNat_le, List.getElem?_drop]
  refine heldPresentation_ok hgm0 hgm1 hgm2 hzb (by omega) (by omega) ?_
  rw [hte]
  simp only [pm0, pwA, if_true, if_false, eq_self, nm_eq, reduceCtorEq, ↓reduceIte, Nat.reduceEqDiff, Nat.reduceLeDiff, Nat.reduceBEq, Nat.reduceAdd, Nat.reduceLT, Nat.reduceSub, Nat.reduceMul, Int.reduceEq, Int.reduceLT, Int.reduceLE, Int.reduceNeg, Int.reduceToNat, List.reduceReplicate, Int.ofNat_le, List.getElem?_drop, hn1]
  rfl
end Go.Proofs
namespace Go.Proofs.YtngdcibjjomfjaaGreat
open Go.ChangeShapes Go.WideShapes Go.ChangeAt Go.RowKit Go.Ab Go.Joins Go.Lie Go.Proofs
set_option linter.unusedVariables false
set_option maxRecDepth 100000 in
theorem lazardGroupContract {H : Type} {enc : TypeId × Value → H} (W : World) (base : Nat) (args : Array Value) (ds gs : List (DataW H)) (before : List MemPlace)
    (hval : ∀ (j : Nat) t v, Tryz.f3.params[j]? = some t → args[j]? = some v → Value.okWide Tryz.prog W .any base t v)
    (hW : DataW.Whole enc Tryz.prog Tryz.f3.params.toList Rows.fnExactLazardGroupSpec.vars false W args.toList ds gs before) :
    Calls Tryz.prog 3 args W fun e W' => ∃ v, e = .returned v ∧ Rows.fnExactLazardGroupSpec.post enc Tryz.prog Tryz.f3 false true false false W args v W' := by
  have hW' := hW
  obtain ⟨p, q, hA0, hV, rfl, hfz, hnd⟩ := hW
  have hA : DataW.TrodAll enc Tryz.prog W 0 (fun _ => true) true Tryz.f3.params.toList args.toList ds p := hA0
  rw [Tryz.params3] at hA hval
  obtain ⟨v0, vs0, d0, ds0, p0, q0, hargs, rfl, rfl, t0, r0⟩ := trodAll_cons hA
  obtain ⟨rfl, rfl, rfl⟩ := trodAll_nil r0
  obtain rfl : args = #[v0] := by cases args; simp_all
  obtain ⟨j0, h0, a0, vP0, vB0, W0, B0, m0, l0, e0, i0, o0, R0, x0⟩ := layLie (MR.empty W) (hval 0 25 v0 rfl rfl) t0
  have ac := law_of_vm (h := h0) mix Tryz.func3 cf3 (args := [.agg [.int .i64 a0, vP0, vB0]]) rfl m0.wf ⟨o0, trivial⟩ fun ha => FnExactLazardGroup_ok R0 x0 ha
  refine (ac.calls m0 (cargs := #[v0]) ⟨_, _, rfl, i0, rfl⟩).mono fun e W' ⟨he, hb⟩ => ?_
  exact ⟨_, he, post_of_below rfl laidOut (by rw [Tryz.params3]; intro t ht; simp only [List.mem_cons, List.not_mem_nil, or_false] at ht; rcases ht with rfl <;> exact ⟨by kernel_rfl, of_decide_eq_true (by kernel_rfl)⟩) (by kernel_rfl) Tryz.underlying4 rfl hW' hb⟩
set_option maxRecDepth 100000 in
theorem lazardGroupLifted (os : Os) (started : os.Started) (H : Type) (enc : TypeId × Value → H) :
    ReturnsInHanded {} Tryz.checked os 3 .any (Rows.fnExactLazardGroupSpec.pre6 enc Tryz.prog Tryz.f3 Rows.fnExactLazardGroupRow.domain false) (Rows.fnExactLazardGroupSpec.post enc Tryz.prog Tryz.f3 false true false false) := by
  refine returnsInHanded_of_change (C := Tryz.checked) own started (by kernel_rfl) Tryz.func3
    (ChangeSpec.witness6 (enc := enc) (C := Tryz.checked) false ⟨#[], #[.agg #[.int .i64 0, .slice none 0 0, .slice none 0 0]], []⟩ 8 (by kernel_rfl) (by kernel_rfl) (by kernel_rfl) (by kernel_rfl)) ?_
  intro W base args ds gs before hval hW _ _
  exact lazardGroupContract W base args ds gs before hval hW
theorem lazardGroupProved : Rows.FnExactLazardGroupSaid :=
  OpenClaim.holds_of_wide 3 Tryz.f3 rfl rfl rfl rfl rfl rfl rfl ⟨rfl, rfl, rfl, rfl, rfl⟩ rfl rfl rfl rfl rfl (by kernel_rfl) Tryz.func3 (by kernel_rfl)
    (of_decide_eq_true (by kernel_rfl)) (by unfold Func.isWrapper; first | (rw [if_pos (by decide +kernel)]; kernel_rfl) | (rw [if_neg (by decide +kernel)]; exact ⟨rfl, rfl⟩))
    (fun os started H enc _ => lazardGroupLifted os started H enc)
end Go.Proofs.YtngdcibjjomfjaaGreat
