/- The given statement on brackets holds. -/
import Derived.Test.YtngdcibjjomfjaaEP26
import Derived.Test.YtngdcibjjomfjaaEP27
import Derived.Test.YtngdcibjjomfjaaEP29
import Derived.Test.YtngdcibjjomfjaaEP30
import Derived.Test.YtngdcibjjomfjaaEP31
import Derived.Test.YtngdcibjjomfjaaEP33
import Derived.Test.YtngdcibjjomfjaaEP34
import Derived.Test.YtngdcibjjomfjaaEP37
set_option linter.unusedSimpArgs false
set_option linter.unusedVariables false
namespace Go.Proofs
open Go.Ab Go.Lie Go.Grp
theorem FnExactGroupBracket_ok {h : AHeap} {Or : List Int} {Pr : List (List Int)} {Cr : List (List (List Int))} {vOr vPr vCr : PV} (hRr : IsPr vOr vPr vCr Or Pr Cr) (mxr : MxP Or Pr Cr) {x : List Int} {vx : PV} (hx : FI vx x) (mxx : x.length ≤ 9223372036854775807) {y : List Int} {vy : PV} (hy : FI vy y) (mxy : y.length ≤ 9223372036854775807) (ha : ∀ o ∈ eads [.agg [vOr, vPr, vCr], vx, vy], o < h.next) :
    vm Try.prog if9.body (retP if9.res isTrue_) (PEnv.mk if9.params [.agg [vOr, vPr, vCr], vx, vy]) (PHeap.start h) := by
  have h0r := hRr.O.one
  have h1r := hRr.P.one
  have h2r := hRr.C.one
  have lenx : pLen vx = some (.int .i64 x.length) := by obtain ⟨wx, ax, rfl⟩ := hx; rfl
  have leny : pLen vy = some (.int .i64 y.length) := by obtain ⟨wx, ax, rfl⟩ := hy; rfl
  have havOr : ∀ o ∈ ead vOr, o < h.next := fun o ho => ha o (by simp [eads, ead, ho])
  have havPr : ∀ o ∈ ead vPr, o < h.next := fun o ho => ha o (by simp [eads, ead, ho])
  have havCr : ∀ o ∈ ead vCr, o < h.next := fun o ho => ha o (by simp [eads, ead, ho])
  have havx : ∀ o ∈ ead vx, o < h.next := fun o ho => ha o (by simp [eads, ead, ho])
  have havy : ∀ o ∈ ead vy, o < h.next := fun o ho => ha o (by simp [eads, ead, ho])
  dsimp only [if9, qI, eI, nI, qD, eD]
  simp only [pm0, pwA, if_true, if_false, eq_self, nm_eq, reduceCtorEq, ↓reduceIte, Nat.reduceEqDiff, Nat.reduceLeDiff, Nat.reduceBEq, Nat.reduceAdd, Nat.reduceLT, Nat.reduceSub, Nat.reduceMul, Int.reduceEq, Int.reduceLT, Int.reduceLE, Int.reduceNeg, Int.reduceToNat, List.reduceReplicate, Int.ofNat_le, List.getElem?_drop, h0r, h1r, h2r, lenx, leny]
  refine iteI (fun hgt => rfl) fun hlex => ?_
  refine iteI (fun hgt => rfl) fun hley => ?_
  have szx : x.length ≤ 1048576 := by omega
  have szy : y.length ≤ 1048576 := by omega
  refine CallM.pure ?_
  simp only [pm0, pwA, if_true, if_false, eq_self, nm_eq, reduceCtorEq, ↓reduceIte, Nat.reduceEqDiff, Nat.reduceLeDiff, Nat.reduceBEq, Nat.reduceAdd, Nat.reduceLT, Nat.reduceSub, Nat.reduceMul, Int.reduceEq, Int.reduceLT, Int.reduceLE, Int.reduceNeg, Int.reduceToNat, List.reduceReplicate, Int.ofNat_le, List.getElem?_drop]
  refine szPresentation_ok hRr mxr (by unfold left_; omega) fun rr hr => ?_
  rcases hr with rfl | ⟨lr, szr⟩
  · simp only [pm0, pwA, if_true, if_false, eq_self, nm_eq, reduceCtorEq, ↓reduceIte, Nat.reduceEqDiff, Nat.reduceLeDiff, Nat.reduceBEq, Nat.reduceAdd, Nat.reduceLT, Nat.reduceSub, Nat.reduceMul, Int.reduceEq, Int.reduceLT, Int.reduceLE, Int.reduceNeg, Int.reduceToNat, List.reduceReplicate, Int.ofNat_le, List.getElem?_drop]
    rfl
  have hrr : ¬ rr < 0 := by unfold left_ at lr; omega
  simp only [pm0, pwA, if_true, if_false, eq_self, nm_eq, reduceCtorEq, ↓reduceIte, Nat.reduceEqDiff, Nat.reduceLeDiff, Nat.reduceBEq, Nat.reduceAdd, Nat.reduceLT, Nat.reduceSub, Nat.reduceMul, Int.reduceEq, Int.reduceLT, Int.reduceLE, Int.reduceNeg, Int.reduceToNat, List.reduceReplicate, Int.ofNat_le, List.getElem?_drop, hrr]
  refine CallM.pure ?_
  simp only [pm0, pwA, if_true, if_false, eq_self, nm_eq, reduceCtorEq, ↓reduceIte, Nat.reduceEqDiff, Nat.reduceLeDiff, Nat.reduceBEq, Nat.reduceAdd, Nat.reduceLT, Nat.reduceSub, Nat.reduceMul, Int.reduceEq, Int.reduceLT, Int.reduceLE, Int.reduceNeg, Int.reduceToNat, List.reduceReplicate, Int.ofNat_le, List.getElem?_drop]
  refine toPresentation_fz hRr szr fun aOr aPr aCr aqr => ?_
  simp only [pm0, pwA, if_true, if_false, eq_self, nm_eq, reduceCtorEq, ↓reduceIte, Nat.reduceEqDiff, Nat.reduceLeDiff, Nat.reduceBEq, Nat.reduceAdd, Nat.reduceLT, Nat.reduceSub, Nat.reduceMul, Int.reduceEq, Int.reduceLT, Int.reduceLE, Int.reduceNeg, Int.reduceToNat, List.reduceReplicate, Int.ofNat_le, List.getElem?_drop]
  refine CallM.pure ?_
  simp only [pm0, pwA, if_true, if_false, eq_self, nm_eq, reduceCtorEq, ↓reduceIte, Nat.reduceEqDiff, Nat.reduceLeDiff, Nat.reduceBEq, Nat.reduceAdd, Nat.reduceLT, Nat.reduceSub, Nat.reduceMul, Int.reduceEq, Int.reduceLT, Int.reduceLE, Int.reduceNeg, Int.reduceToNat, List.reduceReplicate, Int.ofNat_le, List.getElem?_drop]
  refine toInt64S_fz hx szx fun avx aqx => ?_
  simp only [pm0, pwA, if_true, if_false, eq_self, nm_eq, reduceCtorEq, ↓reduceIte, Nat.reduceEqDiff, Nat.reduceLeDiff, Nat.reduceBEq, Nat.reduceAdd, Nat.reduceLT, Nat.reduceSub, Nat.reduceMul, Int.reduceEq, Int.reduceLT, Int.reduceLE, Int.reduceNeg, Int.reduceToNat, List.reduceReplicate, Int.ofNat_le, List.getElem?_drop]
  refine CallM.pure ?_
  simp only [pm0, pwA, if_true, if_false, eq_self, nm_eq, reduceCtorEq, ↓reduceIte, Nat.reduceEqDiff, Nat.reduceLeDiff, Nat.reduceBEq, Nat.reduceAdd, Nat.reduceLT, Nat.reduceSub, Nat.reduceMul, Int.reduceEq, Int.reduceLT, Int.reduceLE, Int.reduceNeg, Int.reduceToNat, List.reduceReplicate, Int.ofNat_le, List.getElem?_drop]
  refine toInt64S_fz hy szy fun avy aqy => ?_
  simp only [pm0, pwA, if_true, if_false, eq_self, nm_eq, reduceCtorEq, ↓reduceIte, Nat.reduceEqDiff, Nat.reduceLeDiff, Nat.reduceBEq, Nat.reduceAdd, Nat.reduceLT, Nat.reduceSub, Nat.reduceMul, Int.reduceEq, Int.reduceLT, Int.reduceLE, Int.reduceNeg, Int.reduceToNat, List.reduceReplicate, Int.ofNat_le, List.getElem?_drop]
  refine CallM.pure ?_
  simp only [pm0, pwA, if_true, if_false, eq_self, nm_eq, reduceCtorEq, ↓reduceIte, Nat.reduceEqDiff, Nat.reduceLeDiff, Nat.reduceBEq, Nat.reduceAdd, Nat.reduceLT, Nat.reduceSub, Nat.reduceMul, Int.reduceEq, Int.reduceLT, Int.reduceLE, Int.reduceNeg, Int.reduceToNat, List.reduceReplicate, Int.ofNat_le, List.getElem?_drop]
  refine l34GroupBracket_ok aqr szr aqx szx aqy szy fun w0 z c hz hw0 => ?_
  have hzb := brG_bd hz
  simp only [pm0, pwA, if_true, if_false, eq_self, nm_eq, reduceCtorEq, ↓reduceIte, Nat.reduceEqDiff, Nat.reduceLeDiff, Nat.reduceBEq, Nat.reduceAdd, Nat.reduceLT, Nat.reduceSub, Nat.reduceMul, Int.reduceEq, Int.reduceLT, Int.reduceLE, Int.reduceNeg, Int.reduceToNat, List.reduceReplicate, Int.ofNat_le, List.getElem?_drop]
  refine CallM.top fun t0 ht0 hb0 => ?_
  have bw := hb0 8
  simp only [pm0, pwA, if_true, if_false, eq_self, nm_eq, reduceCtorEq, ↓reduceIte, Nat.reduceEqDiff, Nat.reduceLeDiff, Nat.reduceBEq, Nat.reduceAdd, Nat.reduceLT, Nat.reduceSub, Nat.reduceMul, Int.reduceEq, Int.reduceLT, Int.reduceLE, Int.reduceNeg, Int.reduceToNat, List.reduceReplicate, Int.ofNat_le, List.getElem?_drop] at bw
  simp only [ptop_new, ptop_start] at ht0
  refine CallM.pure ?_
  simp only [pm0, pwA, if_true, if_false, eq_self, nm_eq, reduceCtorEq, ↓reduceIte, Nat.reduceEqDiff, Nat.reduceLeDiff, Nat.reduceBEq, Nat.reduceAdd, Nat.reduceLT, Nat.reduceSub, Nat.reduceMul, Int.reduceEq, Int.reduceLT, Int.reduceLE, Int.reduceNeg, Int.reduceToNat, List.reduceReplicate, Int.ofNat_le, List.getElem?_drop]
  refine toPresentation_T hRr szr fun xOr xPr xCr t1 qr or hh1 => ?_
  simp only [ptop_up] at or hh1
  simp only [pm0, pwA, if_true, if_false, eq_self, nm_eq, reduceCtorEq, ↓reduceIte, Nat.reduceEqDiff, Nat.reduceLeDiff, Nat.reduceBEq, Nat.reduceAdd, Nat.reduceLT, Nat.reduceSub, Nat.reduceMul, Int.reduceEq, Int.reduceLT, Int.reduceLE, Int.reduceNeg, Int.reduceToNat, List.reduceReplicate, Int.ofNat_le, List.getElem?_drop, qr.O.one, qr.P.one, qr.C.one, up_up]
  refine CallM.pure ?_
  simp only [pm0, pwA, if_true, if_false, eq_self, nm_eq, reduceCtorEq, ↓reduceIte, Nat.reduceEqDiff, Nat.reduceLeDiff, Nat.reduceBEq, Nat.reduceAdd, Nat.reduceLT, Nat.reduceSub, Nat.reduceMul, Int.reduceEq, Int.reduceLT, Int.reduceLE, Int.reduceNeg, Int.reduceToNat, List.reduceReplicate, Int.ofNat_le, List.getElem?_drop]
  refine toInt64S_T hx szx fun xvx t2 qx ox hh2 => ?_
  simp only [ptop_up] at ox hh2
  simp only [pm0, pwA, if_true, if_false, eq_self, nm_eq, reduceCtorEq, ↓reduceIte, Nat.reduceEqDiff, Nat.reduceLeDiff, Nat.reduceBEq, Nat.reduceAdd, Nat.reduceLT, Nat.reduceSub, Nat.reduceMul, Int.reduceEq, Int.reduceLT, Int.reduceLE, Int.reduceNeg, Int.reduceToNat, List.reduceReplicate, Int.ofNat_le, List.getElem?_drop]
  refine CallM.pure ?_
  simp only [pm0, pwA, if_true, if_false, eq_self, nm_eq, reduceCtorEq, ↓reduceIte, Nat.reduceEqDiff, Nat.reduceLeDiff, Nat.reduceBEq, Nat.reduceAdd, Nat.reduceLT, Nat.reduceSub, Nat.reduceMul, Int.reduceEq, Int.reduceLT, Int.reduceLE, Int.reduceNeg, Int.reduceToNat, List.reduceReplicate, Int.ofNat_le, List.getElem?_drop]
  refine toInt64S_T hy szy fun xvy t3 qy oy hh3 => ?_
  simp only [ptop_up] at oy hh3
  simp only [pm0, pwA, if_true, if_false, eq_self, nm_eq, reduceCtorEq, ↓reduceIte, Nat.reduceEqDiff, Nat.reduceLeDiff, Nat.reduceBEq, Nat.reduceAdd, Nat.reduceLT, Nat.reduceSub, Nat.reduceMul, Int.reduceEq, Int.reduceLT, Int.reduceLE, Int.reduceNeg, Int.reduceToNat, List.reduceReplicate, Int.ofNat_le, List.getElem?_drop]
  refine CallM.pure ?_
  simp only [pm0, pwA, if_true, if_false, eq_self, nm_eq, reduceCtorEq, ↓reduceIte, Nat.reduceEqDiff, Nat.reduceLeDiff, Nat.reduceBEq, Nat.reduceAdd, Nat.reduceLT, Nat.reduceSub, Nat.reduceMul, Int.reduceEq, Int.reduceLT, Int.reduceLE, Int.reduceNeg, Int.reduceToNat, List.reduceReplicate, Int.ofNat_le, List.getElem?_drop]
  refine GroupBracket_T qr szr qx szx qy szy fun g0 z' c' t4 hz' hg0 og hh4 => ?_
  simp only [ptop_up] at og hh4
  obtain ⟨rfl, rfl⟩ := hz'.unique hz
  simp only [pm0, pwA, if_true, if_false, eq_self, nm_eq, reduceCtorEq, ↓reduceIte, Nat.reduceEqDiff, Nat.reduceLeDiff, Nat.reduceBEq, Nat.reduceAdd, Nat.reduceLT, Nat.reduceSub, Nat.reduceMul, Int.reduceEq, Int.reduceLT, Int.reduceLE, Int.reduceNeg, Int.reduceToNat, List.reduceReplicate, Int.ofNat_le, List.getElem?_drop]
  refine CallM.pure ?_
  simp only [pm0, pwA, if_true, if_false, eq_self, nm_eq, reduceCtorEq, ↓reduceIte, Nat.reduceEqDiff, Nat.reduceLeDiff, Nat.reduceBEq, Nat.reduceAdd, Nat.reduceLT, Nat.reduceSub, Nat.reduceMul, Int.reduceEq, Int.reduceLT, Int.reduceLE, Int.reduceNeg, Int.reduceToNat, List.reduceReplicate, Int.ofNat_le, List.getElem?_drop]
  refine eqInt64S_ok hg0 hw0 (by omega) ?_
  simp only [pm0, pwA, if_true, if_false, eq_self, nm_eq, reduceCtorEq, ↓reduceIte, Nat.reduceEqDiff, Nat.reduceLeDiff, Nat.reduceBEq, Nat.reduceAdd, Nat.reduceLT, Nat.reduceSub, Nat.reduceMul, Int.reduceEq, Int.reduceLT, Int.reduceLE, Int.reduceNeg, Int.reduceToNat, List.reduceReplicate, Int.ofNat_le, List.getElem?_drop]
  refine toPresentation_fz hRr szr fun b1r b2r b3r sr => ?_
  simp only [pm0, pwA, if_true, if_false, eq_self, nm_eq, reduceCtorEq, ↓reduceIte, Nat.reduceEqDiff, Nat.reduceLeDiff, Nat.reduceBEq, Nat.reduceAdd, Nat.reduceLT, Nat.reduceSub, Nat.reduceMul, Int.reduceEq, Int.reduceLT, Int.reduceLE, Int.reduceNeg, Int.reduceToNat, List.reduceReplicate, Int.ofNat_le, List.getElem?_drop]
  refine eqPresentation_ok qr sr szr fun t ht => ?_
  obtain rfl := ht.2 ⟨rfl, rfl, rfl⟩
  simp only [pm0, pwA, if_true, if_false, eq_self, nm_eq, reduceCtorEq, ↓reduceIte, Nat.reduceEqDiff, Nat.reduceLeDiff, Nat.reduceBEq, Nat.reduceAdd, Nat.reduceLT, Nat.reduceSub, Nat.reduceMul, Int.reduceEq, Int.reduceLT, Int.reduceLE, Int.reduceNeg, Int.reduceToNat, List.reduceReplicate, Int.ofNat_le, List.getElem?_drop]
  refine CallM.pure ?_
  simp only [pm0, pwA, if_true, if_false, eq_self, nm_eq, reduceCtorEq, ↓reduceIte, Nat.reduceEqDiff, Nat.reduceLeDiff, Nat.reduceBEq, Nat.reduceAdd, Nat.reduceLT, Nat.reduceSub, Nat.reduceMul, Int.reduceEq, Int.reduceLT, Int.reduceLE, Int.reduceNeg, Int.reduceToNat, List.reduceReplicate, Int.ofNat_le, List.getElem?_drop]
  refine toInt64S_fz hx szx fun b1x sx => ?_
  simp only [pm0, pwA, if_true, if_false, eq_self, nm_eq, reduceCtorEq, ↓reduceIte, Nat.reduceEqDiff, Nat.reduceLeDiff, Nat.reduceBEq, Nat.reduceAdd, Nat.reduceLT, Nat.reduceSub, Nat.reduceMul, Int.reduceEq, Int.reduceLT, Int.reduceLE, Int.reduceNeg, Int.reduceToNat, List.reduceReplicate, Int.ofNat_le, List.getElem?_drop]
  refine CallM.pure ?_
  simp only [pm0, pwA, if_true, if_false, eq_self, nm_eq, reduceCtorEq, ↓reduceIte, Nat.reduceEqDiff, Nat.reduceLeDiff, Nat.reduceBEq, Nat.reduceAdd, Nat.reduceLT, Nat.reduceSub, Nat.reduceMul, Int.reduceEq, Int.reduceLT, Int.reduceLE, Int.reduceNeg, Int.reduceToNat, List.reduceReplicate, Int.ofNat_le, List.getElem?_drop]
  refine eqInt64S_ok qx sx (by omega) ?_
  simp only [pm0, pwA, if_true, if_false, eq_self, nm_eq, reduceCtorEq, ↓reduceIte, Nat.reduceEqDiff, Nat.reduceLeDiff, Nat.reduceBEq, Nat.reduceAdd, Nat.reduceLT, Nat.reduceSub, Nat.reduceMul, Int.reduceEq, Int.reduceLT, Int.reduceLE, Int.reduceNeg, Int.reduceToNat, List.reduceReplicate, Int.ofNat_le, List.getElem?_drop]
  refine CallM.pure ?_
  simp only [pm0, pwA, if_true, if_false, eq_self, nm_eq, reduceCtorEq, ↓reduceIte, Nat.reduceEqDiff, Nat.reduceLeDiff, Nat.reduceBEq, Nat.reduceAdd, Nat.reduceLT, Nat.reduceSub, Nat.reduceMul, Int.reduceEq, Int.reduceLT, Int.reduceLE, Int.reduceNeg, Int.reduceToNat, List.reduceReplicate, Int.ofNat_le, List.getElem?_drop]
  refine toInt64S_fz hy szy fun b1y sy => ?_
  simp only [pm0, pwA, if_true, if_false, eq_self, nm_eq, reduceCtorEq, ↓reduceIte, Nat.reduceEqDiff, Nat.reduceLeDiff, Nat.reduceBEq, Nat.reduceAdd, Nat.reduceLT, Nat.reduceSub, Nat.reduceMul, Int.reduceEq, Int.reduceLT, Int.reduceLE, Int.reduceNeg, Int.reduceToNat, List.reduceReplicate, Int.ofNat_le, List.getElem?_drop]
  refine CallM.pure ?_
  simp only [pm0, pwA, if_true, if_false, eq_self, nm_eq, reduceCtorEq, ↓reduceIte, Nat.reduceEqDiff, Nat.reduceLeDiff, Nat.reduceBEq, Nat.reduceAdd, Nat.reduceLT, Nat.reduceSub, Nat.reduceMul, Int.reduceEq, Int.reduceLT, Int.reduceLE, Int.reduceNeg, Int.reduceToNat, List.reduceReplicate, Int.ofNat_le, List.getElem?_drop]
  refine eqInt64S_ok qy sy (by omega) ?_
  simp only [pm0, pwA, if_true, if_false, eq_self, nm_eq, reduceCtorEq, ↓reduceIte, Nat.reduceEqDiff, Nat.reduceLeDiff, Nat.reduceBEq, Nat.reduceAdd, Nat.reduceLT, Nat.reduceSub, Nat.reduceMul, Int.reduceEq, Int.reduceLT, Int.reduceLE, Int.reduceNeg, Int.reduceToNat, List.reduceReplicate, Int.ofNat_le, List.getElem?_drop]
  have hbtr := totP_bdx szr
  refine CallM.mark' (by simp only [pm0, pwA, if_true, if_false, eq_self, nm_eq, reduceCtorEq, ↓reduceIte, Nat.reduceEqDiff, Nat.reduceLeDiff, Nat.reduceBEq, Nat.reduceAdd, Nat.reduceLT, Nat.reduceSub, Nat.reduceMul, Int.reduceEq, Int.reduceLT, Int.reduceLE, Int.reduceNeg, Int.reduceToNat, List.reduceReplicate, Int.ofNat_le, List.getElem?_drop]) (markPresentation_M (k := 1) qr or szr (by omega) (by omega)) ?_
  have k0 := keysP (k := 1) qr or
  generalize mkPr (1) xOr xPr xCr Or Pr Cr = L1 at *
  have m0_0 : rm L1 vOr = vOr := rm_far k0 fun o ho => .inl (by have := havOr o ho; omega)
  have m0_1 : rm L1 vPr = vPr := rm_far k0 fun o ho => .inl (by have := havPr o ho; omega)
  have m0_2 : rm L1 vCr = vCr := rm_far k0 fun o ho => .inl (by have := havCr o ho; omega)
  have m0_3 : rm L1 vx = vx := rm_far k0 fun o ho => .inl (by have := havx o ho; omega)
  have m0_4 : rm L1 vy = vy := rm_far k0 fun o ho => .inl (by have := havy o ho; omega)
  have m0_w : rm L1 w0 = w0 := rm_far k0 fun o ho => .inl (by have := bw o ho; omega)
  have m0_x : rm L1 xvx = xvx := rm_far k0 fun o ho => .inr (by have := ox.lt o ho; omega)
  have m0_y : rm L1 xvy = xvy := rm_far k0 fun o ho => .inr (by have := oy.lt o ho; omega)
  have m0_g : rm L1 g0 = g0 := rm_far k0 fun o ho => .inr (by have := og.lt o ho; omega)
  simp only [pm0, pwA, if_true, if_false, eq_self, nm_eq, reduceCtorEq, ↓reduceIte, Nat.reduceEqDiff, Nat.reduceLeDiff, Nat.reduceBEq, Nat.reduceAdd, Nat.reduceLT, Nat.reduceSub, Nat.reduceMul, Int.reduceEq, Int.reduceLT, Int.reduceLE, Int.reduceNeg, Int.reduceToNat, List.reduceReplicate, Int.ofNat_le, List.getElem?_drop, m0_0, m0_1, m0_2, m0_3, m0_4, m0_w, m0_x, m0_y, m0_g]
  refine CallM.mark' (by simp only [pm0, pwA, if_true, if_false, eq_self, nm_eq, reduceCtorEq, ↓reduceIte, Nat.reduceEqDiff, Nat.reduceLeDiff, Nat.reduceBEq, Nat.reduceAdd, Nat.reduceLT, Nat.reduceSub, Nat.reduceMul, Int.reduceEq, Int.reduceLT, Int.reduceLE, Int.reduceNeg, Int.reduceToNat, List.reduceReplicate, Int.ofNat_le, List.getElem?_drop]) (markInt64S_M (k := 1 + (totP Or Pr Cr : Int)) qx ox (by omega) (by omega) (by omega)) ?_
  have k1 := keysI (k := 1 + (totP Or Pr Cr : Int)) qx ox
  generalize mkI (1 + (totP Or Pr Cr : Int)) xvx x = L2 at *
  have m1_0 : rm L2 vOr = vOr := rm_far k1 fun o ho => .inl (by have := havOr o ho; omega)
  have m1_1 : rm L2 vPr = vPr := rm_far k1 fun o ho => .inl (by have := havPr o ho; omega)
  have m1_2 : rm L2 vCr = vCr := rm_far k1 fun o ho => .inl (by have := havCr o ho; omega)
  have m1_3 : rm L2 vx = vx := rm_far k1 fun o ho => .inl (by have := havx o ho; omega)
  have m1_4 : rm L2 vy = vy := rm_far k1 fun o ho => .inl (by have := havy o ho; omega)
  have m1_w : rm L2 w0 = w0 := rm_far k1 fun o ho => .inl (by have := bw o ho; omega)
  have m1_y : rm L2 xvy = xvy := rm_far k1 fun o ho => .inr (by have := oy.lt o ho; omega)
  have m1_g : rm L2 g0 = g0 := rm_far k1 fun o ho => .inr (by have := og.lt o ho; omega)
  simp only [pm0, pwA, if_true, if_false, eq_self, nm_eq, reduceCtorEq, ↓reduceIte, Nat.reduceEqDiff, Nat.reduceLeDiff, Nat.reduceBEq, Nat.reduceAdd, Nat.reduceLT, Nat.reduceSub, Nat.reduceMul, Int.reduceEq, Int.reduceLT, Int.reduceLE, Int.reduceNeg, Int.reduceToNat, List.reduceReplicate, Int.ofNat_le, List.getElem?_drop, m1_0, m1_1, m1_2, m1_3, m1_4, m1_w, m1_y, m1_g]
  refine CallM.mark' (by simp only [pm0, pwA, if_true, if_false, eq_self, nm_eq, reduceCtorEq, ↓reduceIte, Nat.reduceEqDiff, Nat.reduceLeDiff, Nat.reduceBEq, Nat.reduceAdd, Nat.reduceLT, Nat.reduceSub, Nat.reduceMul, Int.reduceEq, Int.reduceLT, Int.reduceLE, Int.reduceNeg, Int.reduceToNat, List.reduceReplicate, Int.ofNat_le, List.getElem?_drop]) (markInt64S_M (k := 1 + (totP Or Pr Cr : Int) + (x.length : Int)) qy oy (by omega) (by omega) (by omega)) ?_
  have k2 := keysI (k := 1 + (totP Or Pr Cr : Int) + (x.length : Int)) qy oy
  generalize mkI (1 + (totP Or Pr Cr : Int) + (x.length : Int)) xvy y = L3 at *
  have m2_0 : rm L3 vOr = vOr := rm_far k2 fun o ho => .inl (by have := havOr o ho; omega)
  have m2_1 : rm L3 vPr = vPr := rm_far k2 fun o ho => .inl (by have := havPr o ho; omega)
  have m2_2 : rm L3 vCr = vCr := rm_far k2 fun o ho => .inl (by have := havCr o ho; omega)
  have m2_3 : rm L3 vx = vx := rm_far k2 fun o ho => .inl (by have := havx o ho; omega)
  have m2_4 : rm L3 vy = vy := rm_far k2 fun o ho => .inl (by have := havy o ho; omega)
  have m2_w : rm L3 w0 = w0 := rm_far k2 fun o ho => .inl (by have := bw o ho; omega)
  have m2_g : rm L3 g0 = g0 := rm_far k2 fun o ho => .inr (by have := og.lt o ho; omega)
  have hn : ¬ (1 + (totP Or Pr Cr : Int) + (x.length : Int) + (y.length : Int) < 0) := by omega
  simp only [pm0, pwA, if_true, if_false, eq_self, nm_eq, reduceCtorEq, ↓reduceIte, Nat.reduceEqDiff, Nat.reduceLeDiff, Nat.reduceBEq, Nat.reduceAdd, Nat.reduceLT, Nat.reduceSub, Nat.reduceMul, Int.reduceEq, Int.reduceLT, Int.reduceLE, Int.reduceNeg, Int.reduceToNat, List.reduceReplicate, Int.ofNat_le, List.getElem?_drop, m2_0, m2_1, m2_2, m2_3, m2_4, m2_w, m2_g, hn]
  refine CallM.pure ?_
  simp only [pm0, pwA, if_true, if_false, eq_self, nm_eq, reduceCtorEq, ↓reduceIte, Nat.reduceEqDiff, Nat.reduceLeDiff, Nat.reduceBEq, Nat.reduceAdd, Nat.reduceLT, Nat.reduceSub, Nat.reduceMul, Int.reduceEq, Int.reduceLT, Int.reduceLE, Int.reduceNeg, Int.reduceToNat, List.reduceReplicate, Int.ofNat_le, List.getElem?_drop]
  refine eqInt64S_ok hg0 hw0 (by omega) ?_
  simp only [pm0, pwA, if_true, if_false, eq_self, nm_eq, reduceCtorEq, ↓reduceIte, Nat.reduceEqDiff, Nat.reduceLeDiff, Nat.reduceBEq, Nat.reduceAdd, Nat.reduceLT, Nat.reduceSub, Nat.reduceMul, Int.reduceEq, Int.reduceLT, Int.reduceLE, Int.reduceNeg, Int.reduceToNat, List.reduceReplicate, Int.ofNat_le, List.getElem?_drop]
  refine CallM.mark' (by simp only [pm0, pwA, if_true, if_false, eq_self, nm_eq, reduceCtorEq, ↓reduceIte, Nat.reduceEqDiff, Nat.reduceLeDiff, Nat.reduceBEq, Nat.reduceAdd, Nat.reduceLT, Nat.reduceSub, Nat.reduceMul, Int.reduceEq, Int.reduceLT, Int.reduceLE, Int.reduceNeg, Int.reduceToNat, List.reduceReplicate, Int.ofNat_le, List.getElem?_drop]) (markInt64S_M (k := 1) hg0 og (by omega) (by omega) (by omega)) ?_
  have kg := keysI (k := 1) hg0 og
  have hgm := mkT_I.rd (k := 1) hg0 og.wh og.nd
  generalize mkI 1 g0 z' = Lg at *
  have mg_0 : rm Lg vOr = vOr := rm_far kg fun o ho => .inl (by have := havOr o ho; omega)
  have mg_1 : rm Lg vPr = vPr := rm_far kg fun o ho => .inl (by have := havPr o ho; omega)
  have mg_2 : rm Lg vCr = vCr := rm_far kg fun o ho => .inl (by have := havCr o ho; omega)
  have mg_3 : rm Lg vx = vx := rm_far kg fun o ho => .inl (by have := havx o ho; omega)
  have mg_4 : rm Lg vy = vy := rm_far kg fun o ho => .inl (by have := havy o ho; omega)
  have mg_w : rm Lg w0 = w0 := rm_far kg fun o ho => .inl (by have := bw o ho; omega)
  obtain ⟨g1, mg_g⟩ : ∃ g1, rm Lg g0 = g1 := ⟨_, rfl⟩
  rw [mg_g] at hgm
  unfold sqI at hgm
  simp only [pm0, pwA, if_true, if_false, eq_self, nm_eq, reduceCtorEq, ↓reduceIte, Nat.reduceEqDiff, Nat.reduceLeDiff, Nat.reduceBEq, Nat.reduceAdd, Nat.reduceLT, Nat.reduceSub, Nat.reduceMul, Int.reduceEq, Int.reduceLT, Int.reduceLE, Int.reduceNeg, Int.reduceToNat, List.reduceReplicate, Int.ofNat_le, List.getElem?_drop, mg_0, mg_1, mg_2, mg_3, mg_4, mg_w, mg_g]
  refine CallM.pure ?_
  simp only [pm0, pwA, if_true, if_false, eq_self, nm_eq, reduceCtorEq, ↓reduceIte, Nat.reduceEqDiff, Nat.reduceLeDiff, Nat.reduceBEq, Nat.reduceAdd, Nat.reduceLT, Nat.reduceSub, Nat.reduceMul, Int.reduceEq, Int.reduceLT, Int.reduceLE, Int.reduceNeg, Int.reduceToNat, List.reduceReplicate, Int.ofNat_le, List.getElem?_drop]
  refine heldInt64S_ok hgm (by omega) (by omega) (by omega) ?_
  have hn1 : ¬ (1 + (z'.length : Int) < 0) := by omega
  simp only [pm0, pwA, if_true, if_false, eq_self, nm_eq, reduceCtorEq, ↓reduceIte, Nat.reduceEqDiff, Nat.reduceLeDiff, Nat.reduceBEq, Nat.reduceAdd, Nat.reduceLT, Nat.reduceSub, Nat.reduceMul, Int.reduceEq, Int.reduceLT, Int.reduceLE, Int.reduceNeg, Int.reduceToNat, List.reduceReplicate, Int.ofNat_le, List.getElem?_drop, hn1]
  refine CallM.pure ?_
  simp only [pm0, pwA, if_true, if_false, eq_self, nm_eq, reduceCtorEq, ↓reduceIte, Nat.reduceEqDiff, Nat.reduceLeDiff, Nat.reduceBEq, Nat.reduceAdd, Nat.reduceLT, Nat.reduceSub, Nat.reduceMul, Int.reduceEq, Int.reduceLT, Int.reduceLE, Int.reduceNeg, Int.reduceToNat, List.reduceReplicate, Int.ofNat_le, List.getElem?_drop]
  refine toPresentation_fz hRr szr fun dOr dPr dCr dqr => ?_
  simp only [pm0, pwA, if_true, if_false, eq_self, nm_eq, reduceCtorEq, ↓reduceIte, Nat.reduceEqDiff, Nat.reduceLeDiff, Nat.reduceBEq, Nat.reduceAdd, Nat.reduceLT, Nat.reduceSub, Nat.reduceMul, Int.reduceEq, Int.reduceLT, Int.reduceLE, Int.reduceNeg, Int.reduceToNat, List.reduceReplicate, Int.ofNat_le, List.getElem?_drop]
  refine CallM.pure ?_
  simp only [pm0, pwA, if_true, if_false, eq_self, nm_eq, reduceCtorEq, ↓reduceIte, Nat.reduceEqDiff, Nat.reduceLeDiff, Nat.reduceBEq, Nat.reduceAdd, Nat.reduceLT, Nat.reduceSub, Nat.reduceMul, Int.reduceEq, Int.reduceLT, Int.reduceLE, Int.reduceNeg, Int.reduceToNat, List.reduceReplicate, Int.ofNat_le, List.getElem?_drop]
  refine toInt64S_fz hx szx fun dvx dqx => ?_
  simp only [pm0, pwA, if_true, if_false, eq_self, nm_eq, reduceCtorEq, ↓reduceIte, Nat.reduceEqDiff, Nat.reduceLeDiff, Nat.reduceBEq, Nat.reduceAdd, Nat.reduceLT, Nat.reduceSub, Nat.reduceMul, Int.reduceEq, Int.reduceLT, Int.reduceLE, Int.reduceNeg, Int.reduceToNat, List.reduceReplicate, Int.ofNat_le, List.getElem?_drop]
  refine CallM.pure ?_
  simp only [pm0, pwA, if_true, if_false, eq_self, nm_eq, reduceCtorEq, ↓reduceIte, Nat.reduceEqDiff, Nat.reduceLeDiff, Nat.reduceBEq, Nat.reduceAdd, Nat.reduceLT, Nat.reduceSub, Nat.reduceMul, Int.reduceEq, Int.reduceLT, Int.reduceLE, Int.reduceNeg, Int.reduceToNat, List.reduceReplicate, Int.ofNat_le, List.getElem?_drop]
  refine toInt64S_fz hy szy fun dvy dqy => ?_
  simp only [pm0, pwA, if_true, if_false, eq_self, nm_eq, reduceCtorEq, ↓reduceIte, Nat.reduceEqDiff, Nat.reduceLeDiff, Nat.reduceBEq, Nat.reduceAdd, Nat.reduceLT, Nat.reduceSub, Nat.reduceMul, Int.reduceEq, Int.reduceLT, Int.reduceLE, Int.reduceNeg, Int.reduceToNat, List.reduceReplicate, Int.ofNat_le, List.getElem?_drop]
  refine CallM.pure ?_
  simp only [pm0, pwA, if_true, if_false, eq_self, nm_eq, reduceCtorEq, ↓reduceIte, Nat.reduceEqDiff, Nat.reduceLeDiff, Nat.reduceBEq, Nat.reduceAdd, Nat.reduceLT, Nat.reduceSub, Nat.reduceMul, Int.reduceEq, Int.reduceLT, Int.reduceLE, Int.reduceNeg, Int.reduceToNat, List.reduceReplicate, Int.ofNat_le, List.getElem?_drop]
  refine GroupBracket_T dqr szr dqx szx dqy szy fun g2 z2 c2 tz hz2 hg2 og2 hhz => ?_
  obtain ⟨rfl, rfl⟩ := hz2.unique hz
  simp only [pm0, pwA, if_true, if_false, eq_self, nm_eq, reduceCtorEq, ↓reduceIte, Nat.reduceEqDiff, Nat.reduceLeDiff, Nat.reduceBEq, Nat.reduceAdd, Nat.reduceLT, Nat.reduceSub, Nat.reduceMul, Int.reduceEq, Int.reduceLT, Int.reduceLE, Int.reduceNeg, Int.reduceToNat, List.reduceReplicate, Int.ofNat_le, List.getElem?_drop]
  refine CallM.pure ?_
  simp only [pm0, pwA, if_true, if_false, eq_self, nm_eq, reduceCtorEq, ↓reduceIte, Nat.reduceEqDiff, Nat.reduceLeDiff, Nat.reduceBEq, Nat.reduceAdd, Nat.reduceLT, Nat.reduceSub, Nat.reduceMul, Int.reduceEq, Int.reduceLT, Int.reduceLE, Int.reduceNeg, Int.reduceToNat, List.reduceReplicate, Int.ofNat_le, List.getElem?_drop]
  refine eqInt64S_ok hg2 hw0 (by omega) ?_
  simp only [pm0, pwA, if_true, if_false, eq_self, nm_eq, reduceCtorEq, ↓reduceIte, Nat.reduceEqDiff, Nat.reduceLeDiff, Nat.reduceBEq, Nat.reduceAdd, Nat.reduceLT, Nat.reduceSub, Nat.reduceMul, Int.reduceEq, Int.reduceLT, Int.reduceLE, Int.reduceNeg, Int.reduceToNat, List.reduceReplicate, Int.ofNat_le, List.getElem?_drop]
  refine CallM.pure ?_
  simp only [pm0, pwA, if_true, if_false, eq_self, nm_eq, reduceCtorEq, ↓reduceIte, Nat.reduceEqDiff, Nat.reduceLeDiff, Nat.reduceBEq, Nat.reduceAdd, Nat.reduceLT, Nat.reduceSub, Nat.reduceMul, Int.reduceEq, Int.reduceLT, Int.reduceLE, Int.reduceNeg, Int.reduceToNat, List.reduceReplicate, Int.ofNat_le, List.getElem?_drop]
  refine heldInt64S_ok hgm (by omega) (by omega) (by omega) ?_
  simp only [pm0, pwA, if_true, if_false, eq_self, nm_eq, reduceCtorEq, ↓reduceIte, Nat.reduceEqDiff, Nat.reduceLeDiff, Nat.reduceBEq, Nat.reduceAdd, Nat.reduceLT, Nat.reduceSub, Nat.reduceMul, Int.reduceEq, Int.reduceLT, Int.reduceLE, Int.reduceNeg, Int.reduceToNat, List.reduceReplicate, Int.ofNat_le, List.getElem?_drop, hn1]
  rfl
end Go.Proofs
namespace Go.Proofs.Ytngdcibjjomfjaa
open Go.ChangeShapes Go.WideShapes Go.ChangeAt Go.RowKit Go.Ab Go.Joins Go.Lie Go.Proofs
set_option linter.unusedVariables false
set_option maxRecDepth 100000 in
theorem groupBracketContract {H : Type} {enc : TypeId × Value → H} (W : World) (base : Nat) (args : Array Value) (ds gs : List (DataW H)) (before : List MemPlace)
    (hval : ∀ (j : Nat) t v, Try.f9.params[j]? = some t → args[j]? = some v → Value.okWide Try.prog W .any base t v)
    (hW : DataW.Whole enc Try.prog Try.f9.params.toList Rows.fnExactGroupBracketSpec.vars false W args.toList ds gs before) :
    Calls Try.prog 9 args W fun e W' => ∃ v, e = .returned v ∧ Rows.fnExactGroupBracketSpec.post enc Try.prog Try.f9 false true false false W args v W' := by
  have hW' := hW
  obtain ⟨p, q, hA0, hV, rfl, hfz, hnd⟩ := hW
  have hA : DataW.TrodAll enc Try.prog W 0 (fun _ => true) true Try.f9.params.toList args.toList ds p := hA0
  rw [Try.params9] at hA hval
  obtain ⟨v0, vs0, d0, ds0, p0, q0, hargs, rfl, rfl, t0, r0⟩ := trodAll_cons hA
  obtain ⟨v1, vs1, d1, ds1, p1, q1, rfl, rfl, rfl, t1, r1⟩ := trodAll_cons r0
  obtain ⟨v2, vs2, d2, ds2, p2, q2, rfl, rfl, rfl, t2, r2⟩ := trodAll_cons r1
  obtain ⟨rfl, rfl, rfl⟩ := trodAll_nil r2
  obtain rfl : args = #[v0, v1, v2] := by cases args; simp_all
  obtain ⟨j0, h0, vO0, vP0, vC0, O0, W0, C0, m0, l0, e0, i0, o0, R0, x0⟩ := layPr (MR.empty W) (hval 0 42 v0 rfl rfl) t0
  obtain ⟨n1, t1⟩ := t1
  obtain ⟨s1, s1', s1'', hv1⟩ := okWide_slice Try.underlying26 (hval 1 26 v1 rfl rfl)
  have hc1 : v1.cells.toList = [v1] := by rw [hv1]; rfl
  rw [hc1] at t1
  obtain ⟨j1, h1, vX1, X1, m1, l1, e1, i1, o1, _, R1, y1⟩ := layI _ _ _ true n1 _ _ (m0) t1
  obtain ⟨n2, t2⟩ := t2
  obtain ⟨s2, s2', s2'', hv2⟩ := okWide_slice Try.underlying26 (hval 2 26 v2 rfl rfl)
  have hc2 : v2.cells.toList = [v2] := by rw [hv2]; rfl
  rw [hc2] at t2
  obtain ⟨j2, h2, vX2, X2, m2, l2, e2, i2, o2, _, R2, y2⟩ := layI _ _ _ true n2 _ _ (m1) t2
  have ac := law_of_vm (h := h2) mix Try.func9 cf9 (args := [.agg [vO0, vP0, vC0], vX1, vX2]) rfl m2.wf ⟨(e1.trans e2).vok o0, e2.vok o1, o2, trivial⟩ fun ha => FnExactGroupBracket_ok R0 x0 R1 y1 R2 y2 ha
  refine (ac.calls m2 (cargs := #[v0, v1, v2]) ⟨_, _, rfl, VI.mono (l1.trans l2) _ _ i0, _, _, rfl, VI.mono l2 _ _ i1, _, _, rfl, i2, rfl⟩).mono fun e W' ⟨he, hb⟩ => ?_
  exact ⟨_, he, post_of_below rfl laidOut (by rw [Try.params9]; intro t ht; simp only [List.mem_cons, List.not_mem_nil, or_false] at ht; rcases ht with rfl | rfl | rfl <;> exact ⟨by kernel_rfl, of_decide_eq_true (by kernel_rfl)⟩) (by kernel_rfl) Try.underlying4 rfl hW' hb⟩
set_option maxRecDepth 100000 in
theorem groupBracketLifted (os : Os) (started : os.Started) (H : Type) (enc : TypeId × Value → H) :
    ReturnsInHanded {} Try.checked os 9 .any (Rows.fnExactGroupBracketSpec.pre6 enc Try.prog Try.f9 Rows.fnExactGroupBracketRow.domain false) (Rows.fnExactGroupBracketSpec.post enc Try.prog Try.f9 false true false false) := by
  refine returnsInHanded_of_change (C := Try.checked) own started (by kernel_rfl) Try.func9
    (ChangeSpec.witness6 (enc := enc) (C := Try.checked) false ⟨#[], #[.agg #[.slice none 0 0, .slice none 0 0, .slice none 0 0], .slice none 0 0, .slice none 0 0], []⟩ 8 (by kernel_rfl) (by kernel_rfl) (by kernel_rfl) (by kernel_rfl)) ?_
  intro W base args ds gs before hval hW _ _
  exact groupBracketContract W base args ds gs before hval hW
theorem groupBracketProved : Rows.FnExactGroupBracketSaid :=
  OpenClaim.holds_of_wide 9 Try.f9 rfl rfl rfl rfl rfl rfl rfl ⟨rfl, rfl, rfl, rfl, rfl⟩ rfl rfl rfl rfl rfl (by kernel_rfl) Try.func9 (by kernel_rfl)
    (of_decide_eq_true (by kernel_rfl)) (by unfold Func.isWrapper; first | (rw [if_pos (by decide +kernel)]; kernel_rfl) | (rw [if_neg (by decide +kernel)]; exact ⟨rfl, rfl⟩))
    (fun os started H enc _ => groupBracketLifted os started H enc)
end Go.Proofs.Ytngdcibjjomfjaa
