/- The given statement on tensor products holds. -/
import Derived.Test.YtpkibanhkjboeaaHP26
import Derived.Test.YtpkibanhkjboeaaHP27
import Derived.Test.YtpkibanhkjboeaaHP28
import Derived.Test.YtpkibanhkjboeaaHP29
import Derived.Test.YtpkibanhkjboeaaHP31
import Derived.Test.YtpkibanhkjboeaaHP33
import Derived.Test.YtpkibanhkjboeaaHP37
import Derived.Test.YtpkibanhkjboeaaHP39
import Derived.Test.YtpkibanhkjboeaaHP42
set_option linter.unusedSimpArgs false
set_option linter.unusedVariables false
namespace Go.Proofs
open Go.Ab Go.Lie Go.Grp Go.Mx
theorem FnExactTensorModule_ok {h : AHeap} {Or : List Int} {Pr : List (List Int)} {Cr : List (List (List Int))} {vOr vPr vCr : PV} (hRr : IsPr vOr vPr vCr Or Pr Cr) (mxr : MxP Or Pr Cr) {pu du : Int} {Au : List (List (List Int))} {vAu : PV} (hAu : FIII vAu Au) (mxu : MxA Au) {py dy : Int} {Ay : List (List (List Int))} {vAy : PV} (hAy : FIII vAy Ay) (mxy : MxA Ay) (ha : ∀ o ∈ eads [.agg [vOr, vPr, vCr], .agg [.int .i64 pu, .int .i64 du, vAu], .agg [.int .i64 py, .int .i64 dy, vAy]], o < h.next) :
    vm Try.prog if7.body (retP if7.res isTrue_) (PEnv.mk if7.params [.agg [vOr, vPr, vCr], .agg [.int .i64 pu, .int .i64 du, vAu], .agg [.int .i64 py, .int .i64 dy, vAy]]) (PHeap.start h) := by
  have h0r := hRr.O.one
  have h1r := hRr.P.one
  have h2r := hRr.C.one
  have h3u := hAu.one
  have h3y := hAy.one
  have havOr : ∀ o ∈ ead vOr, o < h.next := fun o ho => ha o (by simp [eads, ead, ho])
  have havPr : ∀ o ∈ ead vPr, o < h.next := fun o ho => ha o (by simp [eads, ead, ho])
  have havCr : ∀ o ∈ ead vCr, o < h.next := fun o ho => ha o (by simp [eads, ead, ho])
  have havAu : ∀ o ∈ ead vAu, o < h.next := fun o ho => ha o (by simp [eads, ead, ho])
  have havAy : ∀ o ∈ ead vAy, o < h.next := fun o ho => ha o (by simp [eads, ead, ho])
  dsimp only [if7, qI, eI, nI, qD, eD]
  simp only [pm0, pwA, if_true, if_false, eq_self, nm_eq, reduceCtorEq, ↓reduceIte, Nat.reduceEqDiff, Nat.reduceLeDiff, Nat.reduceBEq, Nat.reduceAdd, Nat.reduceLT, Nat.reduceSub, Nat.reduceMul, Int.reduceEq, Int.reduceLT, Int.reduceLE, Int.reduceNeg, Int.reduceToNat, List.reduceReplicate, Int.ofNat_le, List.getElem?_drop, h0r, h1r, h2r, h3u, h3y]
  refine CallM.pure ?_
  simp only [pm0, pwA, if_true, if_false, eq_self, nm_eq, reduceCtorEq, ↓reduceIte, Nat.reduceEqDiff, Nat.reduceLeDiff, Nat.reduceBEq, Nat.reduceAdd, Nat.reduceLT, Nat.reduceSub, Nat.reduceMul, Int.reduceEq, Int.reduceLT, Int.reduceLE, Int.reduceNeg, Int.reduceToNat, List.reduceReplicate, Int.ofNat_le, List.getElem?_drop]
  refine szPresentation_ok hRr mxr (by unfold left_; omega) fun rr hr => ?_
  rcases hr with rfl | ⟨lr, szr⟩
  · simp only [pm0, pwA, if_true, if_false, eq_self, nm_eq, reduceCtorEq, ↓reduceIte, Nat.reduceEqDiff, Nat.reduceLeDiff, Nat.reduceBEq, Nat.reduceAdd, Nat.reduceLT, Nat.reduceSub, Nat.reduceMul, Int.reduceEq, Int.reduceLT, Int.reduceLE, Int.reduceNeg, Int.reduceToNat, List.reduceReplicate, Int.ofNat_le, List.getElem?_drop]
    rfl
  have hrr : ¬ rr < 0 := by unfold left_ at lr; omega
  simp only [pm0, pwA, if_true, if_false, eq_self, nm_eq, reduceCtorEq, ↓reduceIte, Nat.reduceEqDiff, Nat.reduceLeDiff, Nat.reduceBEq, Nat.reduceAdd, Nat.reduceLT, Nat.reduceSub, Nat.reduceMul, Int.reduceEq, Int.reduceLT, Int.reduceLE, Int.reduceNeg, Int.reduceToNat, List.reduceReplicate, Int.ofNat_le, List.getElem?_drop, hrr]
  refine CallM.pure ?_
  simp only [pm0, pwA, if_true, if_false, eq_self, nm_eq, reduceCtorEq, ↓reduceIte, Nat.reduceEqDiff, Nat.reduceLeDiff, Nat.reduceBEq, Nat.reduceAdd, Nat.reduceLT, Nat.reduceSub, Nat.reduceMul, Int.reduceEq, Int.reduceLT, Int.reduceLE, Int.reduceNeg, Int.reduceToNat, List.reduceReplicate, Int.ofNat_le, List.getElem?_drop]
  refine szModule_ok hAu mxu lr fun ru hr => ?_
  rcases hr with rfl | ⟨lu, szu⟩
  · simp only [pm0, pwA, if_true, if_false, eq_self, nm_eq, reduceCtorEq, ↓reduceIte, Nat.reduceEqDiff, Nat.reduceLeDiff, Nat.reduceBEq, Nat.reduceAdd, Nat.reduceLT, Nat.reduceSub, Nat.reduceMul, Int.reduceEq, Int.reduceLT, Int.reduceLE, Int.reduceNeg, Int.reduceToNat, List.reduceReplicate, Int.ofNat_le, List.getElem?_drop]
    rfl
  have hru : ¬ ru < 0 := by unfold left_ at lu; omega
  simp only [pm0, pwA, if_true, if_false, eq_self, nm_eq, reduceCtorEq, ↓reduceIte, Nat.reduceEqDiff, Nat.reduceLeDiff, Nat.reduceBEq, Nat.reduceAdd, Nat.reduceLT, Nat.reduceSub, Nat.reduceMul, Int.reduceEq, Int.reduceLT, Int.reduceLE, Int.reduceNeg, Int.reduceToNat, List.reduceReplicate, Int.ofNat_le, List.getElem?_drop, hru]
  refine CallM.pure ?_
  simp only [pm0, pwA, if_true, if_false, eq_self, nm_eq, reduceCtorEq, ↓reduceIte, Nat.reduceEqDiff, Nat.reduceLeDiff, Nat.reduceBEq, Nat.reduceAdd, Nat.reduceLT, Nat.reduceSub, Nat.reduceMul, Int.reduceEq, Int.reduceLT, Int.reduceLE, Int.reduceNeg, Int.reduceToNat, List.reduceReplicate, Int.ofNat_le, List.getElem?_drop]
  refine szModule_ok hAy mxy lu fun ry hr => ?_
  rcases hr with rfl | ⟨ly, szy⟩
  · simp only [pm0, pwA, if_true, if_false, eq_self, nm_eq, reduceCtorEq, ↓reduceIte, Nat.reduceEqDiff, Nat.reduceLeDiff, Nat.reduceBEq, Nat.reduceAdd, Nat.reduceLT, Nat.reduceSub, Nat.reduceMul, Int.reduceEq, Int.reduceLT, Int.reduceLE, Int.reduceNeg, Int.reduceToNat, List.reduceReplicate, Int.ofNat_le, List.getElem?_drop]
    rfl
  have hry : ¬ ry < 0 := by unfold left_ at ly; omega
  simp only [pm0, pwA, if_true, if_false, eq_self, nm_eq, reduceCtorEq, ↓reduceIte, Nat.reduceEqDiff, Nat.reduceLeDiff, Nat.reduceBEq, Nat.reduceAdd, Nat.reduceLT, Nat.reduceSub, Nat.reduceMul, Int.reduceEq, Int.reduceLT, Int.reduceLE, Int.reduceNeg, Int.reduceToNat, List.reduceReplicate, Int.ofNat_le, List.getElem?_drop, hry]
  refine toPresentation_fz hRr szr fun aOr aPr aCr aqr => ?_
  simp only [pm0, pwA, if_true, if_false, eq_self, nm_eq, reduceCtorEq, ↓reduceIte, Nat.reduceEqDiff, Nat.reduceLeDiff, Nat.reduceBEq, Nat.reduceAdd, Nat.reduceLT, Nat.reduceSub, Nat.reduceMul, Int.reduceEq, Int.reduceLT, Int.reduceLE, Int.reduceNeg, Int.reduceToNat, List.reduceReplicate, Int.ofNat_le, List.getElem?_drop]
  refine toModule_fz hAu szu fun aAu aqu => ?_
  simp only [pm0, pwA, if_true, if_false, eq_self, nm_eq, reduceCtorEq, ↓reduceIte, Nat.reduceEqDiff, Nat.reduceLeDiff, Nat.reduceBEq, Nat.reduceAdd, Nat.reduceLT, Nat.reduceSub, Nat.reduceMul, Int.reduceEq, Int.reduceLT, Int.reduceLE, Int.reduceNeg, Int.reduceToNat, List.reduceReplicate, Int.ofNat_le, List.getElem?_drop]
  refine toModule_fz hAy szy fun aAy aqy => ?_
  simp only [pm0, pwA, if_true, if_false, eq_self, nm_eq, reduceCtorEq, ↓reduceIte, Nat.reduceEqDiff, Nat.reduceLeDiff, Nat.reduceBEq, Nat.reduceAdd, Nat.reduceLT, Nat.reduceSub, Nat.reduceMul, Int.reduceEq, Int.reduceLT, Int.reduceLE, Int.reduceNeg, Int.reduceToNat, List.reduceReplicate, Int.ofNat_le, List.getElem?_drop]
  refine l21Tensor_ok aqr szr aqu szu aqy szy fun w0 za zb z c hz hw0 => ?_
  have hzb := tens_bd hz
  simp only [pm0, pwA, if_true, if_false, eq_self, nm_eq, reduceCtorEq, ↓reduceIte, Nat.reduceEqDiff, Nat.reduceLeDiff, Nat.reduceBEq, Nat.reduceAdd, Nat.reduceLT, Nat.reduceSub, Nat.reduceMul, Int.reduceEq, Int.reduceLT, Int.reduceLE, Int.reduceNeg, Int.reduceToNat, List.reduceReplicate, Int.ofNat_le, List.getElem?_drop, hw0.one, hw0.cells]
  refine CallM.topH fun t0 ht0 hb0 hbh => ?_
  have bw : ∀ o ∈ ead w0, o < t0 := fun o ho => hbh ((PHeap.start h).next + 3) [.int .i64 za, .int .i64 zb, w0] (by simp only [pm0, pwA, if_true, if_false, eq_self, nm_eq, reduceCtorEq, ↓reduceIte, Nat.reduceEqDiff, Nat.reduceLeDiff, Nat.reduceBEq, Nat.reduceAdd, Nat.reduceLT, Nat.reduceSub, Nat.reduceMul, Int.reduceEq, Int.reduceLT, Int.reduceLE, Int.reduceNeg, Int.reduceToNat, List.reduceReplicate, Int.ofNat_le, List.getElem?_drop]) o (by simp [eads, ead, ho])
  simp only [ptop_new, ptop_start] at ht0
  refine CallM.pure ?_
  simp only [pm0, pwA, if_true, if_false, eq_self, nm_eq, reduceCtorEq, ↓reduceIte, Nat.reduceEqDiff, Nat.reduceLeDiff, Nat.reduceBEq, Nat.reduceAdd, Nat.reduceLT, Nat.reduceSub, Nat.reduceMul, Int.reduceEq, Int.reduceLT, Int.reduceLE, Int.reduceNeg, Int.reduceToNat, List.reduceReplicate, Int.ofNat_le, List.getElem?_drop]
  refine toPresentation_T hRr szr fun xOr xPr xCr t1 qr or hh1 => ?_
  simp only [ptop_up] at or hh1
  simp only [pm0, pwA, if_true, if_false, eq_self, nm_eq, reduceCtorEq, ↓reduceIte, Nat.reduceEqDiff, Nat.reduceLeDiff, Nat.reduceBEq, Nat.reduceAdd, Nat.reduceLT, Nat.reduceSub, Nat.reduceMul, Int.reduceEq, Int.reduceLT, Int.reduceLE, Int.reduceNeg, Int.reduceToNat, List.reduceReplicate, Int.ofNat_le, List.getElem?_drop, qr.O.one, qr.P.one, qr.C.one, up_up]
  refine CallM.pure ?_
  simp only [pm0, pwA, if_true, if_false, eq_self, nm_eq, reduceCtorEq, ↓reduceIte, Nat.reduceEqDiff, Nat.reduceLeDiff, Nat.reduceBEq, Nat.reduceAdd, Nat.reduceLT, Nat.reduceSub, Nat.reduceMul, Int.reduceEq, Int.reduceLT, Int.reduceLE, Int.reduceNeg, Int.reduceToNat, List.reduceReplicate, Int.ofNat_le, List.getElem?_drop]
  refine toModule_T hAu szu fun xAu t2 qu ou hh2 => ?_
  simp only [ptop_up] at ou hh2
  simp only [pm0, pwA, if_true, if_false, eq_self, nm_eq, reduceCtorEq, ↓reduceIte, Nat.reduceEqDiff, Nat.reduceLeDiff, Nat.reduceBEq, Nat.reduceAdd, Nat.reduceLT, Nat.reduceSub, Nat.reduceMul, Int.reduceEq, Int.reduceLT, Int.reduceLE, Int.reduceNeg, Int.reduceToNat, List.reduceReplicate, Int.ofNat_le, List.getElem?_drop, qu.one, up_up]
  refine CallM.pure ?_
  simp only [pm0, pwA, if_true, if_false, eq_self, nm_eq, reduceCtorEq, ↓reduceIte, Nat.reduceEqDiff, Nat.reduceLeDiff, Nat.reduceBEq, Nat.reduceAdd, Nat.reduceLT, Nat.reduceSub, Nat.reduceMul, Int.reduceEq, Int.reduceLT, Int.reduceLE, Int.reduceNeg, Int.reduceToNat, List.reduceReplicate, Int.ofNat_le, List.getElem?_drop]
  refine toModule_T hAy szy fun xAy t3 qy oy hh3 => ?_
  simp only [ptop_up] at oy hh3
  simp only [pm0, pwA, if_true, if_false, eq_self, nm_eq, reduceCtorEq, ↓reduceIte, Nat.reduceEqDiff, Nat.reduceLeDiff, Nat.reduceBEq, Nat.reduceAdd, Nat.reduceLT, Nat.reduceSub, Nat.reduceMul, Int.reduceEq, Int.reduceLT, Int.reduceLE, Int.reduceNeg, Int.reduceToNat, List.reduceReplicate, Int.ofNat_le, List.getElem?_drop, qy.one, up_up]
  refine CallM.pure ?_
  simp only [pm0, pwA, if_true, if_false, eq_self, nm_eq, reduceCtorEq, ↓reduceIte, Nat.reduceEqDiff, Nat.reduceLeDiff, Nat.reduceBEq, Nat.reduceAdd, Nat.reduceLT, Nat.reduceSub, Nat.reduceMul, Int.reduceEq, Int.reduceLT, Int.reduceLE, Int.reduceNeg, Int.reduceToNat, List.reduceReplicate, Int.ofNat_le, List.getElem?_drop]
  refine TensorModule_T qr szr qu szu qy szy fun g0 ya yb z' c' t4 hz' hg0 og hh4 => ?_
  simp only [ptop_up] at og hh4
  obtain ⟨hzz, rfl⟩ := hz'.unique hz
  cases hzz
  simp only [pm0, pwA, if_true, if_false, eq_self, nm_eq, reduceCtorEq, ↓reduceIte, Nat.reduceEqDiff, Nat.reduceLeDiff, Nat.reduceBEq, Nat.reduceAdd, Nat.reduceLT, Nat.reduceSub, Nat.reduceMul, Int.reduceEq, Int.reduceLT, Int.reduceLE, Int.reduceNeg, Int.reduceToNat, List.reduceReplicate, Int.ofNat_le, List.getElem?_drop, hg0.one, hg0.cells]
  refine CallM.pure ?_
  simp only [pm0, pwA, if_true, if_false, eq_self, nm_eq, reduceCtorEq, ↓reduceIte, Nat.reduceEqDiff, Nat.reduceLeDiff, Nat.reduceBEq, Nat.reduceAdd, Nat.reduceLT, Nat.reduceSub, Nat.reduceMul, Int.reduceEq, Int.reduceLT, Int.reduceLE, Int.reduceNeg, Int.reduceToNat, List.reduceReplicate, Int.ofNat_le, List.getElem?_drop]
  refine eqModule_ok hg0 hw0 hzb fun t ht => ?_
  obtain rfl := ht.2 ⟨rfl, rfl, rfl⟩
  simp only [pm0, pwA, if_true, if_false, eq_self, nm_eq, reduceCtorEq, ↓reduceIte, Nat.reduceEqDiff, Nat.reduceLeDiff, Nat.reduceBEq, Nat.reduceAdd, Nat.reduceLT, Nat.reduceSub, Nat.reduceMul, Int.reduceEq, Int.reduceLT, Int.reduceLE, Int.reduceNeg, Int.reduceToNat, List.reduceReplicate, Int.ofNat_le, List.getElem?_drop]
  refine toPresentation_fz hRr szr fun b1r b2r b3r sr => ?_
  simp only [pm0, pwA, if_true, if_false, eq_self, nm_eq, reduceCtorEq, ↓reduceIte, Nat.reduceEqDiff, Nat.reduceLeDiff, Nat.reduceBEq, Nat.reduceAdd, Nat.reduceLT, Nat.reduceSub, Nat.reduceMul, Int.reduceEq, Int.reduceLT, Int.reduceLE, Int.reduceNeg, Int.reduceToNat, List.reduceReplicate, Int.ofNat_le, List.getElem?_drop]
  refine eqPresentation_ok qr sr szr fun t ht => ?_
  obtain rfl := ht.2 ⟨rfl, rfl, rfl⟩
  simp only [pm0, pwA, if_true, if_false, eq_self, nm_eq, reduceCtorEq, ↓reduceIte, Nat.reduceEqDiff, Nat.reduceLeDiff, Nat.reduceBEq, Nat.reduceAdd, Nat.reduceLT, Nat.reduceSub, Nat.reduceMul, Int.reduceEq, Int.reduceLT, Int.reduceLE, Int.reduceNeg, Int.reduceToNat, List.reduceReplicate, Int.ofNat_le, List.getElem?_drop]
  refine toModule_fz hAu szu fun b1u su => ?_
  simp only [pm0, pwA, if_true, if_false, eq_self, nm_eq, reduceCtorEq, ↓reduceIte, Nat.reduceEqDiff, Nat.reduceLeDiff, Nat.reduceBEq, Nat.reduceAdd, Nat.reduceLT, Nat.reduceSub, Nat.reduceMul, Int.reduceEq, Int.reduceLT, Int.reduceLE, Int.reduceNeg, Int.reduceToNat, List.reduceReplicate, Int.ofNat_le, List.getElem?_drop]
  refine eqModule_ok qu su szu fun t ht => ?_
  obtain rfl := ht.2 ⟨rfl, rfl, rfl⟩
  simp only [pm0, pwA, if_true, if_false, eq_self, nm_eq, reduceCtorEq, ↓reduceIte, Nat.reduceEqDiff, Nat.reduceLeDiff, Nat.reduceBEq, Nat.reduceAdd, Nat.reduceLT, Nat.reduceSub, Nat.reduceMul, Int.reduceEq, Int.reduceLT, Int.reduceLE, Int.reduceNeg, Int.reduceToNat, List.reduceReplicate, Int.ofNat_le, List.getElem?_drop]
  refine toModule_fz hAy szy fun b1y sy => ?_
  simp only [pm0, pwA, if_true, if_false, eq_self, nm_eq, reduceCtorEq, ↓reduceIte, Nat.reduceEqDiff, Nat.reduceLeDiff, Nat.reduceBEq, Nat.reduceAdd, Nat.reduceLT, Nat.reduceSub, Nat.reduceMul, Int.reduceEq, Int.reduceLT, Int.reduceLE, Int.reduceNeg, Int.reduceToNat, List.reduceReplicate, Int.ofNat_le, List.getElem?_drop]
  refine eqModule_ok qy sy szy fun t ht => ?_
  obtain rfl := ht.2 ⟨rfl, rfl, rfl⟩
  simp only [pm0, pwA, if_true, if_false, eq_self, nm_eq, reduceCtorEq, ↓reduceIte, Nat.reduceEqDiff, Nat.reduceLeDiff, Nat.reduceBEq, Nat.reduceAdd, Nat.reduceLT, Nat.reduceSub, Nat.reduceMul, Int.reduceEq, Int.reduceLT, Int.reduceLE, Int.reduceNeg, Int.reduceToNat, List.reduceReplicate, Int.ofNat_le, List.getElem?_drop]
  have hbtr := totP_bdx szr
  have hbtu := totM_bdx szu
  have hbty := totM_bdx szy
  refine CallM.mark' (by simp only [pm0, pwA, if_true, if_false, eq_self, nm_eq, reduceCtorEq, ↓reduceIte, Nat.reduceEqDiff, Nat.reduceLeDiff, Nat.reduceBEq, Nat.reduceAdd, Nat.reduceLT, Nat.reduceSub, Nat.reduceMul, Int.reduceEq, Int.reduceLT, Int.reduceLE, Int.reduceNeg, Int.reduceToNat, List.reduceReplicate, Int.ofNat_le, List.getElem?_drop]) (markPresentation_M (k := 1) qr or szr (by omega) (by omega)) ?_
  have k0 := keysP (k := 1) qr or
  generalize mkPr (1) xOr xPr xCr Or Pr Cr = L1 at *
  have m0_0 : rm L1 vOr = vOr := rm_far k0 fun o ho => .inl (by have := havOr o ho; omega)
  have m0_1 : rm L1 vPr = vPr := rm_far k0 fun o ho => .inl (by have := havPr o ho; omega)
  have m0_2 : rm L1 vCr = vCr := rm_far k0 fun o ho => .inl (by have := havCr o ho; omega)
  have m0_3 : rm L1 vAu = vAu := rm_far k0 fun o ho => .inl (by have := havAu o ho; omega)
  have m0_4 : rm L1 vAy = vAy := rm_far k0 fun o ho => .inl (by have := havAy o ho; omega)
  have m0_w : rm L1 w0 = w0 := rm_far k0 fun o ho => .inl (by have := bw o ho; omega)
  have m0_u : rms L1 [.int .i64 pu, .int .i64 du, xAu] = [.int .i64 pu, .int .i64 du, xAu] := rms_id fun o ho => lookup_none.2 fun hm => by have := k0 o hm; have := ou.lt o ho; omega
  have m0_y : rms L1 [.int .i64 py, .int .i64 dy, xAy] = [.int .i64 py, .int .i64 dy, xAy] := rms_id fun o ho => lookup_none.2 fun hm => by have := k0 o hm; have := oy.lt o ho; omega
  have m0_g : rm L1 g0 = g0 := rm_far k0 fun o ho => .inr (by have := og.lt o ho; omega)
  simp only [pm0, pwA, if_true, if_false, eq_self, nm_eq, reduceCtorEq, ↓reduceIte, Nat.reduceEqDiff, Nat.reduceLeDiff, Nat.reduceBEq, Nat.reduceAdd, Nat.reduceLT, Nat.reduceSub, Nat.reduceMul, Int.reduceEq, Int.reduceLT, Int.reduceLE, Int.reduceNeg, Int.reduceToNat, List.reduceReplicate, Int.ofNat_le, List.getElem?_drop, m0_0, m0_1, m0_2, m0_3, m0_4, m0_w, m0_u, m0_y, m0_g]
  refine CallM.mark' (by simp only [pm0, pwA, if_true, if_false, eq_self, nm_eq, reduceCtorEq, ↓reduceIte, Nat.reduceEqDiff, Nat.reduceLeDiff, Nat.reduceBEq, Nat.reduceAdd, Nat.reduceLT, Nat.reduceSub, Nat.reduceMul, Int.reduceEq, Int.reduceLT, Int.reduceLE, Int.reduceNeg, Int.reduceToNat, List.reduceReplicate, Int.ofNat_le, List.getElem?_drop]) (markModule_M (k := 1 + (totP Or Pr Cr : Int)) qu ou szu (by omega) (by omega)) ?_
  have k1 := keysM (k := 1 + (totP Or Pr Cr : Int)) qu ou
  generalize mkF (mkF mkI List.length) (totL List.length) (1 + (totP Or Pr Cr : Int)) xAu Au = L2 at *
  have m1_0 : rm L2 vOr = vOr := rm_far k1 fun o ho => .inl (by have := havOr o ho; omega)
  have m1_1 : rm L2 vPr = vPr := rm_far k1 fun o ho => .inl (by have := havPr o ho; omega)
  have m1_2 : rm L2 vCr = vCr := rm_far k1 fun o ho => .inl (by have := havCr o ho; omega)
  have m1_3 : rm L2 vAu = vAu := rm_far k1 fun o ho => .inl (by have := havAu o ho; omega)
  have m1_4 : rm L2 vAy = vAy := rm_far k1 fun o ho => .inl (by have := havAy o ho; omega)
  have m1_w : rm L2 w0 = w0 := rm_far k1 fun o ho => .inl (by have := bw o ho; omega)
  have m1_y : rms L2 [.int .i64 py, .int .i64 dy, xAy] = [.int .i64 py, .int .i64 dy, xAy] := rms_id fun o ho => lookup_none.2 fun hm => by have := k1 o hm; have := oy.lt o ho; omega
  have m1_g : rm L2 g0 = g0 := rm_far k1 fun o ho => .inr (by have := og.lt o ho; omega)
  simp only [pm0, pwA, if_true, if_false, eq_self, nm_eq, reduceCtorEq, ↓reduceIte, Nat.reduceEqDiff, Nat.reduceLeDiff, Nat.reduceBEq, Nat.reduceAdd, Nat.reduceLT, Nat.reduceSub, Nat.reduceMul, Int.reduceEq, Int.reduceLT, Int.reduceLE, Int.reduceNeg, Int.reduceToNat, List.reduceReplicate, Int.ofNat_le, List.getElem?_drop, m1_0, m1_1, m1_2, m1_3, m1_4, m1_w, m1_y, m1_g]
  refine CallM.mark' (by simp only [pm0, pwA, if_true, if_false, eq_self, nm_eq, reduceCtorEq, ↓reduceIte, Nat.reduceEqDiff, Nat.reduceLeDiff, Nat.reduceBEq, Nat.reduceAdd, Nat.reduceLT, Nat.reduceSub, Nat.reduceMul, Int.reduceEq, Int.reduceLT, Int.reduceLE, Int.reduceNeg, Int.reduceToNat, List.reduceReplicate, Int.ofNat_le, List.getElem?_drop]) (markModule_M (k := 1 + (totP Or Pr Cr : Int) + (totL (totL List.length) Au : Int)) qy oy szy (by omega) (by omega)) ?_
  have k2 := keysM (k := 1 + (totP Or Pr Cr : Int) + (totL (totL List.length) Au : Int)) qy oy
  generalize mkF (mkF mkI List.length) (totL List.length) (1 + (totP Or Pr Cr : Int) + (totL (totL List.length) Au : Int)) xAy Ay = L3 at *
  have m2_0 : rm L3 vOr = vOr := rm_far k2 fun o ho => .inl (by have := havOr o ho; omega)
  have m2_1 : rm L3 vPr = vPr := rm_far k2 fun o ho => .inl (by have := havPr o ho; omega)
  have m2_2 : rm L3 vCr = vCr := rm_far k2 fun o ho => .inl (by have := havCr o ho; omega)
  have m2_3 : rm L3 vAu = vAu := rm_far k2 fun o ho => .inl (by have := havAu o ho; omega)
  have m2_4 : rm L3 vAy = vAy := rm_far k2 fun o ho => .inl (by have := havAy o ho; omega)
  have m2_w : rm L3 w0 = w0 := rm_far k2 fun o ho => .inl (by have := bw o ho; omega)
  have m2_g : rm L3 g0 = g0 := rm_far k2 fun o ho => .inr (by have := og.lt o ho; omega)
  have hn : ¬ (1 + (totP Or Pr Cr : Int) + (totL (totL List.length) Au : Int) + (totL (totL List.length) Ay : Int) < 0) := by omega
  simp only [pm0, pwA, if_true, if_false, eq_self, nm_eq, reduceCtorEq, ↓reduceIte, Nat.reduceEqDiff, Nat.reduceLeDiff, Nat.reduceBEq, Nat.reduceAdd, Nat.reduceLT, Nat.reduceSub, Nat.reduceMul, Int.reduceEq, Int.reduceLT, Int.reduceLE, Int.reduceNeg, Int.reduceToNat, List.reduceReplicate, Int.ofNat_le, List.getElem?_drop, m2_0, m2_1, m2_2, m2_3, m2_4, m2_w, m2_g, hn]
  refine CallM.pure ?_
  simp only [pm0, pwA, if_true, if_false, eq_self, nm_eq, reduceCtorEq, ↓reduceIte, Nat.reduceEqDiff, Nat.reduceLeDiff, Nat.reduceBEq, Nat.reduceAdd, Nat.reduceLT, Nat.reduceSub, Nat.reduceMul, Int.reduceEq, Int.reduceLT, Int.reduceLE, Int.reduceNeg, Int.reduceToNat, List.reduceReplicate, Int.ofNat_le, List.getElem?_drop]
  refine eqModule_ok hg0 hw0 hzb fun t ht => ?_
  obtain rfl := ht.2 ⟨rfl, rfl, rfl⟩
  simp only [pm0, pwA, if_true, if_false, eq_self, nm_eq, reduceCtorEq, ↓reduceIte, Nat.reduceEqDiff, Nat.reduceLeDiff, Nat.reduceBEq, Nat.reduceAdd, Nat.reduceLT, Nat.reduceSub, Nat.reduceMul, Int.reduceEq, Int.reduceLT, Int.reduceLE, Int.reduceNeg, Int.reduceToNat, List.reduceReplicate, Int.ofNat_le, List.getElem?_drop]
  have hzt := totM_bdx hzb
  refine CallM.mark' (by simp only [pm0, pwA, if_true, if_false, eq_self, nm_eq, reduceCtorEq, ↓reduceIte, Nat.reduceEqDiff, Nat.reduceLeDiff, Nat.reduceBEq, Nat.reduceAdd, Nat.reduceLT, Nat.reduceSub, Nat.reduceMul, Int.reduceEq, Int.reduceLT, Int.reduceLE, Int.reduceNeg, Int.reduceToNat, List.reduceReplicate, Int.ofNat_le, List.getElem?_drop]) (markModule_M (p := za) (d := zb) (k := 1) hg0 (Owns.mod og hh4) hzb (by omega) (by omega)) ?_
  have kg := keysM (p := za) (d := zb) (k := 1) hg0 (Owns.mod og hh4)
  have hgm := mkT_I.F.F.rd (k := 1) hg0 og.wh og.nd
  generalize mkF (mkF mkI List.length) (totL List.length) 1 g0 z = Lg at *
  have mg_0 : rm Lg vOr = vOr := rm_far kg fun o ho => .inl (by have := havOr o ho; omega)
  have mg_1 : rm Lg vPr = vPr := rm_far kg fun o ho => .inl (by have := havPr o ho; omega)
  have mg_2 : rm Lg vCr = vCr := rm_far kg fun o ho => .inl (by have := havCr o ho; omega)
  have mg_3 : rm Lg vAu = vAu := rm_far kg fun o ho => .inl (by have := havAu o ho; omega)
  have mg_4 : rm Lg vAy = vAy := rm_far kg fun o ho => .inl (by have := havAy o ho; omega)
  have mg_w : rm Lg w0 = w0 := rm_far kg fun o ho => .inl (by have := bw o ho; omega)
  obtain ⟨g1, mg_g⟩ : ∃ g1, rm Lg g0 = g1 := ⟨_, rfl⟩
  rw [mg_g] at hgm
  simp only [pm0, pwA, if_true, if_false, eq_self, nm_eq, reduceCtorEq, ↓reduceIte, Nat.reduceEqDiff, Nat.reduceLeDiff, Nat.reduceBEq, Nat.reduceAdd, Nat.reduceLT, Nat.reduceSub, Nat.reduceMul, Int.reduceEq, Int.reduceLT, Int.reduceLE, Int.reduceNeg, Int.reduceToNat, List.reduceReplicate, Int.ofNat_le, List.getElem?_drop, mg_0, mg_1, mg_2, mg_3, mg_4, mg_w, mg_g]
  refine CallM.pure ?_
  simp only [pm0, pwA, if_true, if_false, eq_self, nm_eq, reduceCtorEq, ↓reduceIte, Nat.reduceEqDiff, Nat.reduceLeDiff, Nat.reduceBEq, Nat.reduceAdd, Nat.reduceLT, Nat.reduceSub, Nat.reduceMul, Int.reduceEq, Int.reduceLT, Int.reduceLE, Int.reduceNeg, Int.reduceToNat, List.reduceReplicate, Int.ofNat_le, List.getElem?_drop]
  refine heldModule_ok hgm hzb (by omega) (by omega) ?_
  have hn1 : ¬ (1 + (totL (totL List.length) z : Int) < 0) := by omega
  simp only [pm0, pwA, if_true, if_false, eq_self, nm_eq, reduceCtorEq, ↓reduceIte, Nat.reduceEqDiff, Nat.reduceLeDiff, Nat.reduceBEq, Nat.reduceAdd, Nat.reduceLT, Nat.reduceSub, Nat.reduceMul, Int.reduceEq, Int.reduceLT, Int.reduceLE, Int.reduceNeg, Int.reduceToNat, List.reduceReplicate, Int.ofNat_le, List.getElem?_drop, hn1]
  refine toPresentation_fz hRr szr fun dOr dPr dCr dqr => ?_
  simp only [pm0, pwA, if_true, if_false, eq_self, nm_eq, reduceCtorEq, ↓reduceIte, Nat.reduceEqDiff, Nat.reduceLeDiff, Nat.reduceBEq, Nat.reduceAdd, Nat.reduceLT, Nat.reduceSub, Nat.reduceMul, Int.reduceEq, Int.reduceLT, Int.reduceLE, Int.reduceNeg, Int.reduceToNat, List.reduceReplicate, Int.ofNat_le, List.getElem?_drop]
  refine toModule_fz hAu szu fun dAu dqu => ?_
  simp only [pm0, pwA, if_true, if_false, eq_self, nm_eq, reduceCtorEq, ↓reduceIte, Nat.reduceEqDiff, Nat.reduceLeDiff, Nat.reduceBEq, Nat.reduceAdd, Nat.reduceLT, Nat.reduceSub, Nat.reduceMul, Int.reduceEq, Int.reduceLT, Int.reduceLE, Int.reduceNeg, Int.reduceToNat, List.reduceReplicate, Int.ofNat_le, List.getElem?_drop]
  refine toModule_fz hAy szy fun dAy dqy => ?_
  simp only [pm0, pwA, if_true, if_false, eq_self, nm_eq, reduceCtorEq, ↓reduceIte, Nat.reduceEqDiff, Nat.reduceLeDiff, Nat.reduceBEq, Nat.reduceAdd, Nat.reduceLT, Nat.reduceSub, Nat.reduceMul, Int.reduceEq, Int.reduceLT, Int.reduceLE, Int.reduceNeg, Int.reduceToNat, List.reduceReplicate, Int.ofNat_le, List.getElem?_drop]
  refine TensorModule_T dqr szr dqu szu dqy szy fun g2 xa xb z2 c2 tz hz2 hg2 og2 hhz => ?_
  obtain ⟨hzz, rfl⟩ := hz2.unique hz
  cases hzz
  simp only [pm0, pwA, if_true, if_false, eq_self, nm_eq, reduceCtorEq, ↓reduceIte, Nat.reduceEqDiff, Nat.reduceLeDiff, Nat.reduceBEq, Nat.reduceAdd, Nat.reduceLT, Nat.reduceSub, Nat.reduceMul, Int.reduceEq, Int.reduceLT, Int.reduceLE, Int.reduceNeg, Int.reduceToNat, List.reduceReplicate, Int.ofNat_le, List.getElem?_drop, hg2.one, hg2.cells]
  refine CallM.pure ?_
  simp only [pm0, pwA, if_true, if_false, eq_self, nm_eq, reduceCtorEq, ↓reduceIte, Nat.reduceEqDiff, Nat.reduceLeDiff, Nat.reduceBEq, Nat.reduceAdd, Nat.reduceLT, Nat.reduceSub, Nat.reduceMul, Int.reduceEq, Int.reduceLT, Int.reduceLE, Int.reduceNeg, Int.reduceToNat, List.reduceReplicate, Int.ofNat_le, List.getElem?_drop]
  refine eqModule_ok hg2 hw0 hzb fun t ht => ?_
  obtain rfl := ht.2 ⟨rfl, rfl, rfl⟩
  simp only [pm0, pwA, if_true, if_false, eq_self, nm_eq, reduceCtorEq, ↓reduceIte, Nat.reduceEqDiff, Nat.reduceLeDiff, Nat.reduceBEq, Nat.reduceAdd, Nat.reduceLT, Nat.reduceSub, Nat.reduceMul, Int.reduceEq, Int.reduceLT, Int.reduceLE, Int.reduceNeg, Int.reduceToNat, List.reduceReplicate, Int.ofNat_le, List.getElem?_drop]
  refine CallM.pure ?_
  simp only [pm0, pwA, if_true, if_false, eq_self, nm_eq, reduceCtorEq, ↓reduceIte, Nat.reduceEqDiff, Nat.reduceLeDiff, Nat.reduceBEq, Nat.reduceAdd, Nat.reduceLT, Nat.reduceSub, Nat.reduceMul, Int.reduceEq, Int.reduceLT, Int.reduceLE, Int.reduceNeg, Int.reduceToNat, List.reduceReplicate, Int.ofNat_le, List.getElem?_drop]
  refine heldModule_ok hgm hzb (by omega) (by omega) ?_
  simp only [pm0, pwA, if_true, if_false, eq_self, nm_eq, reduceCtorEq, ↓reduceIte, Nat.reduceEqDiff, Nat.reduceLeDiff, Nat.reduceBEq, Nat.reduceAdd, Nat.reduceLT, Nat.reduceSub, Nat.reduceMul, Int.reduceEq, Int.reduceLT, Int.reduceLE, Int.reduceNeg, Int.reduceToNat, List.reduceReplicate, Int.ofNat_le, List.getElem?_drop, hn1]
  rfl
end Go.Proofs
namespace Go.Proofs.Ytpkibanhkjboeaa
open Go.ChangeShapes Go.WideShapes Go.ChangeAt Go.RowKit Go.Ab Go.Joins Go.Lie Go.Proofs
set_option linter.unusedVariables false
set_option maxRecDepth 100000 in
theorem tensorContract {H : Type} {enc : TypeId × Value → H} (W : World) (base : Nat) (args : Array Value) (ds gs : List (DataW H)) (before : List MemPlace)
    (hval : ∀ (j : Nat) t v, Try.f7.params[j]? = some t → args[j]? = some v → Value.okWide Try.prog W .any base t v)
    (hW : DataW.Whole enc Try.prog Try.f7.params.toList Rows.fnExactTensorModuleSpec.vars false W args.toList ds gs before) :
    Calls Try.prog 7 args W fun e W' => ∃ v, e = .returned v ∧ Rows.fnExactTensorModuleSpec.post enc Try.prog Try.f7 false true false false W args v W' := by
  have hW' := hW
  obtain ⟨p, q, hA0, hV, rfl, hfz, hnd⟩ := hW
  have hA : DataW.TrodAll enc Try.prog W 0 (fun _ => true) true Try.f7.params.toList args.toList ds p := hA0
  rw [Try.params7] at hA hval
  obtain ⟨v0, vs0, d0, ds0, p0, q0, hargs, rfl, rfl, t0, r0⟩ := trodAll_cons hA
  obtain ⟨v1, vs1, d1, ds1, p1, q1, rfl, rfl, rfl, t1, r1⟩ := trodAll_cons r0
  obtain ⟨v2, vs2, d2, ds2, p2, q2, rfl, rfl, rfl, t2, r2⟩ := trodAll_cons r1
  obtain ⟨rfl, rfl, rfl⟩ := trodAll_nil r2
  obtain rfl : args = #[v0, v1, v2] := by cases args; simp_all
  obtain ⟨j0, h0, vO0, vP0, vC0, O0, W0, C0, m0, l0, e0, i0, o0, R0, x0⟩ := layPr (MR.empty W) (hval 0 26 v0 rfl rfl) t0
  obtain ⟨j1, h1, p1, dd1, vA1, As1, m1, l1, e1, i1, o1, R1, x1⟩ := layMod (m0) (hval 1 28 v1 rfl rfl) t1
  obtain ⟨j2, h2, p2, dd2, vA2, As2, m2, l2, e2, i2, o2, R2, x2⟩ := layMod (m1) (hval 2 28 v2 rfl rfl) t2
  have ac := law_of_vm (h := h2) mix Try.func7 cf7 (args := [.agg [vO0, vP0, vC0], .agg [.int .i64 p1, .int .i64 dd1, vA1], .agg [.int .i64 p2, .int .i64 dd2, vA2]]) rfl m2.wf ⟨(e1.trans e2).vok o0, e2.vok o1, o2, trivial⟩ fun ha => FnExactTensorModule_ok R0 x0 R1 x1 R2 x2 ha
  refine (ac.calls m2 (cargs := #[v0, v1, v2]) ⟨_, _, rfl, VI.mono (l1.trans l2) _ _ i0, _, _, rfl, VI.mono l2 _ _ i1, _, _, rfl, i2, rfl⟩).mono fun e W' ⟨he, hb⟩ => ?_
  exact ⟨_, he, post_of_below rfl laidOut (by rw [Try.params7]; intro t ht; simp only [List.mem_cons, List.not_mem_nil, or_false] at ht; rcases ht with rfl | rfl | rfl <;> exact ⟨by kernel_rfl, of_decide_eq_true (by kernel_rfl)⟩) (by kernel_rfl) Try.underlying4 rfl hW' hb⟩
set_option maxRecDepth 100000 in
theorem tensorLifted (os : Os) (started : os.Started) (H : Type) (enc : TypeId × Value → H) :
    ReturnsInHanded {} Try.checked os 7 .any (Rows.fnExactTensorModuleSpec.pre6 enc Try.prog Try.f7 Rows.fnExactTensorModuleRow.domain false) (Rows.fnExactTensorModuleSpec.post enc Try.prog Try.f7 false true false false) := by
  refine returnsInHanded_of_change (C := Try.checked) own started (by kernel_rfl) Try.func7
    (ChangeSpec.witness6 (enc := enc) (C := Try.checked) false ⟨#[], #[.agg #[.slice none 0 0, .slice none 0 0, .slice none 0 0], .agg #[.int .i64 0, .int .i64 0, .slice none 0 0], .agg #[.int .i64 0, .int .i64 0, .slice none 0 0]], []⟩ 8 (by kernel_rfl) (by kernel_rfl) (by kernel_rfl) (by kernel_rfl)) ?_
  intro W base args ds gs before hval hW _ _
  exact tensorContract W base args ds gs before hval hW
theorem tensorProved : Rows.FnExactTensorModuleSaid :=
  OpenClaim.holds_of_wide 7 Try.f7 rfl rfl rfl rfl rfl rfl rfl ⟨rfl, rfl, rfl, rfl, rfl⟩ rfl rfl rfl rfl rfl (by kernel_rfl) Try.func7 (by kernel_rfl)
    (of_decide_eq_true (by kernel_rfl)) (by unfold Func.isWrapper; first | (rw [if_pos (by decide +kernel)]; kernel_rfl) | (rw [if_neg (by decide +kernel)]; exact ⟨rfl, rfl⟩))
    (fun os started H enc _ => tensorLifted os started H enc)
end Go.Proofs.Ytpkibanhkjboeaa
