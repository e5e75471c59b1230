/- The statement on the Lie rings of Lazard groups. -/
import Derived.Test.YtngdcibjjomfjaaGreatCP27
import Derived.Test.YtngdcibjjomfjaaGreatCP28
import Derived.Test.YtngdcibjjomfjaaGreatCP31
import Derived.Test.YtngdcibjjomfjaaGreatCP32
import Derived.Test.YtngdcibjjomfjaaGreatCP33
import Derived.Test.YtngdcibjjomfjaaGreatCP39
import Derived.Test.YtngdcibjjomfjaaGreatCP40
open Nat renaming reduceLeDiff → nQ7, reduceEqDiff → nQ10, reduceBEq → nQ11, reduceAdd → nQ12, reduceLT → nQ16, reduceSub → nQ17, reduceMul → nQ18
open Int renaming reduceEq → iQ2, reduceLT → iQ3, reduceLE → iQ4, reduceNeg → iQ5, reduceToNat → iQ6, ofNat_le → iQ7
open List renaming reduceReplicate → lQ19, getElem?_drop → lQ20
namespace Go.Grp
end Go.Grp
set_option linter.unusedSimpArgs false
set_option linter.unusedVariables false
namespace Go.Proofs
open Go.Ab Go.Lie Go.Grp
theorem FnExactLazardRing_ok {h : AHeap} {Or : List Int} {Pr : List (List Int)} {Cr : List (List (List Int))} {vOr vPr vCr : PV} (hRr : IsPr vOr vPr vCr Or Pr Cr) (mxr : MxP Or Pr Cr) (ha : ∀ o ∈ eads [.agg [vOr, vPr, vCr]], o < h.next) :
    vm Tryz.prog if4.body (retP if4.res isTrue_) (PEnv.mk if4.params [.agg [vOr, vPr, vCr]]) (PHeap.start h) := by
  have h0r := hRr.O.one
  have h1r := hRr.P.one
  have h2r := hRr.C.one
  have havOr : ∀ o ∈ ead vOr, o < h.next := fun o ho => ha o (by simp [eads, ead, ho])
  have havPr : ∀ o ∈ ead vPr, o < h.next := fun o ho => ha o (by simp [eads, ead, ho])
  have havCr : ∀ o ∈ ead vCr, o < h.next := fun o ho => ha o (by simp [eads, ead, ho])
  dsimp only [if4, qI, eI, nI, qD, eD]
  simp only [pm0, pwA, if_true, if_false, eq_self, nm_eq, reduceCtorEq, ↓reduceIte, nQ10, nQ7, nQ11, nQ12, nQ16, nQ17, nQ18, iQ2, iQ3, iQ4, iQ5, iQ6, lQ19, iQ7, lQ20, h0r, h1r, h2r]
  refine CallM.pure ?_
  simp only [pm0, pwA, if_true, if_false, eq_self, nm_eq, reduceCtorEq, ↓reduceIte, nQ10, nQ7, nQ11, nQ12, nQ16, nQ17, nQ18, iQ2, iQ3, iQ4, iQ5, iQ6, lQ19, iQ7, lQ20]
  refine szPresentation_ok hRr mxr (by unfold left_; omega) fun rr hr => ?_
  rcases hr with rfl | ⟨lr, szr⟩
  · simp only [pm0, pwA, if_true, if_false, eq_self, nm_eq, reduceCtorEq, ↓reduceIte, nQ10, nQ7, nQ11, nQ12, nQ16, nQ17, nQ18, iQ2, iQ3, iQ4, iQ5, iQ6, lQ19, iQ7, lQ20]
    rfl
  have hrr : ¬ rr < 0 := by unfold left_ at lr; omega
  simp only [pm0, pwA, if_true, if_false, eq_self, nm_eq, reduceCtorEq, ↓reduceIte, nQ10, nQ7, nQ11, nQ12, nQ16, nQ17, nQ18, iQ2, iQ3, iQ4, iQ5, iQ6, lQ19, iQ7, lQ20, hrr]
  refine CallM.pure ?_
  simp only [pm0, pwA, if_true, if_false, eq_self, nm_eq, reduceCtorEq, ↓reduceIte, nQ10, nQ7, nQ11, nQ12, nQ16, nQ17, nQ18, iQ2, iQ3, iQ4, iQ5, iQ6, lQ19, iQ7, lQ20]
  refine toPresentation_fz hRr szr fun aOr aPr aCr aqr => ?_
  simp only [pm0, pwA, if_true, if_false, eq_self, nm_eq, reduceCtorEq, ↓reduceIte, nQ10, nQ7, nQ11, nQ12, nQ16, nQ17, nQ18, iQ2, iQ3, iQ4, iQ5, iQ6, lQ19, iQ7, lQ20]
  refine CallM.pure ?_
  simp only [pm0, pwA, if_true, if_false, eq_self, nm_eq, reduceCtorEq, ↓reduceIte, nQ10, nQ7, nQ11, nQ12, nQ16, nQ17, nQ18, iQ2, iQ3, iQ4, iQ5, iQ6, lQ19, iQ7, lQ20]
  refine l34LazardRing_ok aqr szr fun pz w1 w2 z1 z2 c hz hw0 => ?_
  have hzb := lr_bd hz
  simp only [pm0, pwA, if_true, if_false, eq_self, nm_eq, reduceCtorEq, ↓reduceIte, nQ10, nQ7, nQ11, nQ12, nQ16, nQ17, nQ18, iQ2, iQ3, iQ4, iQ5, iQ6, lQ19, iQ7, lQ20, hw0.P.one, hw0.B.one]
  refine CallM.topH fun t0 ht0 hb0 hbh => ?_
  have bw' := hbh ((PHeap.start h).next + 1) [.int .i64 pz, w1, w2] (by simp only [pm0, pwA, if_true, if_false, eq_self, nm_eq, reduceCtorEq, ↓reduceIte, nQ10, nQ7, nQ11, nQ12, nQ16, nQ17, nQ18, iQ2, iQ3, iQ4, iQ5, iQ6, lQ19, iQ7, lQ20])
  have bw1 : ∀ o ∈ ead w1, o < t0 := fun o ho => bw' o (by simp [eads, ho])
  have bw2 : ∀ o ∈ ead w2, o < t0 := fun o ho => bw' o (by simp [eads, ho])
  simp only [ptop_new, ptop_start] at ht0
  refine CallM.pure ?_
  simp only [pm0, pwA, if_true, if_false, eq_self, nm_eq, reduceCtorEq, ↓reduceIte, nQ10, nQ7, nQ11, nQ12, nQ16, nQ17, nQ18, iQ2, iQ3, iQ4, iQ5, iQ6, lQ19, iQ7, lQ20]
  refine toPresentation_T hRr szr fun xOr xPr xCr t1 qr or hh1 => ?_
  simp only [ptop_up] at or hh1
  simp only [pm0, pwA, if_true, if_false, eq_self, nm_eq, reduceCtorEq, ↓reduceIte, nQ10, nQ7, nQ11, nQ12, nQ16, nQ17, nQ18, iQ2, iQ3, iQ4, iQ5, iQ6, lQ19, iQ7, lQ20, qr.O.one, qr.P.one, qr.C.one, up_up]
  refine CallM.pure ?_
  simp only [pm0, pwA, if_true, if_false, eq_self, nm_eq, reduceCtorEq, ↓reduceIte, nQ10, nQ7, nQ11, nQ12, nQ16, nQ17, nQ18, iQ2, iQ3, iQ4, iQ5, iQ6, lQ19, iQ7, lQ20]
  refine LazardRing_T qr szr fun py g1 g2 y1 y2 c' t2 hz' hg0 og hh2 => ?_
  simp only [ptop_up] at og hh2
  obtain ⟨hzz, rfl⟩ := hz'.unique hz
  cases hzz
  simp only [pm0, pwA, if_true, if_false, eq_self, nm_eq, reduceCtorEq, ↓reduceIte, nQ10, nQ7, nQ11, nQ12, nQ16, nQ17, nQ18, iQ2, iQ3, iQ4, iQ5, iQ6, lQ19, iQ7, lQ20, hg0.P.one, hg0.B.one]
  have lg1 : ∀ o ∈ ead g1, t1 ≤ o ∧ o < t2 := fun o ho => og.lt o (by simp [ead, eads, ho])
  have lg2 : ∀ o ∈ ead g2, t1 ≤ o ∧ o < t2 := fun o ho => og.lt o (by simp [ead, eads, ho])
  refine CallM.pure ?_
  simp only [pm0, pwA, if_true, if_false, eq_self, nm_eq, reduceCtorEq, ↓reduceIte, nQ10, nQ7, nQ11, nQ12, nQ16, nQ17, nQ18, iQ2, iQ3, iQ4, iQ5, iQ6, lQ19, iQ7, lQ20]
  refine eqLieRing_ok hg0 hw0 hzb fun t ht => ?_
  obtain rfl := ht.2 ⟨rfl, rfl, rfl⟩
  simp only [pm0, pwA, if_true, if_false, eq_self, nm_eq, reduceCtorEq, ↓reduceIte, nQ10, nQ7, nQ11, nQ12, nQ16, nQ17, nQ18, iQ2, iQ3, iQ4, iQ5, iQ6, lQ19, iQ7, lQ20]
  refine toPresentation_fz hRr szr fun b1r b2r b3r sr => ?_
  simp only [pm0, pwA, if_true, if_false, eq_self, nm_eq, reduceCtorEq, ↓reduceIte, nQ10, nQ7, nQ11, nQ12, nQ16, nQ17, nQ18, iQ2, iQ3, iQ4, iQ5, iQ6, lQ19, iQ7, lQ20]
  refine eqPresentation_ok qr sr szr fun t ht => ?_
  obtain rfl := ht.2 ⟨rfl, rfl, rfl⟩
  simp only [pm0, pwA, if_true, if_false, eq_self, nm_eq, reduceCtorEq, ↓reduceIte, nQ10, nQ7, nQ11, nQ12, nQ16, nQ17, nQ18, iQ2, iQ3, iQ4, iQ5, iQ6, lQ19, iQ7, lQ20]
  have hbtr := totP_bdx szr
  refine CallM.mark' (by simp only [pm0, pwA, if_true, if_false, eq_self, nm_eq, reduceCtorEq, ↓reduceIte, nQ10, nQ7, nQ11, nQ12, nQ16, nQ17, nQ18, iQ2, iQ3, iQ4, iQ5, iQ6, lQ19, iQ7, lQ20]) (markPresentation_M (k := 1) qr or szr (by omega) (by omega)) ?_
  have k0 := keysP (k := 1) qr or
  generalize mkPr (1) xOr xPr xCr Or Pr Cr = L1 at *
  have m0_0 : rm L1 vOr = vOr := rm_far k0 fun o ho => .inl (by have := havOr o ho; omega)
  have m0_1 : rm L1 vPr = vPr := rm_far k0 fun o ho => .inl (by have := havPr o ho; omega)
  have m0_2 : rm L1 vCr = vCr := rm_far k0 fun o ho => .inl (by have := havCr o ho; omega)
  have m0_w1 : rm L1 w1 = w1 := rm_far k0 fun o ho => .inl (by have := bw1 o ho; omega)
  have m0_w2 : rm L1 w2 = w2 := rm_far k0 fun o ho => .inl (by have := bw2 o ho; omega)
  have m0_g1 : rm L1 g1 = g1 := rm_far k0 fun o ho => .inr (by have := lg1 o ho; omega)
  have m0_g2 : rm L1 g2 = g2 := rm_far k0 fun o ho => .inr (by have := lg2 o ho; omega)
  have hn : ¬ (1 + (totP Or Pr Cr : Int) < 0) := by omega
  simp only [pm0, pwA, if_true, if_false, eq_self, nm_eq, reduceCtorEq, ↓reduceIte, nQ10, nQ7, nQ11, nQ12, nQ16, nQ17, nQ18, iQ2, iQ3, iQ4, iQ5, iQ6, lQ19, iQ7, lQ20, m0_0, m0_1, m0_2, m0_w1, m0_w2, m0_g1, m0_g2, hn]
  refine CallM.pure ?_
  simp only [pm0, pwA, if_true, if_false, eq_self, nm_eq, reduceCtorEq, ↓reduceIte, nQ10, nQ7, nQ11, nQ12, nQ16, nQ17, nQ18, iQ2, iQ3, iQ4, iQ5, iQ6, lQ19, iQ7, lQ20]
  refine eqLieRing_ok hg0 hw0 hzb fun t ht => ?_
  obtain rfl := ht.2 ⟨rfl, rfl, rfl⟩
  simp only [pm0, pwA, if_true, if_false, eq_self, nm_eq, reduceCtorEq, ↓reduceIte, nQ10, nQ7, nQ11, nQ12, nQ16, nQ17, nQ18, iQ2, iQ3, iQ4, iQ5, iQ6, lQ19, iQ7, lQ20]
  have hzt := totR_bd hzb
  refine CallM.mark' (by simp only [pm0, pwA, if_true, if_false, eq_self, nm_eq, reduceCtorEq, ↓reduceIte, nQ10, nQ7, nQ11, nQ12, nQ16, nQ17, nQ18, iQ2, iQ3, iQ4, iQ5, iQ6, lQ19, iQ7, lQ20]) (markLieRing_M (k := 1) hg0 og hzb (by omega) (by omega)) ?_
  have kg := keysR (k := 1) hg0 og
  obtain ⟨hgm1, hgm2⟩ := rmR (k := 1) hg0 og
  generalize mkR 1 g1 g2 z1 z2 = Lg at *
  have mg_0 : rm Lg vOr = vOr := rm_far kg fun o ho => .inl (by have := havOr o ho; omega)
  have mg_1 : rm Lg vPr = vPr := rm_far kg fun o ho => .inl (by have := havPr o ho; omega)
  have mg_2 : rm Lg vCr = vCr := rm_far kg fun o ho => .inl (by have := havCr o ho; omega)
  have mg_w1 : rm Lg w1 = w1 := rm_far kg fun o ho => .inl (by have := bw1 o ho; omega)
  have mg_w2 : rm Lg w2 = w2 := rm_far kg fun o ho => .inl (by have := bw2 o ho; omega)
  obtain ⟨rg1, mg_g1⟩ : ∃ r, rm Lg g1 = r := ⟨_, rfl⟩
  rw [mg_g1] at hgm1
  obtain ⟨rg2, mg_g2⟩ : ∃ r, rm Lg g2 = r := ⟨_, rfl⟩
  rw [mg_g2] at hgm2
  have hzu := hzt
  unfold totR at hzu
  have hte : 1 + (totL List.length z1 : Int) + (totL (totL List.length) z2 : Int) = 1 + (totR z1 z2 : Int) := by unfold totR; omega
  simp only [pm0, pwA, if_true, if_false, eq_self, nm_eq, reduceCtorEq, ↓reduceIte, nQ10, nQ7, nQ11, nQ12, nQ16, nQ17, nQ18, iQ2, iQ3, iQ4, iQ5, iQ6, lQ19, iQ7, lQ20, mg_0, mg_1, mg_2, mg_w1, mg_w2, mg_g1, mg_g2]
  refine CallM.pure ?_
  simp only [pm0, pwA, if_true, if_false, eq_self, nm_eq, reduceCtorEq, ↓reduceIte, nQ10, nQ7, nQ11, nQ12, nQ16, nQ17, nQ18, iQ2, iQ3, iQ4, iQ5, iQ6, lQ19, iQ7, lQ20]
  refine heldLieRing_ok hgm1 hgm2 hzb (by omega) (by omega) ?_
  rw [hte]
  have hn1 : ¬ (1 + (totR z1 z2 : Int) < 0) := by omega
  simp only [pm0, pwA, if_true, if_false, eq_self, nm_eq, reduceCtorEq, ↓reduceIte, nQ10, nQ7, nQ11, nQ12, nQ16, nQ17, nQ18, iQ2, iQ3, iQ4, iQ5, iQ6, lQ19, iQ7, lQ20, hn1]
  refine CallM.pure ?_
  simp only [pm0, pwA, if_true, if_false, eq_self, nm_eq, reduceCtorEq, ↓reduceIte, nQ10, nQ7, nQ11, nQ12, nQ16, nQ17, nQ18, iQ2, iQ3, iQ4, iQ5, iQ6, lQ19, iQ7, lQ20]
  refine toPresentation_fz hRr szr fun dOr dPr dCr dqr => ?_
  simp only [pm0, pwA, if_true, if_false, eq_self, nm_eq, reduceCtorEq, ↓reduceIte, nQ10, nQ7, nQ11, nQ12, nQ16, nQ17, nQ18, iQ2, iQ3, iQ4, iQ5, iQ6, lQ19, iQ7, lQ20]
  refine CallM.pure ?_
  simp only [pm0, pwA, if_true, if_false, eq_self, nm_eq, reduceCtorEq, ↓reduceIte, nQ10, nQ7, nQ11, nQ12, nQ16, nQ17, nQ18, iQ2, iQ3, iQ4, iQ5, iQ6, lQ19, iQ7, lQ20]
  refine LazardRing_T dqr szr fun px f1 f2 x1 x2 c2 tz hz2 hg2 og2 hhz => ?_
  obtain ⟨hzz, rfl⟩ := hz2.unique hz
  cases hzz
  simp only [pm0, pwA, if_true, if_false, eq_self, nm_eq, reduceCtorEq, ↓reduceIte, nQ10, nQ7, nQ11, nQ12, nQ16, nQ17, nQ18, iQ2, iQ3, iQ4, iQ5, iQ6, lQ19, iQ7, lQ20, hg2.P.one, hg2.B.one]
  refine CallM.pure ?_
  simp only [pm0, pwA, if_true, if_false, eq_self, nm_eq, reduceCtorEq, ↓reduceIte, nQ10, nQ7, nQ11, nQ12, nQ16, nQ17, nQ18, iQ2, iQ3, iQ4, iQ5, iQ6, lQ19, iQ7, lQ20]
  refine eqLieRing_ok hg2 hw0 hzb fun t ht => ?_
  obtain rfl := ht.2 ⟨rfl, rfl, rfl⟩
  simp only [pm0, pwA, if_true, if_false, eq_self, nm_eq, reduceCtorEq, ↓reduceIte, nQ10, nQ7, nQ11, nQ12, nQ16, nQ17, nQ18, iQ2, iQ3, iQ4, iQ5, iQ6, lQ19, iQ7, lQ20]
  refine CallM.pure ?_
  simp only [pm0, pwA, if_true, if_false, eq_self, nm_eq, reduceCtorEq, ↓reduceIte, nQ10, nQ7, nQ11, nQ12, nQ16, nQ17, nQ18, iQ2, iQ3, iQ4, iQ5, iQ6, lQ19, iQ7, lQ20]
  refine heldLieRing_ok hgm1 hgm2 hzb (by omega) (by omega) ?_
  rw [hte]
  simp only [pm0, pwA, if_true, if_false, eq_self, nm_eq, reduceCtorEq, ↓reduceIte, nQ10, nQ7, nQ11, nQ12, nQ16, nQ17, nQ18, iQ2, iQ3, iQ4, iQ5, iQ6, lQ19, iQ7, lQ20, hn1]
  rfl
end Go.Proofs
namespace Go.Proofs.YtngdcibjjomfjaaGreat
open Go.ChangeShapes Go.WideShapes Go.ChangeAt Go.RowKit Go.Ab Go.Joins Go.Lie Go.Proofs
set_option maxRecDepth 100000 in
theorem lazardRingContract {H : Type} {enc : TypeId × Value → H} (W : World) (base : Nat) (args : Array Value) (ds gs : List (DataW H)) (before : List MemPlace)
    (hval : ∀ (j : Nat) t v, Tryz.f4.params[j]? = some t → args[j]? = some v → Value.okWide Tryz.prog W .any base t v)
    (hW : DataW.Whole enc Tryz.prog Tryz.f4.params.toList Rows.fnExactLazardRingSpec.vars false W args.toList ds gs before) :
    Calls Tryz.prog 4 args W fun e W' => ∃ v, e = .returned v ∧ Rows.fnExactLazardRingSpec.post enc Tryz.prog Tryz.f4 false true false false W args v W' := by
  have hW' := hW
  obtain ⟨p, q, hA0, hV, rfl, hfz, hnd⟩ := hW
  have hA : DataW.TrodAll enc Tryz.prog W 0 (fun _ => true) true Tryz.f4.params.toList args.toList ds p := hA0
  rw [Tryz.params4] at hA hval
  obtain ⟨v0, vs0, d0, ds0, p0, q0, hargs, rfl, rfl, t0, r0⟩ := trodAll_cons hA
  obtain ⟨rfl, rfl, rfl⟩ := trodAll_nil r0
  obtain rfl : args = #[v0] := by cases args; simp_all
  obtain ⟨j0, h0, vO0, vP0, vC0, O0, W0, C0, m0, l0, e0, i0, o0, R0, x0⟩ := layPr (MR.empty W) (hval 0 39 v0 rfl rfl) t0
  have ac := law_of_vm (h := h0) mix Tryz.func4 cf4 (args := [.agg [vO0, vP0, vC0]]) rfl m0.wf ⟨o0, trivial⟩ fun ha => FnExactLazardRing_ok R0 x0 ha
  refine (ac.calls m0 (cargs := #[v0]) ⟨_, _, rfl, i0, rfl⟩).mono fun e W' ⟨he, hb⟩ => ?_
  exact ⟨_, he, post_of_below rfl laidOut (by rw [Tryz.params4]; intro t ht; simp only [List.mem_cons, List.not_mem_nil, or_false] at ht; rcases ht with rfl <;> exact ⟨by kernel_rfl, of_decide_eq_true (by kernel_rfl)⟩) (by kernel_rfl) Tryz.underlying4 rfl hW' hb⟩
set_option maxRecDepth 100000 in
theorem lazardRingLifted (os : Os) (started : os.Started) (H : Type) (enc : TypeId × Value → H) :
    ReturnsInHanded {} Tryz.checked os 4 .any (Rows.fnExactLazardRingSpec.pre6 enc Tryz.prog Tryz.f4 Rows.fnExactLazardRingRow.domain false) (Rows.fnExactLazardRingSpec.post enc Tryz.prog Tryz.f4 false true false false) := by
  refine returnsInHanded_of_change (C := Tryz.checked) own started (by kernel_rfl) Tryz.func4
    (ChangeSpec.witness6 (enc := enc) (C := Tryz.checked) false ⟨#[], #[.agg #[.slice none 0 0, .slice none 0 0, .slice none 0 0]], []⟩ 8 (by kernel_rfl) (by kernel_rfl) (by kernel_rfl) (by kernel_rfl)) ?_
  intro W base args ds gs before hval hW _ _
  exact lazardRingContract W base args ds gs before hval hW
theorem lazardRingProved : Rows.FnExactLazardRingSaid :=
  OpenClaim.holds_of_wide 4 Tryz.f4 rfl rfl rfl rfl rfl rfl rfl ⟨rfl, rfl, rfl, rfl, rfl⟩ rfl rfl rfl rfl rfl (by kernel_rfl) Tryz.func4 (by kernel_rfl)
    (of_decide_eq_true (by kernel_rfl)) (by unfold Func.isWrapper; first | (rw [if_pos (by decide +kernel)]; kernel_rfl) | (rw [if_neg (by decide +kernel)]; exact ⟨rfl, rfl⟩))
    (fun os started H enc _ => lazardRingLifted os started H enc)
end Go.Proofs.YtngdcibjjomfjaaGreat
