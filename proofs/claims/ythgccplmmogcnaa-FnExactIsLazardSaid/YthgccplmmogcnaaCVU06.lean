/- Lie rings: the shape, the reference's side. -/
import Derived.Test.YthgccplmmogcnaaCVU05
set_option linter.unusedSimpArgs false
set_option linter.unusedVariables false
namespace Go.Proofs
open Go.Ab Go.Lie
variable {σ : PHeap} {K : PV → PHeap → Prop} {p : Int} {n : Nat} {W : List (List Int)} {B : List (List (List Int))} {vP vB : PV} {s : Nat}

theorem l31Shape_ok (hR : IsR vP vB W B) (sz : SzR W B) (hk : ∀ t : Bool, (t = true ↔ isShape p W B) → K (.bool t) σ) : PCalls Try.prog 89 [.agg [.int .i64 p, vP, vB]] σ K := by
  obtain ⟨⟨w1, a1, rP, rfl, hP⟩, ⟨w3, a3, rB, rfl, hB⟩⟩ := hR
  refine PCalls.gh ?_
  have fin : ∀ {t : Bool} {σ' : PHeap}, (t = true ↔ isShape p W B) → Keep σ σ' → Gh σ K (.bool t) σ' := fun h k => Gh.fin0 k trivial (hk _ h)
  have no : ∀ {σ' : PHeap}, ¬ isShape p W B → Keep σ σ' → Gh σ K (.bool false) σ' := fun h k => fin ⟨fun x => (by cases x), fun x => absurd x h⟩ k
  have hkp := keep_new σ [.int .i64 p, .fz w1 a1 W.length rP, .fz w3 a3 B.length rB]
  refine pcalls_of_vp mix Try.func89 cf89 rfl ?_
  dsimp only [if89, qI, eI, nI, qD, eD]
  simp only [pw0, pw1, pw2, pw3, pw4, pw5, pw6, pw7, pw8, pw9, if_true, if_false, eq_self, nm_eq, reduceCtorEq, ↓reduceIte, Nat.reduceEqDiff, Nat.reduceLeDiff, Nat.reduceBEq, Nat.reduceAdd, Nat.reduceLT, Nat.reduceSub, Nat.reduceMul, Int.reduceEq, Int.reduceLT, Int.reduceLE, Int.reduceNeg, Int.reduceToNat]
  refine l01Prime_ok ?_
  by_cases hp : isP p
  rotate_left
  · simp only [pw0, pw1, pw2, pw3, pw4, pw5, pw6, pw7, pw8, pw9, if_true, if_false, eq_self, nm_eq, reduceCtorEq, ↓reduceIte, Nat.reduceEqDiff, Nat.reduceLeDiff, Nat.reduceBEq, Nat.reduceAdd, Nat.reduceLT, Nat.reduceSub, Nat.reduceMul, Int.reduceEq, Int.reduceLT, Int.reduceLE, Int.reduceNeg, Int.reduceToNat, hp]
    exact no (fun h => hp h.1) hkp
  by_cases h6 : W.length ≤ 6
  rotate_left
  · have h6' : (6 : Int) < (W.length : Int) := by omega
    simp only [pw0, pw1, pw2, pw3, pw4, pw5, pw6, pw7, pw8, pw9, if_true, if_false, eq_self, nm_eq, reduceCtorEq, ↓reduceIte, Nat.reduceEqDiff, Nat.reduceLeDiff, Nat.reduceBEq, Nat.reduceAdd, Nat.reduceLT, Nat.reduceSub, Nat.reduceMul, Int.reduceEq, Int.reduceLT, Int.reduceLE, Int.reduceNeg, Int.reduceToNat, hp, h6']
    exact no (fun h => h6 h.2.1) hkp
  have h6' : ¬ (6 : Int) < (W.length : Int) := by omega
  by_cases hBl : B.length = W.length
  rotate_left
  · have hBl' : ¬ (B.length : Int) = (W.length : Int) := by omega
    simp only [pw0, pw1, pw2, pw3, pw4, pw5, pw6, pw7, pw8, pw9, if_true, if_false, eq_self, nm_eq, reduceCtorEq, ↓reduceIte, Nat.reduceEqDiff, Nat.reduceLeDiff, Nat.reduceBEq, Nat.reduceAdd, Nat.reduceLT, Nat.reduceSub, Nat.reduceMul, Int.reduceEq, Int.reduceLT, Int.reduceLE, Int.reduceNeg, Int.reduceToNat, hp, h6', hBl']
    exact no (fun h => hBl h.2.2.1) hkp
  have hBl' : (B.length : Int) = (W.length : Int) := by omega
  have hpb := hp.bd
  simp only [pw0, pw1, pw2, pw3, pw4, pw5, pw6, pw7, pw8, pw9, if_true, if_false, eq_self, nm_eq, reduceCtorEq, ↓reduceIte, Nat.reduceEqDiff, Nat.reduceLeDiff, Nat.reduceBEq, Nat.reduceAdd, Nat.reduceLT, Nat.reduceSub, Nat.reduceMul, Int.reduceEq, Int.reduceLT, Int.reduceLE, Int.reduceNeg, Int.reduceToNat, hp, h6', eq_true hBl']
  refine l31Size_ok hp.bd h6 fun o k1 k2 k3 k4 => ?_
  by_cases ho : ipow p W.length ≤ 729
  rotate_left
  · have ho' : (729 : Int) < o := by rcases Int.lt_or_le 729 o with x | x; exact x; exact absurd (k1.1 x) ho
    simp only [pw0, pw1, pw2, pw3, pw4, pw5, pw6, pw7, pw8, pw9, if_true, if_false, eq_self, nm_eq, reduceCtorEq, ↓reduceIte, Nat.reduceEqDiff, Nat.reduceLeDiff, Nat.reduceBEq, Nat.reduceAdd, Nat.reduceLT, Nat.reduceSub, Nat.reduceMul, Int.reduceEq, Int.reduceLT, Int.reduceLE, Int.reduceNeg, Int.reduceToNat, ho']
    exact no (fun h => ho h.2.2.2.1) hkp
  have ho' : ¬ (729 : Int) < o := by have := k1.2 ho; omega
  simp only [pw0, pw1, pw2, pw3, pw4, pw5, pw6, pw7, pw8, pw9, if_true, if_false, eq_self, nm_eq, reduceCtorEq, ↓reduceIte, Nat.reduceEqDiff, Nat.reduceLeDiff, Nat.reduceBEq, Nat.reduceAdd, Nat.reduceLT, Nat.reduceSub, Nat.reduceMul, Int.reduceEq, Int.reduceLT, Int.reduceLE, Int.reduceNeg, Int.reduceToNat, ho']
  refine vp_loop (fun m vs h' => ∃ i : Nat, i ≤ W.length ∧ m = W.length - i ∧ vs = [.ptr σ.next 0, .int .i64 W.length, .int .i64 i] ∧ h' = σ.new [.int .i64 p, .fz w1 a1 W.length rP, .fz w3 a3 B.length rB] ∧ ∀ j, j < i → rowOK p W.length W B j) W.length ?_ ?_
  · exact ⟨0, by omega, by omega, rfl, rfl, fun j hj => by omega⟩
  · rintro m vs h' ⟨i, hi, rfl, rfl, rfl, hall⟩
    simp only [pw0, pw1, pw2, pw3, pw4, pw5, pw6, pw7, pw8, pw9, if_true, if_false, eq_self, nm_eq, reduceCtorEq, ↓reduceIte, Nat.reduceEqDiff, Nat.reduceLeDiff, Nat.reduceBEq, Nat.reduceAdd, Nat.reduceLT, Nat.reduceSub, Nat.reduceMul, Int.reduceEq, Int.reduceLT, Int.reduceLE, Int.reduceNeg, Int.reduceToNat]
    refine iteI (fun hlt => ?_) fun hge => ?_
    rotate_left
    · exact fin ⟨fun _ => ⟨hp, h6, hBl, ho, fun j hj => hall j (by omega)⟩, fun _ => rfl⟩ hkp
    obtain ⟨w4, a4, hr⟩ := hP.rowI hlt
    have hiB : i < B.length := by omega
    obtain ⟨w5, a5, rs, hrb, hrs⟩ := hB.rowL hiB
    have hwl := sz.w _ (List.getElem_mem hlt)
    have hbl := sz.b _ (List.getElem_mem hiB)
    have bad : (isVec W[i] p W.length → isZ (W[i].take (i + 1)) → B[i].length = W.length - 1 - i → (∀ k (h : k < B[i].length), entOK p W.length (i + k + 2) B[i][k]) → False) → ¬ isShape p W B := fun hb hsh => by
      obtain ⟨⟨q1, q2⟩, q3, q4⟩ := hsh.2.2.2.2 i hlt
      rw [getD_row hlt] at q1 q2
      rw [getD_row' hiB] at q3
      refine hb q1 q2 q3 fun k h => ?_
      have := q4 k (by omega)
      rwa [getD_row' hiB, getD_row' h] at this
    simp only [pw0, pw1, pw2, pw3, pw4, pw5, pw6, pw7, pw8, pw9, if_true, if_false, eq_self, nm_eq, reduceCtorEq, ↓reduceIte, Nat.reduceEqDiff, Nat.reduceLeDiff, Nat.reduceBEq, Nat.reduceAdd, Nat.reduceLT, Nat.reduceSub, Nat.reduceMul, Int.reduceEq, Int.reduceLT, Int.reduceLE, Int.reduceNeg, Int.reduceToNat, hlt, hr, List.getElem?_drop]
    refine l31Is_ok rfl (by omega) (by omega) (by omega) ?_
    by_cases hv : isVec W[i] p W.length
    rotate_left
    · simp only [pw0, pw1, pw2, pw3, pw4, pw5, pw6, pw7, pw8, pw9, if_true, if_false, eq_self, nm_eq, reduceCtorEq, ↓reduceIte, Nat.reduceEqDiff, Nat.reduceLeDiff, Nat.reduceBEq, Nat.reduceAdd, Nat.reduceLT, Nat.reduceSub, Nat.reduceMul, Int.reduceEq, Int.reduceLT, Int.reduceLE, Int.reduceNeg, Int.reduceToNat, hv]
      exact no (bad fun q _ _ _ => hv q) hkp
    have hvl : W[i].length = W.length := by have := hv.1; omega
    simp only [pw0, pw1, pw2, pw3, pw4, pw5, pw6, pw7, pw8, pw9, if_true, if_false, eq_self, nm_eq, reduceCtorEq, ↓reduceIte, Nat.reduceEqDiff, Nat.reduceLeDiff, Nat.reduceBEq, Nat.reduceAdd, Nat.reduceLT, Nat.reduceSub, Nat.reduceMul, Int.reduceEq, Int.reduceLT, Int.reduceLE, Int.reduceNeg, Int.reduceToNat, hv, hlt, hr, List.getElem?_drop]
    refine l31Blank_ok rfl (by omega) (by omega) ?_
    by_cases hz : isZ (W[i].take (i + 1))
    rotate_left
    · simp only [pw0, pw1, pw2, pw3, pw4, pw5, pw6, pw7, pw8, pw9, if_true, if_false, eq_self, nm_eq, reduceCtorEq, ↓reduceIte, Nat.reduceEqDiff, Nat.reduceLeDiff, Nat.reduceBEq, Nat.reduceAdd, Nat.reduceLT, Nat.reduceSub, Nat.reduceMul, Int.reduceEq, Int.reduceLT, Int.reduceLE, Int.reduceNeg, Int.reduceToNat, hz]
      exact no (bad fun _ q _ _ => hz q) hkp
    have e1 : IntKind.i64.wrap ((W.length : Int) - 1) = (W.length : Int) - 1 := wrap64 (by omega) (by omega)
    have e2 : IntKind.i64.wrap ((W.length : Int) - 1 - (i : Int)) = (W.length : Int) - 1 - (i : Int) := wrap64 (by omega) (by omega)
    by_cases hlen : B[i].length = W.length - 1 - i
    rotate_left
    · have hlen' : ¬ (B[i].length : Int) = (W.length : Int) - 1 - (i : Int) := by omega
      simp only [pw0, pw1, pw2, pw3, pw4, pw5, pw6, pw7, pw8, pw9, if_true, if_false, eq_self, nm_eq, reduceCtorEq, ↓reduceIte, Nat.reduceEqDiff, Nat.reduceLeDiff, Nat.reduceBEq, Nat.reduceAdd, Nat.reduceLT, Nat.reduceSub, Nat.reduceMul, Int.reduceEq, Int.reduceLT, Int.reduceLE, Int.reduceNeg, Int.reduceToNat, hz, hlt, hiB, hrb, List.getElem?_drop, e1, e2, hlen']
      exact no (bad fun _ _ q _ => hlen q) hkp
    have hlen' : (B[i].length : Int) = (W.length : Int) - 1 - (i : Int) := by omega
    simp only [pw0, pw1, pw2, pw3, pw4, pw5, pw6, pw7, pw8, pw9, if_true, if_false, eq_self, nm_eq, reduceCtorEq, ↓reduceIte, Nat.reduceEqDiff, Nat.reduceLeDiff, Nat.reduceBEq, Nat.reduceAdd, Nat.reduceLT, Nat.reduceSub, Nat.reduceMul, Int.reduceEq, Int.reduceLT, Int.reduceLE, Int.reduceNeg, Int.reduceToNat, hz, hlt, hiB, hrb, List.getElem?_drop, e1, e2, eq_true hlen', wrapS hlt (by omega : W.length ≤ 4611686018427387904)]
    refine vp_loop (fun m vs h' => ∃ k : Nat, k ≤ B[i].length ∧ m = B[i].length - k ∧ vs = [.ptr σ.next 0, .int .i64 W.length, .int .i64 i, .int .i64 ((i + (1 + k) : Nat) : Int)] ∧
      h' = σ.new [.int .i64 p, .fz w1 a1 W.length rP, .fz w3 a3 B.length rB] ∧ ∀ j (h : j < B[i].length), j < k → entOK p W.length (i + j + 2) B[i][j]) B[i].length ?_ ?_
    · exact ⟨0, by omega, by omega, rfl, rfl, fun j h hj => by omega⟩
    · rintro m vs h' ⟨k, hk', rfl, rfl, rfl, hall2⟩
      simp only [pw0, pw1, pw2, pw3, pw4, pw5, pw6, pw7, pw8, pw9, if_true, if_false, eq_self, nm_eq, reduceCtorEq, ↓reduceIte, Nat.reduceEqDiff, Nat.reduceLeDiff, Nat.reduceBEq, Nat.reduceAdd, Nat.reduceLT, Nat.reduceSub, Nat.reduceMul, Int.reduceEq, Int.reduceLT, Int.reduceLE, Int.reduceNeg, Int.reduceToNat]
      refine iteI (fun hj => ?_) fun hge => ?_
      rotate_left
      · simp only [pw0, pw1, pw2, pw3, pw4, pw5, pw6, pw7, pw8, pw9, if_true, if_false, eq_self, nm_eq, reduceCtorEq, ↓reduceIte, Nat.reduceEqDiff, Nat.reduceLeDiff, Nat.reduceBEq, Nat.reduceAdd, Nat.reduceLT, Nat.reduceSub, Nat.reduceMul, Int.reduceEq, Int.reduceLT, Int.reduceLE, Int.reduceNeg, Int.reduceToNat, wrapS hlt (by omega : W.length ≤ 4611686018427387904)]
        refine ⟨_, by omega, i + 1, by omega, rfl, rfl, fun j hj => ?_⟩
        by_cases e : j = i
        · subst e
          refine ⟨by rw [getD_row hlt]; exact ⟨hv, hz⟩, by rw [getD_row' hiB]; exact hlen, fun t ht => ?_⟩
          rw [getD_row' hiB, getD_row' (by omega : t < B[j].length)]
          exact hall2 t (by omega) (by omega)
        · exact hall j (by omega)
      have hlt2 : k < B[i].length := by omega
      obtain ⟨w6, a6, hrk⟩ := hrs.rowI hlt2
      have hcl := sz.c _ (List.getElem_mem hiB) _ (List.getElem_mem hlt2)
      have e3 : IntKind.i64.wrap (((i + (1 + k) : Nat) : Int) - (i : Int)) = ((1 + k : Nat) : Int) := by rw [wrap64 (by omega) (by omega)]; omega
      have e4 : IntKind.i64.wrap (((1 + k : Nat) : Int) - 1) = (k : Int) := by rw [wrap64 (by omega) (by omega)]; omega
      simp only [pw0, pw1, pw2, pw3, pw4, pw5, pw6, pw7, pw8, pw9, if_true, if_false, eq_self, nm_eq, reduceCtorEq, ↓reduceIte, Nat.reduceEqDiff, Nat.reduceLeDiff, Nat.reduceBEq, Nat.reduceAdd, Nat.reduceLT, Nat.reduceSub, Nat.reduceMul, Int.reduceEq, Int.reduceLT, Int.reduceLE, Int.reduceNeg, Int.reduceToNat, hiB, hrb, e3, e4, hlt2, hrk, List.getElem?_drop]
      refine l31Is_ok rfl (by omega) (by omega) (by omega) ?_
      by_cases hv2 : isVec B[i][k] p W.length
      rotate_left
      · simp only [pw0, pw1, pw2, pw3, pw4, pw5, pw6, pw7, pw8, pw9, if_true, if_false, eq_self, nm_eq, reduceCtorEq, ↓reduceIte, Nat.reduceEqDiff, Nat.reduceLeDiff, Nat.reduceBEq, Nat.reduceAdd, Nat.reduceLT, Nat.reduceSub, Nat.reduceMul, Int.reduceEq, Int.reduceLT, Int.reduceLE, Int.reduceNeg, Int.reduceToNat, hv2]
        exact no (bad fun _ _ _ q => hv2 (q k hlt2).1) hkp
      have hvl2 : B[i][k].length = W.length := by have := hv2.1; omega
      simp only [pw0, pw1, pw2, pw3, pw4, pw5, pw6, pw7, pw8, pw9, if_true, if_false, eq_self, nm_eq, reduceCtorEq, ↓reduceIte, Nat.reduceEqDiff, Nat.reduceLeDiff, Nat.reduceBEq, Nat.reduceAdd, Nat.reduceLT, Nat.reduceSub, Nat.reduceMul, Int.reduceEq, Int.reduceLT, Int.reduceLE, Int.reduceNeg, Int.reduceToNat, hv2]
      refine l31Blank_ok rfl (by omega) (by omega) ?_
      have ek : i + (1 + k) + 1 = i + (k + 2) := by omega
      rw [ek]
      by_cases hz2 : isZ (B[i][k].take (i + (k + 2)))
      rotate_left
      · simp only [pw0, pw1, pw2, pw3, pw4, pw5, pw6, pw7, pw8, pw9, if_true, if_false, eq_self, nm_eq, reduceCtorEq, ↓reduceIte, Nat.reduceEqDiff, Nat.reduceLeDiff, Nat.reduceBEq, Nat.reduceAdd, Nat.reduceLT, Nat.reduceSub, Nat.reduceMul, Int.reduceEq, Int.reduceLT, Int.reduceLE, Int.reduceNeg, Int.reduceToNat, hz2]
        exact no (bad fun _ _ _ q => hz2 (q k hlt2).2) hkp
      have e5 : IntKind.i64.wrap (((i + (1 + k) : Nat) : Int) + 1) = ((i + (1 + (k + 1)) : Nat) : Int) := by rw [wrap64 (by omega) (by omega)]; omega
      simp only [pw0, pw1, pw2, pw3, pw4, pw5, pw6, pw7, pw8, pw9, if_true, if_false, eq_self, nm_eq, reduceCtorEq, ↓reduceIte, Nat.reduceEqDiff, Nat.reduceLeDiff, Nat.reduceBEq, Nat.reduceAdd, Nat.reduceLT, Nat.reduceSub, Nat.reduceMul, Int.reduceEq, Int.reduceLT, Int.reduceLE, Int.reduceNeg, Int.reduceToNat, hz2, e5]
      refine ⟨_, by omega, k + 1, by omega, rfl, rfl, fun j h hj => ?_⟩
      by_cases e : j = k
      · subst e; exact ⟨hv2, hz2⟩
      · exact hall2 j h (by omega)
end Go.Proofs
