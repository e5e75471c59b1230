/- Lie rings: the faults, the reference's side. -/
import Derived.Test.YthgccplmmogcnaaCVU07
set_option linter.unusedSimpArgs false
set_option linter.unusedVariables false
namespace Go.Proofs
open Go.Ab Go.Lie
variable {σ : PHeap} {K : PV → PHeap → Prop} {p : Int} {n : Nat} {W : List (List Int)} {B : List (List (List Int))} {vP vB : PV} {s : Nat}

theorem l31Fault_ok (hR : IsR vP vB W B) (o : OkW p n W) (q : OkB p n B) (hk : ∀ kind i j k : Int, (kind = 0 ↔ NoFault p W B n) → K (.tup [.int .i64 kind, .int .i64 i, .int .i64 j, .int .i64 k]) σ) : PCalls Try.prog 90 [.agg [.int .i64 p, vP, vB]] σ K := by
  have hn6 := o.le
  have hWl := o.len
  have hp := o.pr
  have hR0 := hR
  have hPP := hR.P
  obtain ⟨⟨w1, a1, rP, rfl, hP⟩, ⟨w3, a3, rB, rfl, hB⟩⟩ := hR
  have hpk : -1000000000 ≤ p ∧ p ≤ 1000000000 := by unfold okp at hp; omega
  subst hWl
  refine PCalls.gh ?_
  have hkp := keep_new σ [.int .i64 p, .fz w1 a1 W.length rP, .fz w3 a3 B.length rB]
  have fin : ∀ kind i j k : Int, (kind = 0 ↔ NoFault p W B W.length) → Gh σ K (.tup [.int .i64 kind, .int .i64 i, .int .i64 j, .int .i64 k]) (σ.new [.int .i64 p, .fz w1 a1 W.length rP, .fz w3 a3 B.length rB]) := fun kind i j k h => Gh.fin0 hkp ⟨trivial, trivial, trivial, trivial, trivial⟩ (hk kind i j k h)
  refine pcalls_of_vp mix Try.func90 cf90 rfl ?_
  dsimp only [if90, qI, eI, nI, qD, eD]
  simp only [pw0, pw1, pw2, pw3, pw4, pw5, pw6, pw7, pw8, pw9, if_true, if_false, eq_self, nm_eq, reduceCtorEq, ↓reduceIte, Nat.reduceEqDiff, Nat.reduceLeDiff, Nat.reduceBEq, Nat.reduceAdd, Nat.reduceLT, Nat.reduceSub, Nat.reduceMul, Int.reduceEq, Int.reduceLT, Int.reduceLE, Int.reduceNeg, Int.reduceToNat]
  refine vp_loop (fun m vs h' => ∃ i : Nat, i ≤ W.length ∧ m = W.length - i ∧ vs = [.ptr σ.next 0, .int .i64 W.length, .int .i64 i] ∧ σ.new [.int .i64 p, .fz w1 a1 W.length rP, .fz w3 a3 B.length rB] = h' ∧ ∀ i' j', i' < i → j' < W.length → F1 p W B W.length i' j') W.length ?_ ?_
  · exact ⟨0, by omega, by omega, rfl, rfl, fun i' j' h => by omega⟩
  rintro m vs h' ⟨i, hi, rfl, rfl, rfl, hall⟩
  simp only [pw0, pw1, pw2, pw3, pw4, pw5, pw6, pw7, pw8, pw9, if_true, if_false, eq_self, nm_eq, reduceCtorEq, ↓reduceIte, Nat.reduceEqDiff, Nat.reduceLeDiff, Nat.reduceBEq, Nat.reduceAdd, Nat.reduceLT, Nat.reduceSub, Nat.reduceMul, Int.reduceEq, Int.reduceLT, Int.reduceLE, Int.reduceNeg, Int.reduceToNat]
  refine iteI (fun hlt => ?_) fun hge => ?_
  · refine vp_loop (fun m vs h' => ∃ j : Nat, j ≤ W.length ∧ m = W.length - j ∧ vs = [.ptr σ.next 0, .int .i64 W.length, .int .i64 i, .int .i64 j] ∧ σ.new [.int .i64 p, .fz w1 a1 W.length rP, .fz w3 a3 B.length rB] = h' ∧ ∀ j', j' < j → F1 p W B W.length i j') W.length ?_ ?_
    · exact ⟨0, by omega, by omega, rfl, rfl, fun j' h => by omega⟩
    rintro m vs h' ⟨j, hj, rfl, rfl, rfl, hall2⟩
    simp only [pw0, pw1, pw2, pw3, pw4, pw5, pw6, pw7, pw8, pw9, if_true, if_false, eq_self, nm_eq, reduceCtorEq, ↓reduceIte, Nat.reduceEqDiff, Nat.reduceLeDiff, Nat.reduceBEq, Nat.reduceAdd, Nat.reduceLT, Nat.reduceSub, Nat.reduceMul, Int.reduceEq, Int.reduceLT, Int.reduceLE, Int.reduceNeg, Int.reduceToNat]
    refine iteI (fun hlt2 => ?_) fun hge => ?_
    · have ei := unit_el hp hlt
      have ej := unit_el hp hlt2
      have eb := br_el o q (a := unitL W.length i) (b := unitL W.length j)
      obtain ⟨w4, a4, hr⟩ := hP.rowI hlt
      have er := row_el o hlt
      refine l31Unit_ok hR0 rfl (by omega) hlt fun v1 => ?_
      simp only [pw0, pw1, pw2, pw3, pw4, pw5, pw6, pw7, pw8, pw9, if_true, if_false, eq_self, nm_eq, reduceCtorEq, ↓reduceIte, Nat.reduceEqDiff, Nat.reduceLeDiff, Nat.reduceBEq, Nat.reduceAdd, Nat.reduceLT, Nat.reduceSub, Nat.reduceMul, Int.reduceEq, Int.reduceLT, Int.reduceLE, Int.reduceNeg, Int.reduceToNat]
      refine l31Unit_ok hR0 rfl (by omega) hlt2 fun v2 => ?_
      simp only [pw0, pw1, pw2, pw3, pw4, pw5, pw6, pw7, pw8, pw9, if_true, if_false, eq_self, nm_eq, reduceCtorEq, ↓reduceIte, Nat.reduceEqDiff, Nat.reduceLeDiff, Nat.reduceBEq, Nat.reduceAdd, Nat.reduceLT, Nat.reduceSub, Nat.reduceMul, Int.reduceEq, Int.reduceLT, Int.reduceLE, Int.reduceNeg, Int.reduceToNat, hlt, hr, List.getElem?_drop]
      refine l31Bracket_ok hR0 o q ei ej (unitL_length _ _).symm (unitL_length _ _).symm fun v3 => ?_
      simp only [pw0, pw1, pw2, pw3, pw4, pw5, pw6, pw7, pw8, pw9, if_true, if_false, eq_self, nm_eq, reduceCtorEq, ↓reduceIte, Nat.reduceEqDiff, Nat.reduceLeDiff, Nat.reduceBEq, Nat.reduceAdd, Nat.reduceLT, Nat.reduceSub, Nat.reduceMul, Int.reduceEq, Int.reduceLT, Int.reduceLE, Int.reduceNeg, Int.reduceToNat, hlt, hr, List.getElem?_drop]
      refine l31Zero_ok hR0 rfl (by omega) fun vz => ?_
      simp only [pw0, pw1, pw2, pw3, pw4, pw5, pw6, pw7, pw8, pw9, if_true, if_false, eq_self, nm_eq, reduceCtorEq, ↓reduceIte, Nat.reduceEqDiff, Nat.reduceLeDiff, Nat.reduceBEq, Nat.reduceAdd, Nat.reduceLT, Nat.reduceSub, Nat.reduceMul, Int.reduceEq, Int.reduceLT, Int.reduceLE, Int.reduceNeg, Int.reduceToNat]
      refine l31Mix_el hR0 o eb (rep_el hp) eb.1.symm (by simp) hpk (by decide) fun v4 => ?_
      rw [lmix_any (eb.1.trans (by simp))]
      simp only [pw0, pw1, pw2, pw3, pw4, pw5, pw6, pw7, pw8, pw9, if_true, if_false, eq_self, nm_eq, reduceCtorEq, ↓reduceIte, Nat.reduceEqDiff, Nat.reduceLeDiff, Nat.reduceBEq, Nat.reduceAdd, Nat.reduceLT, Nat.reduceSub, Nat.reduceMul, Int.reduceEq, Int.reduceLT, Int.reduceLE, Int.reduceNeg, Int.reduceToNat, hlt, hr, List.getElem?_drop]
      refine l31Unit_ok hR0 rfl (by omega) hlt2 fun v6 => ?_
      simp only [pw0, pw1, pw2, pw3, pw4, pw5, pw6, pw7, pw8, pw9, if_true, if_false, eq_self, nm_eq, reduceCtorEq, ↓reduceIte, Nat.reduceEqDiff, Nat.reduceLeDiff, Nat.reduceBEq, Nat.reduceAdd, Nat.reduceLT, Nat.reduceSub, Nat.reduceMul, Int.reduceEq, Int.reduceLT, Int.reduceLE, Int.reduceNeg, Int.reduceToNat, hlt, hr, List.getElem?_drop]
      refine l31Bracket_ok hR0 o q er ej rfl (unitL_length _ _).symm fun v5 => ?_
      simp only [pw0, pw1, pw2, pw3, pw4, pw5, pw6, pw7, pw8, pw9, if_true, if_false, eq_self, nm_eq, reduceCtorEq, ↓reduceIte, Nat.reduceEqDiff, Nat.reduceLeDiff, Nat.reduceBEq, Nat.reduceAdd, Nat.reduceLT, Nat.reduceSub, Nat.reduceMul, Int.reduceEq, Int.reduceLT, Int.reduceLE, Int.reduceNeg, Int.reduceToNat]
      refine l01Same_ok (lmix_el o eb eb).1.symm (br_el o q).1.symm (by rw [(lmix_el o eb eb).1]; omega) ?_
      have hF : (lmul p W p (br p W B W.length (unitL W.length i) (unitL W.length j)) = br p W B W.length W[i] (unitL W.length j)) ↔ F1 p W B W.length i j := by unfold F1; rw [getD_row hlt]
      by_cases hf : lmul p W p (br p W B W.length (unitL W.length i) (unitL W.length j)) = br p W B W.length W[i] (unitL W.length j)
      · simp only [pw0, pw1, pw2, pw3, pw4, pw5, pw6, pw7, pw8, pw9, if_true, if_false, eq_self, nm_eq, reduceCtorEq, ↓reduceIte, Nat.reduceEqDiff, Nat.reduceLeDiff, Nat.reduceBEq, Nat.reduceAdd, Nat.reduceLT, Nat.reduceSub, Nat.reduceMul, Int.reduceEq, Int.reduceLT, Int.reduceLE, Int.reduceNeg, Int.reduceToNat, eq_true hf, wrapS hlt2 (by omega : W.length ≤ 4611686018427387904)]
        refine ⟨_, by omega, j + 1, by omega, rfl, rfl, fun j' h => ?_⟩
        by_cases e : j' = j
        · subst e; exact hF.1 hf
        · exact hall2 j' (by omega)
      · simp only [pw0, pw1, pw2, pw3, pw4, pw5, pw6, pw7, pw8, pw9, if_true, if_false, eq_self, nm_eq, reduceCtorEq, ↓reduceIte, Nat.reduceEqDiff, Nat.reduceLeDiff, Nat.reduceBEq, Nat.reduceAdd, Nat.reduceLT, Nat.reduceSub, Nat.reduceMul, Int.reduceEq, Int.reduceLT, Int.reduceLE, Int.reduceNeg, Int.reduceToNat, hf]
        exact fin _ _ _ _ ⟨fun x => by omega, fun x => absurd (hF.2 (x.1 i j hlt hlt2)) hf⟩
    · simp only [pw0, pw1, pw2, pw3, pw4, pw5, pw6, pw7, pw8, pw9, if_true, if_false, eq_self, nm_eq, reduceCtorEq, ↓reduceIte, Nat.reduceEqDiff, Nat.reduceLeDiff, Nat.reduceBEq, Nat.reduceAdd, Nat.reduceLT, Nat.reduceSub, Nat.reduceMul, Int.reduceEq, Int.reduceLT, Int.reduceLE, Int.reduceNeg, Int.reduceToNat, wrapS hlt (by omega : W.length ≤ 4611686018427387904)]
      refine ⟨_, by omega, i + 1, by omega, rfl, rfl, fun i' j' h h' => ?_⟩
      by_cases e : i' = i
      · subst e; exact hall2 j' (by omega)
      · exact hall i' j' (by omega) h'
  have hall : ∀ i j, i < W.length → j < W.length → F1 p W B W.length i j := fun i' j' h h' => hall i' j' (by omega) h'
  clear hge hi
  refine vp_loop (fun m vs h' => ∃ i : Nat, i ≤ W.length ∧ m = W.length - i ∧ vs = [.ptr σ.next 0, .int .i64 W.length, .int .i64 i] ∧ σ.new [.int .i64 p, .fz w1 a1 W.length rP, .fz w3 a3 B.length rB] = h' ∧ ∀ i' j k, i' < i → i' < j → j < k → k < W.length → F2 p W B W.length i' j k) W.length ?_ ?_
  · exact ⟨0, by omega, by omega, rfl, rfl, fun i' j k h => by omega⟩
  rintro m vs h' ⟨i, hi, rfl, rfl, rfl, hal1⟩
  simp only [pw0, pw1, pw2, pw3, pw4, pw5, pw6, pw7, pw8, pw9, if_true, if_false, eq_self, nm_eq, reduceCtorEq, ↓reduceIte, Nat.reduceEqDiff, Nat.reduceLeDiff, Nat.reduceBEq, Nat.reduceAdd, Nat.reduceLT, Nat.reduceSub, Nat.reduceMul, Int.reduceEq, Int.reduceLT, Int.reduceLE, Int.reduceNeg, Int.reduceToNat]
  refine iteI (fun hlt => ?_) fun hge => ?_
  rotate_left
  · exact fin _ _ _ _ ⟨fun _ => ⟨hall, fun i j k h1 h2 h3 => hal1 i j k (by omega) h1 h2 h3⟩, fun _ => rfl⟩
  simp only [pw0, pw1, pw2, pw3, pw4, pw5, pw6, pw7, pw8, pw9, if_true, if_false, eq_self, nm_eq, reduceCtorEq, ↓reduceIte, Nat.reduceEqDiff, Nat.reduceLeDiff, Nat.reduceBEq, Nat.reduceAdd, Nat.reduceLT, Nat.reduceSub, Nat.reduceMul, Int.reduceEq, Int.reduceLT, Int.reduceLE, Int.reduceNeg, Int.reduceToNat, wrapS hlt (by omega : W.length ≤ 4611686018427387904)]
  refine vp_loop (fun m vs h' => ∃ j : Nat, i + 1 ≤ j ∧ j ≤ W.length ∧ m = W.length - j ∧ vs = [.ptr σ.next 0, .int .i64 W.length, .int .i64 i, .int .i64 j] ∧ σ.new [.int .i64 p, .fz w1 a1 W.length rP, .fz w3 a3 B.length rB] = h' ∧ ∀ j' k, i < j' → j' < j → j' < k → k < W.length → F2 p W B W.length i j' k) (W.length - (i + 1)) ?_ ?_
  · exact ⟨i + 1, by omega, by omega, by omega, rfl, rfl, fun j' k h1 h2 => by omega⟩
  rintro m vs h' ⟨j, hij, hj, rfl, rfl, rfl, hal2⟩
  simp only [pw0, pw1, pw2, pw3, pw4, pw5, pw6, pw7, pw8, pw9, if_true, if_false, eq_self, nm_eq, reduceCtorEq, ↓reduceIte, Nat.reduceEqDiff, Nat.reduceLeDiff, Nat.reduceBEq, Nat.reduceAdd, Nat.reduceLT, Nat.reduceSub, Nat.reduceMul, Int.reduceEq, Int.reduceLT, Int.reduceLE, Int.reduceNeg, Int.reduceToNat]
  refine iteI (fun hlt2 => ?_) fun hge => ?_
  rotate_left
  · simp only [pw0, pw1, pw2, pw3, pw4, pw5, pw6, pw7, pw8, pw9, if_true, if_false, eq_self, nm_eq, reduceCtorEq, ↓reduceIte, Nat.reduceEqDiff, Nat.reduceLeDiff, Nat.reduceBEq, Nat.reduceAdd, Nat.reduceLT, Nat.reduceSub, Nat.reduceMul, Int.reduceEq, Int.reduceLT, Int.reduceLE, Int.reduceNeg, Int.reduceToNat, wrapS hlt (by omega : W.length ≤ 4611686018427387904)]
    refine ⟨_, by omega, i + 1, by omega, rfl, rfl, fun i' j' k h1 h2 h3 h4 => ?_⟩
    by_cases e : i' = i
    · subst e; exact hal2 j' k h2 (by omega) h3 h4
    · exact hal1 i' j' k (by omega) h2 h3 h4
  simp only [pw0, pw1, pw2, pw3, pw4, pw5, pw6, pw7, pw8, pw9, if_true, if_false, eq_self, nm_eq, reduceCtorEq, ↓reduceIte, Nat.reduceEqDiff, Nat.reduceLeDiff, Nat.reduceBEq, Nat.reduceAdd, Nat.reduceLT, Nat.reduceSub, Nat.reduceMul, Int.reduceEq, Int.reduceLT, Int.reduceLE, Int.reduceNeg, Int.reduceToNat, wrapS hlt2 (by omega : W.length ≤ 4611686018427387904)]
  refine vp_loop (fun m vs h' => ∃ k : Nat, j + 1 ≤ k ∧ k ≤ W.length ∧ m = W.length - k ∧ vs = [.ptr σ.next 0, .int .i64 W.length, .int .i64 i, .int .i64 j, .int .i64 k] ∧ σ.new [.int .i64 p, .fz w1 a1 W.length rP, .fz w3 a3 B.length rB] = h' ∧ ∀ k', j < k' → k' < k → F2 p W B W.length i j k') (W.length - (j + 1)) ?_ ?_
  · exact ⟨j + 1, by omega, by omega, by omega, rfl, rfl, fun k' h1 h2 => by omega⟩
  rintro m vs h' ⟨k, hjk, hk', rfl, rfl, rfl, hal3⟩
  simp only [pw0, pw1, pw2, pw3, pw4, pw5, pw6, pw7, pw8, pw9, if_true, if_false, eq_self, nm_eq, reduceCtorEq, ↓reduceIte, Nat.reduceEqDiff, Nat.reduceLeDiff, Nat.reduceBEq, Nat.reduceAdd, Nat.reduceLT, Nat.reduceSub, Nat.reduceMul, Int.reduceEq, Int.reduceLT, Int.reduceLE, Int.reduceNeg, Int.reduceToNat]
  refine iteI (fun hlt3 => ?_) fun hge => ?_
  rotate_left
  · simp only [pw0, pw1, pw2, pw3, pw4, pw5, pw6, pw7, pw8, pw9, if_true, if_false, eq_self, nm_eq, reduceCtorEq, ↓reduceIte, Nat.reduceEqDiff, Nat.reduceLeDiff, Nat.reduceBEq, Nat.reduceAdd, Nat.reduceLT, Nat.reduceSub, Nat.reduceMul, Int.reduceEq, Int.reduceLT, Int.reduceLE, Int.reduceNeg, Int.reduceToNat, wrapS hlt2 (by omega : W.length ≤ 4611686018427387904)]
    refine ⟨_, by omega, j + 1, by omega, by omega, rfl, rfl, fun j' k' h1 h2 h3 h4 => ?_⟩
    by_cases e : j' = j
    · subst e; exact hal3 k' h3 (by omega)
    · exact hal2 j' k' h1 (by omega) h3 h4
  have ei := unit_el hp hlt
  have ej := unit_el hp hlt2
  have ek := unit_el hp hlt3
  have bb : ∀ a b, El p W.length (br p W B W.length a b) := fun a b => br_el o q
  refine l31Unit_ok hR0 rfl (by omega) hlt fun v1 => ?_
  simp only [pw0, pw1, pw2, pw3, pw4, pw5, pw6, pw7, pw8, pw9, if_true, if_false, eq_self, nm_eq, reduceCtorEq, ↓reduceIte, Nat.reduceEqDiff, Nat.reduceLeDiff, Nat.reduceBEq, Nat.reduceAdd, Nat.reduceLT, Nat.reduceSub, Nat.reduceMul, Int.reduceEq, Int.reduceLT, Int.reduceLE, Int.reduceNeg, Int.reduceToNat]
  refine l31Unit_ok hR0 rfl (by omega) hlt2 fun v2 => ?_
  simp only [pw0, pw1, pw2, pw3, pw4, pw5, pw6, pw7, pw8, pw9, if_true, if_false, eq_self, nm_eq, reduceCtorEq, ↓reduceIte, Nat.reduceEqDiff, Nat.reduceLeDiff, Nat.reduceBEq, Nat.reduceAdd, Nat.reduceLT, Nat.reduceSub, Nat.reduceMul, Int.reduceEq, Int.reduceLT, Int.reduceLE, Int.reduceNeg, Int.reduceToNat]
  refine l31Unit_ok hR0 rfl (by omega) hlt3 fun v3 => ?_
  simp only [pw0, pw1, pw2, pw3, pw4, pw5, pw6, pw7, pw8, pw9, if_true, if_false, eq_self, nm_eq, reduceCtorEq, ↓reduceIte, Nat.reduceEqDiff, Nat.reduceLeDiff, Nat.reduceBEq, Nat.reduceAdd, Nat.reduceLT, Nat.reduceSub, Nat.reduceMul, Int.reduceEq, Int.reduceLT, Int.reduceLE, Int.reduceNeg, Int.reduceToNat]
  refine l31Bracket_ok hR0 o q ei ej ei.1.symm ej.1.symm fun v4 => ?_
  simp only [pw0, pw1, pw2, pw3, pw4, pw5, pw6, pw7, pw8, pw9, if_true, if_false, eq_self, nm_eq, reduceCtorEq, ↓reduceIte, Nat.reduceEqDiff, Nat.reduceLeDiff, Nat.reduceBEq, Nat.reduceAdd, Nat.reduceLT, Nat.reduceSub, Nat.reduceMul, Int.reduceEq, Int.reduceLT, Int.reduceLE, Int.reduceNeg, Int.reduceToNat]
  refine l31Bracket_ok hR0 o q (bb _ _) ek (bb _ _).1.symm ek.1.symm fun v5 => ?_
  simp only [pw0, pw1, pw2, pw3, pw4, pw5, pw6, pw7, pw8, pw9, if_true, if_false, eq_self, nm_eq, reduceCtorEq, ↓reduceIte, Nat.reduceEqDiff, Nat.reduceLeDiff, Nat.reduceBEq, Nat.reduceAdd, Nat.reduceLT, Nat.reduceSub, Nat.reduceMul, Int.reduceEq, Int.reduceLT, Int.reduceLE, Int.reduceNeg, Int.reduceToNat]
  refine l31Bracket_ok hR0 o q ej ek ej.1.symm ek.1.symm fun v6 => ?_
  simp only [pw0, pw1, pw2, pw3, pw4, pw5, pw6, pw7, pw8, pw9, if_true, if_false, eq_self, nm_eq, reduceCtorEq, ↓reduceIte, Nat.reduceEqDiff, Nat.reduceLeDiff, Nat.reduceBEq, Nat.reduceAdd, Nat.reduceLT, Nat.reduceSub, Nat.reduceMul, Int.reduceEq, Int.reduceLT, Int.reduceLE, Int.reduceNeg, Int.reduceToNat]
  refine l31Bracket_ok hR0 o q (bb _ _) ei (bb _ _).1.symm ei.1.symm fun v7 => ?_
  simp only [pw0, pw1, pw2, pw3, pw4, pw5, pw6, pw7, pw8, pw9, if_true, if_false, eq_self, nm_eq, reduceCtorEq, ↓reduceIte, Nat.reduceEqDiff, Nat.reduceLeDiff, Nat.reduceBEq, Nat.reduceAdd, Nat.reduceLT, Nat.reduceSub, Nat.reduceMul, Int.reduceEq, Int.reduceLT, Int.reduceLE, Int.reduceNeg, Int.reduceToNat]
  refine l31Mix_el hR0 o (bb _ _) (bb _ _) (bb _ _).1.symm (bb _ _).1.symm (by decide) (by decide) fun v8 => ?_
  have e8 := lmix_el o (k := 1) (m := 1) (bb (br p W B W.length (unitL W.length i) (unitL W.length j)) (unitL W.length k)) (bb (br p W B W.length (unitL W.length j) (unitL W.length k)) (unitL W.length i))
  simp only [pw0, pw1, pw2, pw3, pw4, pw5, pw6, pw7, pw8, pw9, if_true, if_false, eq_self, nm_eq, reduceCtorEq, ↓reduceIte, Nat.reduceEqDiff, Nat.reduceLeDiff, Nat.reduceBEq, Nat.reduceAdd, Nat.reduceLT, Nat.reduceSub, Nat.reduceMul, Int.reduceEq, Int.reduceLT, Int.reduceLE, Int.reduceNeg, Int.reduceToNat]
  refine l31Bracket_ok hR0 o q ek ei ek.1.symm ei.1.symm fun v9 => ?_
  simp only [pw0, pw1, pw2, pw3, pw4, pw5, pw6, pw7, pw8, pw9, if_true, if_false, eq_self, nm_eq, reduceCtorEq, ↓reduceIte, Nat.reduceEqDiff, Nat.reduceLeDiff, Nat.reduceBEq, Nat.reduceAdd, Nat.reduceLT, Nat.reduceSub, Nat.reduceMul, Int.reduceEq, Int.reduceLT, Int.reduceLE, Int.reduceNeg, Int.reduceToNat]
  refine l31Bracket_ok hR0 o q (bb _ _) ej (bb _ _).1.symm ej.1.symm fun v10 => ?_
  simp only [pw0, pw1, pw2, pw3, pw4, pw5, pw6, pw7, pw8, pw9, if_true, if_false, eq_self, nm_eq, reduceCtorEq, ↓reduceIte, Nat.reduceEqDiff, Nat.reduceLeDiff, Nat.reduceBEq, Nat.reduceAdd, Nat.reduceLT, Nat.reduceSub, Nat.reduceMul, Int.reduceEq, Int.reduceLT, Int.reduceLE, Int.reduceNeg, Int.reduceToNat]
  refine l31Mix_el hR0 o e8 (bb _ _) e8.1.symm (bb _ _).1.symm (by decide) (by decide) fun v11 => ?_
  have e11 := lmix_el o (k := 1) (m := 1) e8 (bb (br p W B W.length (unitL W.length k) (unitL W.length i)) (unitL W.length j))
  simp only [pw0, pw1, pw2, pw3, pw4, pw5, pw6, pw7, pw8, pw9, if_true, if_false, eq_self, nm_eq, reduceCtorEq, ↓reduceIte, Nat.reduceEqDiff, Nat.reduceLeDiff, Nat.reduceBEq, Nat.reduceAdd, Nat.reduceLT, Nat.reduceSub, Nat.reduceMul, Int.reduceEq, Int.reduceLT, Int.reduceLE, Int.reduceNeg, Int.reduceToNat]
  refine l01Zero_ok e11.1.symm (by rw [e11.1]; omega) ?_
  have hF : isZ (norm p W (lmix 1 (ladd p W (br p W B W.length (br p W B W.length (unitL W.length i) (unitL W.length j)) (unitL W.length k)) (br p W B W.length (br p W B W.length (unitL W.length j) (unitL W.length k)) (unitL W.length i))) 1 (br p W B W.length (br p W B W.length (unitL W.length k) (unitL W.length i)) (unitL W.length j)))) ↔ F2 p W B W.length i j k := Iff.rfl
  by_cases hf : isZ (norm p W (lmix 1 (ladd p W (br p W B W.length (br p W B W.length (unitL W.length i) (unitL W.length j)) (unitL W.length k)) (br p W B W.length (br p W B W.length (unitL W.length j) (unitL W.length k)) (unitL W.length i))) 1 (br p W B W.length (br p W B W.length (unitL W.length k) (unitL W.length i)) (unitL W.length j))))
  · simp only [pw0, pw1, pw2, pw3, pw4, pw5, pw6, pw7, pw8, pw9, if_true, if_false, eq_self, nm_eq, reduceCtorEq, ↓reduceIte, Nat.reduceEqDiff, Nat.reduceLeDiff, Nat.reduceBEq, Nat.reduceAdd, Nat.reduceLT, Nat.reduceSub, Nat.reduceMul, Int.reduceEq, Int.reduceLT, Int.reduceLE, Int.reduceNeg, Int.reduceToNat, eq_true hf, wrapS hlt3 (by omega : W.length ≤ 4611686018427387904)]
    refine ⟨_, by omega, k + 1, by omega, by omega, rfl, rfl, fun k' h1 h2 => ?_⟩
    by_cases e : k' = k
    · subst e; exact hF.1 hf
    · exact hal3 k' h1 (by omega)
  · simp only [pw0, pw1, pw2, pw3, pw4, pw5, pw6, pw7, pw8, pw9, if_true, if_false, eq_self, nm_eq, reduceCtorEq, ↓reduceIte, Nat.reduceEqDiff, Nat.reduceLeDiff, Nat.reduceBEq, Nat.reduceAdd, Nat.reduceLT, Nat.reduceSub, Nat.reduceMul, Int.reduceEq, Int.reduceLT, Int.reduceLE, Int.reduceNeg, Int.reduceToNat, hf]
    exact fin _ _ _ _ ⟨fun x => by omega, fun x => absurd (hF.2 (x.2 i j k (by omega) (by omega) hlt3)) hf⟩
/-- A Lie ring. -/
def isLie (p : Int) (W : List (List Int)) (B : List (List (List Int))) : Prop := isShape p W B ∧ NoFault p W B W.length

theorem IsLieRing_ok (hR : IsR vP vB W B) (sz : SzR W B) (hk : ∀ t : Bool, (t = true ↔ isLie p W B) → K (.bool t) σ) : PCalls Try.prog 61 [.agg [.int .i64 p, vP, vB]] σ K := by
  have h1 := hR.P.one
  have h2 := hR.B.one
  refine PCalls.gh ?_
  have hkp := keep_new σ [.int .i64 p, vP, vB]
  refine pcalls_of_vp mix Try.func61 cf61 rfl ?_
  dsimp only [if61, qI, eI, nI, qD, eD]
  simp only [pw0, pw1, pw2, pw3, pw4, pw5, pw6, pw7, pw8, pw9, if_true, if_false, eq_self, nm_eq, reduceCtorEq, ↓reduceIte, Nat.reduceEqDiff, Nat.reduceLeDiff, Nat.reduceBEq, Nat.reduceAdd, Nat.reduceLT, Nat.reduceSub, Nat.reduceMul, Int.reduceEq, Int.reduceLT, Int.reduceLE, Int.reduceNeg, Int.reduceToNat, h1, h2]
  refine IsLieShape_ok hR sz fun t ht => ?_
  cases t with
  | false =>
    simp only [pw0, pw1, pw2, pw3, pw4, pw5, pw6, pw7, pw8, pw9, if_true, if_false, eq_self, nm_eq, reduceCtorEq, ↓reduceIte, Nat.reduceEqDiff, Nat.reduceLeDiff, Nat.reduceBEq, Nat.reduceAdd, Nat.reduceLT, Nat.reduceSub, Nat.reduceMul, Int.reduceEq, Int.reduceLT, Int.reduceLE, Int.reduceNeg, Int.reduceToNat]
    exact Gh.fin0 hkp trivial (hk _ ⟨fun x => (by cases x), fun x => ht.2 x.1⟩)
  | true =>
    have hsh := ht.1 rfl
    simp only [pw0, pw1, pw2, pw3, pw4, pw5, pw6, pw7, pw8, pw9, if_true, if_false, eq_self, nm_eq, reduceCtorEq, ↓reduceIte, Nat.reduceEqDiff, Nat.reduceLeDiff, Nat.reduceBEq, Nat.reduceAdd, Nat.reduceLT, Nat.reduceSub, Nat.reduceMul, Int.reduceEq, Int.reduceLT, Int.reduceLE, Int.reduceNeg, Int.reduceToNat]
    refine lieFault_ok ⟨by simp only [pw0, pw1, pw2, pw3, pw4, pw5, pw6, pw7, pw8, pw9, if_true, if_false, eq_self, nm_eq, reduceCtorEq, ↓reduceIte, Nat.reduceEqDiff, Nat.reduceLeDiff, Nat.reduceBEq, Nat.reduceAdd, Nat.reduceLT, Nat.reduceSub, Nat.reduceMul, Int.reduceEq, Int.reduceLT, Int.reduceLE, Int.reduceNeg, Int.reduceToNat], by simp only [pw0, pw1, pw2, pw3, pw4, pw5, pw6, pw7, pw8, pw9, if_true, if_false, eq_self, nm_eq, reduceCtorEq, ↓reduceIte, Nat.reduceEqDiff, Nat.reduceLeDiff, Nat.reduceBEq, Nat.reduceAdd, Nat.reduceLT, Nat.reduceSub, Nat.reduceMul, Int.reduceEq, Int.reduceLT, Int.reduceLE, Int.reduceNeg, Int.reduceToNat]⟩ hR hsh.w hsh.b fun kind i j k h => ?_
    simp only [pw0, pw1, pw2, pw3, pw4, pw5, pw6, pw7, pw8, pw9, if_true, if_false, eq_self, nm_eq, reduceCtorEq, ↓reduceIte, Nat.reduceEqDiff, Nat.reduceLeDiff, Nat.reduceBEq, Nat.reduceAdd, Nat.reduceLT, Nat.reduceSub, Nat.reduceMul, Int.reduceEq, Int.reduceLT, Int.reduceLE, Int.reduceNeg, Int.reduceToNat]
    exact Gh.fin0 hkp trivial (hk _ ⟨fun x => ⟨hsh, h.1 (by simpa using x)⟩, fun x => by simpa using h.2 x.2⟩)

theorem l31Ring_ok (hR : IsR vP vB W B) (sz : SzR W B) (hk : ∀ t : Bool, (t = true ↔ isLie p W B) → K (.bool t) σ) : PCalls Try.prog 54 [.agg [.int .i64 p, vP, vB]] σ K := by
  have h1 := hR.P.one
  have h2 := hR.B.one
  refine PCalls.gh ?_
  have hkp := keep_new σ [.int .i64 p, vP, vB]
  refine pcalls_of_vp mix Try.func54 cf54 rfl ?_
  dsimp only [if54, qI, eI, nI, qD, eD]
  simp only [pw0, pw1, pw2, pw3, pw4, pw5, pw6, pw7, pw8, pw9, if_true, if_false, eq_self, nm_eq, reduceCtorEq, ↓reduceIte, Nat.reduceEqDiff, Nat.reduceLeDiff, Nat.reduceBEq, Nat.reduceAdd, Nat.reduceLT, Nat.reduceSub, Nat.reduceMul, Int.reduceEq, Int.reduceLT, Int.reduceLE, Int.reduceNeg, Int.reduceToNat, h1, h2]
  refine l31Shape_ok hR sz fun t ht => ?_
  cases t with
  | false =>
    simp only [pw0, pw1, pw2, pw3, pw4, pw5, pw6, pw7, pw8, pw9, if_true, if_false, eq_self, nm_eq, reduceCtorEq, ↓reduceIte, Nat.reduceEqDiff, Nat.reduceLeDiff, Nat.reduceBEq, Nat.reduceAdd, Nat.reduceLT, Nat.reduceSub, Nat.reduceMul, Int.reduceEq, Int.reduceLT, Int.reduceLE, Int.reduceNeg, Int.reduceToNat]
    exact Gh.fin0 hkp trivial (hk _ ⟨fun x => (by cases x), fun x => ht.2 x.1⟩)
  | true =>
    have hsh := ht.1 rfl
    simp only [pw0, pw1, pw2, pw3, pw4, pw5, pw6, pw7, pw8, pw9, if_true, if_false, eq_self, nm_eq, reduceCtorEq, ↓reduceIte, Nat.reduceEqDiff, Nat.reduceLeDiff, Nat.reduceBEq, Nat.reduceAdd, Nat.reduceLT, Nat.reduceSub, Nat.reduceMul, Int.reduceEq, Int.reduceLT, Int.reduceLE, Int.reduceNeg, Int.reduceToNat]
    refine l31Fault_ok hR hsh.w hsh.b fun kind i j k h => ?_
    simp only [pw0, pw1, pw2, pw3, pw4, pw5, pw6, pw7, pw8, pw9, if_true, if_false, eq_self, nm_eq, reduceCtorEq, ↓reduceIte, Nat.reduceEqDiff, Nat.reduceLeDiff, Nat.reduceBEq, Nat.reduceAdd, Nat.reduceLT, Nat.reduceSub, Nat.reduceMul, Int.reduceEq, Int.reduceLT, Int.reduceLE, Int.reduceNeg, Int.reduceToNat]
    exact Gh.fin0 hkp trivial (hk _ ⟨fun x => ⟨hsh, h.1 (by simpa using x)⟩, fun x => by simpa using h.2 x.2⟩)
end Go.Proofs
