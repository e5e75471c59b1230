/- What a law does with its arguments: sizes, copies, comparisons. -/
import Derived.Test.YtngdcibjjomfjaaEP26
import Derived.Test.YtngdcibjjomfjaaEAbPy
set_option linter.unusedSimpArgs false
set_option linter.unusedVariables false
namespace Go.Proofs
open Go.Ab
variable {σ : PHeap} {K : PV → PHeap → Prop}
theorem inside_ok {n lo hi : Int} (hk : K (.bool (decide (lo ≤ n ∧ n ≤ hi))) σ) : PCalls Try.prog 204 [.int .i64 n, .int .i64 lo, .int .i64 hi] σ K := by
  refine pcalls_of_vp mix Try.func204 cf204 rfl ?_
  dsimp only [if204, qI, eI, nI, qD, eD]
  by_cases h1 : lo ≤ n
  · simp only [pwA, if_true, if_false, eq_self, nm_eq, reduceCtorEq, ↓reduceIte, Nat.reduceEqDiff, Nat.reduceLeDiff, Nat.reduceBEq, Nat.reduceAdd, Nat.reduceLT, Nat.reduceSub, Nat.reduceMul, Int.reduceEq, Int.reduceLT, Int.reduceLE, Int.reduceNeg, Int.reduceToNat, List.reduceReplicate, Int.ofNat_le, List.getElem?_drop, h1]; exact pke hk ⟨fun x => x.2, fun x => ⟨h1, x⟩⟩
  · simp only [pwA, if_true, if_false, eq_self, nm_eq, reduceCtorEq, ↓reduceIte, Nat.reduceEqDiff, Nat.reduceLeDiff, Nat.reduceBEq, Nat.reduceAdd, Nat.reduceLT, Nat.reduceSub, Nat.reduceMul, Int.reduceEq, Int.reduceLT, Int.reduceLE, Int.reduceNeg, Int.reduceToNat, List.reduceReplicate, Int.ofNat_le, List.getElem?_drop, h1]; exact pkf hk (by omega)
theorem l01In_ok {n lo hi : Int} (hk : K (.bool (decide (lo ≤ n ∧ n ≤ hi))) σ) : PCalls Try.prog 171 [.int .i64 n, .int .i64 lo, .int .i64 hi] σ K := by
  refine pcalls_of_vp mix Try.func171 cf171 rfl ?_
  dsimp only [if171, qI, eI, nI, qD, eD]
  by_cases h1 : lo ≤ n
  · simp only [pwA, if_true, if_false, eq_self, nm_eq, reduceCtorEq, ↓reduceIte, Nat.reduceEqDiff, Nat.reduceLeDiff, Nat.reduceBEq, Nat.reduceAdd, Nat.reduceLT, Nat.reduceSub, Nat.reduceMul, Int.reduceEq, Int.reduceLT, Int.reduceLE, Int.reduceNeg, Int.reduceToNat, List.reduceReplicate, Int.ofNat_le, List.getElem?_drop, h1]; exact pke hk ⟨fun x => x.2, fun x => ⟨h1, x⟩⟩
  · simp only [pwA, if_true, if_false, eq_self, nm_eq, reduceCtorEq, ↓reduceIte, Nat.reduceEqDiff, Nat.reduceLeDiff, Nat.reduceBEq, Nat.reduceAdd, Nat.reduceLT, Nat.reduceSub, Nat.reduceMul, Int.reduceEq, Int.reduceLT, Int.reduceLE, Int.reduceNeg, Int.reduceToNat, List.reduceReplicate, Int.ofNat_le, List.getElem?_drop, h1]; exact pkf hk (by omega)
/-- A vector over p of n entries. -/
def isVec (xs : List Int) (p n : Int) : Prop := (xs.length : Int) = n ∧ ∀ x ∈ xs, 0 ≤ x ∧ x ≤ p - 1
instance (xs : List Int) (p n : Int) : Decidable (isVec xs p n) := by unfold isVec; infer_instance
/-- All entries are 0. -/
def isZ (xs : List Int) : Prop := ∀ x ∈ xs, x = 0
instance (xs : List Int) : Decidable (isZ xs) := by unfold isZ; infer_instance
theorem isZero_ok {w : Bool} {a : AV} {xs : List Int} {l : Nat} (hl : l = xs.length) (hb : xs.length ≤ 4611686018427387904) (hk : K (.bool (decide (isZ xs))) σ) : PCalls Try.prog 108 [.fz w a l (pis xs)] σ K := by
  subst hl
  refine pcalls_of_vp mix Try.func108 cf108 rfl ?_
  dsimp only [if108, qI, eI, nI, qD, eD]
  simp only [pwA, if_true, if_false, eq_self, nm_eq, reduceCtorEq, ↓reduceIte, Nat.reduceEqDiff, Nat.reduceLeDiff, Nat.reduceBEq, Nat.reduceAdd, Nat.reduceLT, Nat.reduceSub, Nat.reduceMul, Int.reduceEq, Int.reduceLT, Int.reduceLE, Int.reduceNeg, Int.reduceToNat, List.reduceReplicate, Int.ofNat_le, List.getElem?_drop]
  refine vp_loop (fun m vs h' => ∃ i : Nat, i ≤ xs.length ∧ m = xs.length - i ∧ vs = [.fz w a xs.length (pis xs), .int .i64 xs.length, .int .i64 i] ∧ h' = σ ∧ ∀ x ∈ xs.take i, x = 0) xs.length ?_ ?_
  · exact ⟨0, by omega, by omega, rfl, rfl, by simp⟩
  · rintro m vs h' ⟨i, hi, rfl, rfl, rfl, hall⟩
    simp only [pwA, if_true, if_false, eq_self, nm_eq, reduceCtorEq, ↓reduceIte, Nat.reduceEqDiff, Nat.reduceLeDiff, Nat.reduceBEq, Nat.reduceAdd, Nat.reduceLT, Nat.reduceSub, Nat.reduceMul, Int.reduceEq, Int.reduceLT, Int.reduceLE, Int.reduceNeg, Int.reduceToNat, List.reduceReplicate, Int.ofNat_le, List.getElem?_drop]
    split
    · rename_i hlt
      simp only [pwA, if_true, if_false, eq_self, nm_eq, reduceCtorEq, ↓reduceIte, Nat.reduceEqDiff, Nat.reduceLeDiff, Nat.reduceBEq, Nat.reduceAdd, Nat.reduceLT, Nat.reduceSub, Nat.reduceMul, Int.reduceEq, Int.reduceLT, Int.reduceLE, Int.reduceNeg, Int.reduceToNat, List.reduceReplicate, Int.ofNat_le, List.getElem?_drop, hlt, List.getElem?_drop, pis_get, gi hlt]
      split
      · rename_i h0
        simp only [pwA, if_true, if_false, eq_self, nm_eq, reduceCtorEq, ↓reduceIte, Nat.reduceEqDiff, Nat.reduceLeDiff, Nat.reduceBEq, Nat.reduceAdd, Nat.reduceLT, Nat.reduceSub, Nat.reduceMul, Int.reduceEq, Int.reduceLT, Int.reduceLE, Int.reduceNeg, Int.reduceToNat, List.reduceReplicate, Int.ofNat_le, List.getElem?_drop, wrapS hlt hb]
        exact ⟨_, by omega, i + 1, by omega, rfl, rfl, forall_snoc hlt hall h0⟩
      · rename_i hn
        exact pkf hk fun hv => hn (hv _ (List.getElem_mem hlt))
    · refine pkt hk (forall_all (by omega) hall)
theorem l01Zero_ok {w : Bool} {a : AV} {xs : List Int} {l : Nat} (hl : l = xs.length) (hb : xs.length ≤ 4611686018427387904) (hk : K (.bool (decide (isZ xs))) σ) : PCalls Try.prog 65 [.fz w a l (pis xs)] σ K := by
  subst hl
  refine pcalls_of_vp mix Try.func65 cf65 rfl ?_
  dsimp only [if65, qI, eI, nI, qD, eD]
  simp only [pwA, if_true, if_false, eq_self, nm_eq, reduceCtorEq, ↓reduceIte, Nat.reduceEqDiff, Nat.reduceLeDiff, Nat.reduceBEq, Nat.reduceAdd, Nat.reduceLT, Nat.reduceSub, Nat.reduceMul, Int.reduceEq, Int.reduceLT, Int.reduceLE, Int.reduceNeg, Int.reduceToNat, List.reduceReplicate, Int.ofNat_le, List.getElem?_drop]
  refine vp_loop (fun m vs h' => ∃ i : Nat, i ≤ xs.length ∧ m = xs.length - i ∧ vs = [.fz w a xs.length (pis xs), .int .i64 i] ∧ h' = σ ∧ ∀ x ∈ xs.take i, x = 0) xs.length ?_ ?_
  · exact ⟨0, by omega, by omega, rfl, rfl, by simp⟩
  · rintro m vs h' ⟨i, hi, rfl, rfl, rfl, hall⟩
    simp only [pwA, if_true, if_false, eq_self, nm_eq, reduceCtorEq, ↓reduceIte, Nat.reduceEqDiff, Nat.reduceLeDiff, Nat.reduceBEq, Nat.reduceAdd, Nat.reduceLT, Nat.reduceSub, Nat.reduceMul, Int.reduceEq, Int.reduceLT, Int.reduceLE, Int.reduceNeg, Int.reduceToNat, List.reduceReplicate, Int.ofNat_le, List.getElem?_drop]
    split
    · rename_i hlt
      simp only [pwA, if_true, if_false, eq_self, nm_eq, reduceCtorEq, ↓reduceIte, Nat.reduceEqDiff, Nat.reduceLeDiff, Nat.reduceBEq, Nat.reduceAdd, Nat.reduceLT, Nat.reduceSub, Nat.reduceMul, Int.reduceEq, Int.reduceLT, Int.reduceLE, Int.reduceNeg, Int.reduceToNat, List.reduceReplicate, Int.ofNat_le, List.getElem?_drop, hlt, List.getElem?_drop, pis_get, gi hlt]
      split
      · rename_i h0
        simp only [pwA, if_true, if_false, eq_self, nm_eq, reduceCtorEq, ↓reduceIte, Nat.reduceEqDiff, Nat.reduceLeDiff, Nat.reduceBEq, Nat.reduceAdd, Nat.reduceLT, Nat.reduceSub, Nat.reduceMul, Int.reduceEq, Int.reduceLT, Int.reduceLE, Int.reduceNeg, Int.reduceToNat, List.reduceReplicate, Int.ofNat_le, List.getElem?_drop, wrapS hlt hb]
        exact ⟨_, by omega, i + 1, by omega, rfl, rfl, forall_snoc hlt hall h0⟩
      · rename_i hn
        exact pkf hk fun hv => hn (hv _ (List.getElem_mem hlt))
    · refine pkt hk (forall_all (by omega) hall)
theorem eqList {xs ys : List Int} (hl : xs.length = ys.length) {i : Nat} (hi : i < xs.length) (h : xs.take i = ys.take i) (he : xs[i] = ys[i]'(by omega)) : xs.take (i + 1) = ys.take (i + 1) := by
  rw [List.take_succ_eq_append_getElem hi, List.take_succ_eq_append_getElem (by omega : i < ys.length), h, he]
theorem l01Same_ok {w w' : Bool} {a a' : AV} {xs ys : List Int} {l : Nat} {l' : Nat} (hl : l = xs.length) (hl' : l' = ys.length) (hb : xs.length ≤ 4611686018427387904) (hk : K (.bool (decide (xs = ys))) σ) : PCalls Try.prog 153 [.fz w a l (pis xs), .fz w' a' l' (pis ys)] σ K := by
  subst hl
  subst hl'
  refine pcalls_of_vp mix Try.func153 cf153 rfl ?_
  dsimp only [if153, qI, eI, nI, qD, eD]
  simp only [pwA, if_true, if_false, eq_self, nm_eq, reduceCtorEq, ↓reduceIte, Nat.reduceEqDiff, Nat.reduceLeDiff, Nat.reduceBEq, Nat.reduceAdd, Nat.reduceLT, Nat.reduceSub, Nat.reduceMul, Int.reduceEq, Int.reduceLT, Int.reduceLE, Int.reduceNeg, Int.reduceToNat, List.reduceReplicate, Int.ofNat_le, List.getElem?_drop]
  split
  · rename_i hl
    have hl : xs.length = ys.length := by omega
    refine vp_loop (fun m vs h' => ∃ i : Nat, i ≤ xs.length ∧ m = xs.length - i ∧ vs = [.fz w a xs.length (pis xs), .fz w' a' ys.length (pis ys), .int .i64 i] ∧ h' = σ ∧ xs.take i = ys.take i) xs.length ?_ ?_
    · exact ⟨0, by omega, by omega, rfl, rfl, by simp⟩
    · rintro m vs h' ⟨i, hi, rfl, rfl, rfl, hall⟩
      simp only [pwA, if_true, if_false, eq_self, nm_eq, reduceCtorEq, ↓reduceIte, Nat.reduceEqDiff, Nat.reduceLeDiff, Nat.reduceBEq, Nat.reduceAdd, Nat.reduceLT, Nat.reduceSub, Nat.reduceMul, Int.reduceEq, Int.reduceLT, Int.reduceLE, Int.reduceNeg, Int.reduceToNat, List.reduceReplicate, Int.ofNat_le, List.getElem?_drop]
      split
      · rename_i hlt
        have hlt2 : i < ys.length := by omega
        simp only [pwA, if_true, if_false, eq_self, nm_eq, reduceCtorEq, ↓reduceIte, Nat.reduceEqDiff, Nat.reduceLeDiff, Nat.reduceBEq, Nat.reduceAdd, Nat.reduceLT, Nat.reduceSub, Nat.reduceMul, Int.reduceEq, Int.reduceLT, Int.reduceLE, Int.reduceNeg, Int.reduceToNat, List.reduceReplicate, Int.ofNat_le, List.getElem?_drop, hlt, hlt2, List.getElem?_drop, pis_get, gi hlt, gi hlt2]
        split
        · rename_i h0
          simp only [pwA, if_true, if_false, eq_self, nm_eq, reduceCtorEq, ↓reduceIte, Nat.reduceEqDiff, Nat.reduceLeDiff, Nat.reduceBEq, Nat.reduceAdd, Nat.reduceLT, Nat.reduceSub, Nat.reduceMul, Int.reduceEq, Int.reduceLT, Int.reduceLE, Int.reduceNeg, Int.reduceToNat, List.reduceReplicate, Int.ofNat_le, List.getElem?_drop, wrapS hlt hb]
          exact ⟨_, by omega, i + 1, by omega, rfl, rfl, eqList hl hlt hall h0⟩
        · rename_i hn
          refine pkf hk fun hv => hn (by subst hv; rfl)
      · refine pkt hk ?_
        rwa [List.take_of_length_le (by omega), List.take_of_length_le (by omega)] at hall
  · rename_i hl
    exact pkf hk fun hv => hl (by rw [hv])
theorem Equal_ok {w w' : Bool} {a a' : AV} {xs ys : List Int} {l : Nat} {l' : Nat} (hl : l = xs.length) (hl' : l' = ys.length) (hb : xs.length ≤ 4611686018427387904) (hk : K (.bool (decide (xs = ys))) σ) : PCalls Try.prog 159 [.fz w a l (pis xs), .fz w' a' l' (pis ys)] σ K := by
  subst hl
  subst hl'
  refine pcalls_of_vp mix Try.func159 cf159 rfl ?_
  dsimp only [if159, qI, eI, nI, qD, eD]
  simp only [pwA, if_true, if_false, eq_self, nm_eq, reduceCtorEq, ↓reduceIte, Nat.reduceEqDiff, Nat.reduceLeDiff, Nat.reduceBEq, Nat.reduceAdd, Nat.reduceLT, Nat.reduceSub, Nat.reduceMul, Int.reduceEq, Int.reduceLT, Int.reduceLE, Int.reduceNeg, Int.reduceToNat, List.reduceReplicate, Int.ofNat_le, List.getElem?_drop]
  split
  · rename_i hl
    have hl : xs.length = ys.length := by omega
    refine vp_loop (fun m vs h' => ∃ i : Nat, i ≤ xs.length ∧ m = xs.length - i ∧ vs = [.fz w a xs.length (pis xs), .fz w' a' ys.length (pis ys), .int .i64 xs.length, .int .i64 i] ∧ h' = σ ∧ xs.take i = ys.take i) xs.length ?_ ?_
    · exact ⟨0, by omega, by omega, rfl, rfl, by simp⟩
    · rintro m vs h' ⟨i, hi, rfl, rfl, rfl, hall⟩
      simp only [pwA, if_true, if_false, eq_self, nm_eq, reduceCtorEq, ↓reduceIte, Nat.reduceEqDiff, Nat.reduceLeDiff, Nat.reduceBEq, Nat.reduceAdd, Nat.reduceLT, Nat.reduceSub, Nat.reduceMul, Int.reduceEq, Int.reduceLT, Int.reduceLE, Int.reduceNeg, Int.reduceToNat, List.reduceReplicate, Int.ofNat_le, List.getElem?_drop]
      split
      · rename_i hlt
        have hlt2 : i < ys.length := by omega
        simp only [pwA, if_true, if_false, eq_self, nm_eq, reduceCtorEq, ↓reduceIte, Nat.reduceEqDiff, Nat.reduceLeDiff, Nat.reduceBEq, Nat.reduceAdd, Nat.reduceLT, Nat.reduceSub, Nat.reduceMul, Int.reduceEq, Int.reduceLT, Int.reduceLE, Int.reduceNeg, Int.reduceToNat, List.reduceReplicate, Int.ofNat_le, List.getElem?_drop, hlt, hlt2, List.getElem?_drop, pis_get, gi hlt, gi hlt2]
        split
        · rename_i h0
          simp only [pwA, if_true, if_false, eq_self, nm_eq, reduceCtorEq, ↓reduceIte, Nat.reduceEqDiff, Nat.reduceLeDiff, Nat.reduceBEq, Nat.reduceAdd, Nat.reduceLT, Nat.reduceSub, Nat.reduceMul, Int.reduceEq, Int.reduceLT, Int.reduceLE, Int.reduceNeg, Int.reduceToNat, List.reduceReplicate, Int.ofNat_le, List.getElem?_drop, wrapS hlt hb]
          exact ⟨_, by omega, i + 1, by omega, rfl, rfl, eqList hl hlt hall h0⟩
        · rename_i hn
          refine pkf hk fun hv => hn (by subst hv; rfl)
      · refine pkt hk ?_
        rwa [List.take_of_length_le (by omega), List.take_of_length_le (by omega)] at hall
  · rename_i hl
    exact pkf hk fun hv => hl (by rw [hv])
def isP (n : Int) : Prop := n = 2 ∨ n = 3 ∨ n = 5 ∨ n = 7
instance (n : Int) : Decidable (isP n) := by unfold isP; infer_instance
theorem isP.bd {n : Int} (hp : isP n) : 2 ≤ n ∧ n ≤ 7 := by unfold isP at hp; omega
theorem l01Prime_ok {n : Int} (hk : K (.bool (decide (isP n))) σ) : PCalls Try.prog 124 [.int .i64 n] σ K := by
  refine pcalls_of_vp mix Try.func124 cf124 rfl ?_
  dsimp only [if124, qI, eI, nI, qD, eD]
  by_cases h2 : n = 2
  · simp only [pwA, if_true, if_false, eq_self, nm_eq, reduceCtorEq, ↓reduceIte, Nat.reduceEqDiff, Nat.reduceLeDiff, Nat.reduceBEq, Nat.reduceAdd, Nat.reduceLT, Nat.reduceSub, Nat.reduceMul, Int.reduceEq, Int.reduceLT, Int.reduceLE, Int.reduceNeg, Int.reduceToNat, List.reduceReplicate, Int.ofNat_le, List.getElem?_drop, h2]; exact pkt hk (by unfold isP; omega)
  by_cases h3 : n = 3
  · simp only [pwA, if_true, if_false, eq_self, nm_eq, reduceCtorEq, ↓reduceIte, Nat.reduceEqDiff, Nat.reduceLeDiff, Nat.reduceBEq, Nat.reduceAdd, Nat.reduceLT, Nat.reduceSub, Nat.reduceMul, Int.reduceEq, Int.reduceLT, Int.reduceLE, Int.reduceNeg, Int.reduceToNat, List.reduceReplicate, Int.ofNat_le, List.getElem?_drop, h3]; exact pkt hk (by unfold isP; omega)
  by_cases h5 : n = 5
  · simp only [pwA, if_true, if_false, eq_self, nm_eq, reduceCtorEq, ↓reduceIte, Nat.reduceEqDiff, Nat.reduceLeDiff, Nat.reduceBEq, Nat.reduceAdd, Nat.reduceLT, Nat.reduceSub, Nat.reduceMul, Int.reduceEq, Int.reduceLT, Int.reduceLE, Int.reduceNeg, Int.reduceToNat, List.reduceReplicate, Int.ofNat_le, List.getElem?_drop, h5]; exact pkt hk (by unfold isP; omega)
  by_cases h7 : n = 7
  · simp only [pwA, if_true, if_false, eq_self, nm_eq, reduceCtorEq, ↓reduceIte, Nat.reduceEqDiff, Nat.reduceLeDiff, Nat.reduceBEq, Nat.reduceAdd, Nat.reduceLT, Nat.reduceSub, Nat.reduceMul, Int.reduceEq, Int.reduceLT, Int.reduceLE, Int.reduceNeg, Int.reduceToNat, List.reduceReplicate, Int.ofNat_le, List.getElem?_drop, h7]; exact pkt hk (by unfold isP; omega)
  simp only [pwA, if_true, if_false, eq_self, nm_eq, reduceCtorEq, ↓reduceIte, Nat.reduceEqDiff, Nat.reduceLeDiff, Nat.reduceBEq, Nat.reduceAdd, Nat.reduceLT, Nat.reduceSub, Nat.reduceMul, Int.reduceEq, Int.reduceLT, Int.reduceLE, Int.reduceNeg, Int.reduceToNat, List.reduceReplicate, Int.ofNat_le, List.getElem?_drop, h2, h3, h5, h7]
  exact pkf hk (by unfold isP; omega)
theorem IsGroupPrime_ok {n : Int} (hk : K (.bool (decide (isP n))) σ) : PCalls Try.prog 132 [.int .i64 n] σ K := by
  refine pcalls_of_vp mix Try.func132 cf132 rfl ?_
  dsimp only [if132, qI, eI, nI, qD, eD]
  by_cases h2 : n = 2
  · simp only [pwA, if_true, if_false, eq_self, nm_eq, reduceCtorEq, ↓reduceIte, Nat.reduceEqDiff, Nat.reduceLeDiff, Nat.reduceBEq, Nat.reduceAdd, Nat.reduceLT, Nat.reduceSub, Nat.reduceMul, Int.reduceEq, Int.reduceLT, Int.reduceLE, Int.reduceNeg, Int.reduceToNat, List.reduceReplicate, Int.ofNat_le, List.getElem?_drop, h2]; exact pkt hk (by unfold isP; omega)
  by_cases h3 : n = 3
  · simp only [pwA, if_true, if_false, eq_self, nm_eq, reduceCtorEq, ↓reduceIte, Nat.reduceEqDiff, Nat.reduceLeDiff, Nat.reduceBEq, Nat.reduceAdd, Nat.reduceLT, Nat.reduceSub, Nat.reduceMul, Int.reduceEq, Int.reduceLT, Int.reduceLE, Int.reduceNeg, Int.reduceToNat, List.reduceReplicate, Int.ofNat_le, List.getElem?_drop, h3]; exact pkt hk (by unfold isP; omega)
  by_cases h5 : n = 5
  · simp only [pwA, if_true, if_false, eq_self, nm_eq, reduceCtorEq, ↓reduceIte, Nat.reduceEqDiff, Nat.reduceLeDiff, Nat.reduceBEq, Nat.reduceAdd, Nat.reduceLT, Nat.reduceSub, Nat.reduceMul, Int.reduceEq, Int.reduceLT, Int.reduceLE, Int.reduceNeg, Int.reduceToNat, List.reduceReplicate, Int.ofNat_le, List.getElem?_drop, h5]; exact pkt hk (by unfold isP; omega)
  by_cases h7 : n = 7
  · simp only [pwA, if_true, if_false, eq_self, nm_eq, reduceCtorEq, ↓reduceIte, Nat.reduceEqDiff, Nat.reduceLeDiff, Nat.reduceBEq, Nat.reduceAdd, Nat.reduceLT, Nat.reduceSub, Nat.reduceMul, Int.reduceEq, Int.reduceLT, Int.reduceLE, Int.reduceNeg, Int.reduceToNat, List.reduceReplicate, Int.ofNat_le, List.getElem?_drop, h7]; exact pkt hk (by unfold isP; omega)
  simp only [pwA, if_true, if_false, eq_self, nm_eq, reduceCtorEq, ↓reduceIte, Nat.reduceEqDiff, Nat.reduceLeDiff, Nat.reduceBEq, Nat.reduceAdd, Nat.reduceLT, Nat.reduceSub, Nat.reduceMul, Int.reduceEq, Int.reduceLT, Int.reduceLE, Int.reduceNeg, Int.reduceToNat, List.reduceReplicate, Int.ofNat_le, List.getElem?_drop, h2, h3, h5, h7]
  exact pkf hk (by unfold isP; omega)
theorem emod_tmod (x p : Int) (hp : 0 < p) : (x.tmod p + p).tmod p = x % p := by
  have h1 := Int.tmod_lt_of_pos x hp
  have h2 := Int.lt_tmod_of_pos x hp
  rw [Int.tmod_eq_emod_of_nonneg (by omega), Int.add_emod_right]
  rcases Int.le_total 0 x with h0 | h0
  · rw [Int.tmod_eq_emod_of_nonneg h0, Int.emod_emod_of_dvd _ (Int.dvd_refl p)]
  · obtain ⟨y, rfl⟩ : ∃ y, x = -y := ⟨-x, by omega⟩
    rw [Int.neg_tmod, Int.tmod_eq_emod_of_nonneg (by omega)]
    have e := Int.emod_add_mul_ediv y p
    have : -y = -(y % p) + p * (-(y / p)) := by rw [Int.mul_neg]; omega
    rw [this, Int.add_mul_emod_self_left]
theorem residue_ok {x p : Int} (hp : 0 < p) (hp2 : p < 4611686018427387904) (hk : K (.int .i64 (x % p)) σ) : PCalls Try.prog 180 [.int .i64 x, .int .i64 p] σ K := by
  refine pcalls_of_vp mix Try.func180 cf180 rfl ?_
  dsimp only [if180, qI, eI, nI, qD, eD]
  have hp0 : p ≠ 0 := by omega
  have h1 := Int.tmod_lt_of_pos x hp
  have h2 := Int.lt_tmod_of_pos x hp
  have hw : IntKind.i64.wrap (x.tmod p + p) = x.tmod p + p := wrap64 (by omega) (by omega)
  have he := emod_tmod x p hp
  simp only [pwA, if_true, if_false, eq_self, nm_eq, reduceCtorEq, ↓reduceIte, Nat.reduceEqDiff, Nat.reduceLeDiff, Nat.reduceBEq, Nat.reduceAdd, Nat.reduceLT, Nat.reduceSub, Nat.reduceMul, Int.reduceEq, Int.reduceLT, Int.reduceLE, Int.reduceNeg, Int.reduceToNat, List.reduceReplicate, Int.ofNat_le, List.getElem?_drop, hp0, hw, he]
  exact hk
theorem l01Mod_ok {x p : Int} (hp : 0 < p) (hp2 : p < 4611686018427387904) (hk : K (.int .i64 (x % p)) σ) : PCalls Try.prog 174 [.int .i64 x, .int .i64 p] σ K := by
  refine pcalls_of_vp mix Try.func174 cf174 rfl ?_
  dsimp only [if174, qI, eI, nI, qD, eD]
  have hp0 : p ≠ 0 := by omega
  have h1 := Int.tmod_lt_of_pos x hp
  have h2 := Int.lt_tmod_of_pos x hp
  have he := emod_tmod x p hp
  simp only [pwA, if_true, if_false, eq_self, nm_eq, reduceCtorEq, ↓reduceIte, Nat.reduceEqDiff, Nat.reduceLeDiff, Nat.reduceBEq, Nat.reduceAdd, Nat.reduceLT, Nat.reduceSub, Nat.reduceMul, Int.reduceEq, Int.reduceLT, Int.reduceLE, Int.reduceNeg, Int.reduceToNat, List.reduceReplicate, Int.ofNat_le, List.getElem?_drop, hp0]
  split
  · rw [Int.tmod_eq_emod_of_nonneg (by omega), Int.emod_eq_of_lt (by omega) (by omega)] at he
    simp only [pwA, if_true, if_false, eq_self, nm_eq, reduceCtorEq, ↓reduceIte, Nat.reduceEqDiff, Nat.reduceLeDiff, Nat.reduceBEq, Nat.reduceAdd, Nat.reduceLT, Nat.reduceSub, Nat.reduceMul, Int.reduceEq, Int.reduceLT, Int.reduceLE, Int.reduceNeg, Int.reduceToNat, List.reduceReplicate, Int.ofNat_le, List.getElem?_drop, he, wrap64 (n := x % p) (by omega) (by omega)]
    exact hk
  · rw [Int.tmod_eq_emod_of_nonneg (by omega), Int.add_emod_right, Int.emod_eq_of_lt (by omega) (by omega)] at he
    rw [he]; exact hk
/-- A copy in new memory. -/
theorem l01Own_ok {w : Bool} {a : AV} {xs : List Int} {l : Nat} (hl : l = xs.length) (hb : xs.length ≤ 4294967296) (hk : ∀ cap, full 1 cap xs.length → K (.sl σ.next 0 xs.length cap) (σ.new (pis xs))) : PCalls Try.prog 127 [.fz w a l (pis xs)] σ K := by
  subst hl
  refine PCalls.gh ?_
  refine pcalls_of_vp mix Try.func127 cf127 rfl ?_
  dsimp only [if127, qI, eI, nI, qD, eD]
  simp only [pwA, if_true, if_false, eq_self, nm_eq, reduceCtorEq, ↓reduceIte, Nat.reduceEqDiff, Nat.reduceLeDiff, Nat.reduceBEq, Nat.reduceAdd, Nat.reduceLT, Nat.reduceSub, Nat.reduceMul, Int.reduceEq, Int.reduceLT, Int.reduceLE, Int.reduceNeg, Int.reduceToNat, List.reduceReplicate, Int.ofNat_le, List.getElem?_drop]
  refine PSl.cat (bytes := 8) (σb := σ) (n := 0) (cs := []) (keep_new σ _) (PSl.new _ 1 rfl (Nat.le_refl _)) (pis_length xs) (by omega) (by omega) fun v' h' hk' ha => ?_
  simp only [pwA, if_true, if_false, eq_self, nm_eq, reduceCtorEq, ↓reduceIte, Nat.reduceEqDiff, Nat.reduceLeDiff, Nat.reduceBEq, Nat.reduceAdd, Nat.reduceLT, Nat.reduceSub, Nat.reduceMul, Int.reduceEq, Int.reduceLT, Int.reduceLE, Int.reduceNeg, Int.reduceToNat, List.reduceReplicate, Int.ofNat_le, List.getElem?_drop] at ha ⊢
  exact ha.out hk' (pis_bel _ _) hk
theorem Clone_ok {w : Bool} {a : AV} {xs : List Int} {l : Nat} (hl : l = xs.length) (hb : xs.length ≤ 4294967296) (hk : ResI σ K xs) : PCalls Try.prog 137 [.fz w a l (pis xs)] σ K := by
  subst hl
  refine PCalls.nil0 fun hnil => PCalls.gh ?_
  refine pcalls_of_vp mix Try.func137 cf137 rfl ?_
  dsimp only [if137, qI, eI, nI, qD, eD]
  simp only [pwA, if_true, if_false, eq_self, nm_eq, reduceCtorEq, ↓reduceIte, Nat.reduceEqDiff, Nat.reduceLeDiff, Nat.reduceBEq, Nat.reduceAdd, Nat.reduceLT, Nat.reduceSub, Nat.reduceMul, Int.reduceEq, Int.reduceLT, Int.reduceLE, Int.reduceNeg, Int.reduceToNat, List.reduceReplicate, Int.ofNat_le, List.getElem?_drop]
  cases hn : isNils a
  · simp only [pwA, if_true, if_false, eq_self, nm_eq, reduceCtorEq, ↓reduceIte, Nat.reduceEqDiff, Nat.reduceLeDiff, Nat.reduceBEq, Nat.reduceAdd, Nat.reduceLT, Nat.reduceSub, Nat.reduceMul, Int.reduceEq, Int.reduceLT, Int.reduceLE, Int.reduceNeg, Int.reduceToNat, List.reduceReplicate, Int.ofNat_le, List.getElem?_drop]
    refine PSl.cat (bytes := 8) (σb := σ) (n := 0) (cs := []) (keep_new σ _) (PSl.new _ 1 rfl (Nat.le_refl _)) (pis_length xs) (by omega) (by omega) fun v' h' hk' ha => ?_
    simp only [pwA, if_true, if_false, eq_self, nm_eq, reduceCtorEq, ↓reduceIte, Nat.reduceEqDiff, Nat.reduceLeDiff, Nat.reduceBEq, Nat.reduceAdd, Nat.reduceLT, Nat.reduceSub, Nat.reduceMul, Int.reduceEq, Int.reduceLT, Int.reduceLE, Int.reduceNeg, Int.reduceToNat, List.reduceReplicate, Int.ofNat_le, List.getElem?_drop] at ha ⊢
    exact ha.out hk' (pis_bel _ _) hk.2
  · simp only [pwA, if_true, if_false, eq_self, nm_eq, reduceCtorEq, ↓reduceIte, Nat.reduceEqDiff, Nat.reduceLeDiff, Nat.reduceBEq, Nat.reduceAdd, Nat.reduceLT, Nat.reduceSub, Nat.reduceMul, Int.reduceEq, Int.reduceLT, Int.reduceLE, Int.reduceNeg, Int.reduceToNat, List.reduceReplicate, Int.ofNat_le, List.getElem?_drop]
    exact Gh.ret (hk.1 (List.eq_nil_of_length_eq_zero (hnil hn).1))
/-- A vector with one entry 1. -/
def unitL (n k : Nat) : List Int := (List.replicate n 0).set k 1
theorem unitL_length (n k : Nat) : (unitL n k).length = n := by simp [unitL]
theorem unitVector_ok {n k : Nat} (hn : n ≤ 1048576) (hkn : k < n) (hk : ∀ cap, full 1 cap n → K (.sl σ.next 0 n cap) (σ.new (pis (unitL n k)))) : PCalls Try.prog 98 [.int .i64 n, .int .i64 k] σ K := by
  refine pcalls_of_vp mix Try.func98 cf98 rfl ?_
  dsimp only [if98, qI, eI, nI, qD, eD]
  simp only [pwA, if_true, if_false, eq_self, nm_eq, reduceCtorEq, ↓reduceIte, Nat.reduceEqDiff, Nat.reduceLeDiff, Nat.reduceBEq, Nat.reduceAdd, Nat.reduceLT, Nat.reduceSub, Nat.reduceMul, Int.reduceEq, Int.reduceLT, Int.reduceLE, Int.reduceNeg, Int.reduceToNat, List.reduceReplicate, Int.ofNat_le, List.getElem?_drop, hkn, List.length_replicate, pis_rep, pis_length, mk8 (n := n) (by omega), mkL (n := n) (by omega), Nat.succ_le_of_lt hkn]
  rw [pis_set_at (by simpa using hkn)]
  exact hk _ (.inr rfl)
end Go.Proofs
set_option linter.unusedVariables false
set_option linter.unusedSimpArgs false
namespace Go.Lie
open Go.Ab
/-- The entry at a place, 0 beyond the end. -/
abbrev at_ (v : List Int) (j : Nat) : Int := v.getD j 0
theorem at_eq {v : List Int} {j : Nat} (h : j < v.length) : at_ v j = v[j] := by simp [at_, List.getD_eq_getElem?_getD, List.getElem?_eq_getElem h]
theorem at_ge {v : List Int} {j : Nat} (h : v.length ≤ j) : at_ v j = 0 := by simp [at_, List.getD_eq_getElem?_getD, List.getElem?_eq_none h]
theorem ext_at {a b : List Int} (hl : a.length = b.length) (h : ∀ j, j < a.length → at_ a j = at_ b j) : a = b := by
  apply List.ext_getElem hl
  intro j h1 h2
  have := h j h1
  rwa [at_eq h1, at_eq h2] at this
theorem at_set {v : List Int} {i : Nat} (hi : i < v.length) (x : Int) (j : Nat) : at_ (v.set i x) j = if j = i then x else at_ v j := by
  simp only [at_, List.getD_eq_getElem?_getD, List.getElem?_set]
  by_cases h : i = j
  · subst h; simp [hi]
  · rw [if_neg h, if_neg (fun e => h e.symm)]
theorem at_rep (n : Nat) (j : Nat) : at_ (List.replicate n 0) j = 0 := by
  simp only [at_, List.getD_eq_getElem?_getD, List.getElem?_replicate]
  split <;> rfl
variable {p : Int} {n : Nat} {W : List (List Int)}
theorem getD_row {i : Nat} (h : i < W.length) : W.getD i [] = W[i] := by simp [List.getD_eq_getElem?_getD, List.getElem?_eq_getElem h]
end Go.Lie
set_option linter.unusedSimpArgs false
set_option linter.unusedVariables false
namespace Go.Proofs
open Go.Ab Go.Lie
variable {σ : PHeap} {K : PV → PHeap → Prop} {p : Int} {n : Nat} {W : List (List Int)} {B : List (List (List Int))} {vP vB : PV} {s : Nat}
theorem getD_row' {α : Type} {B : List (List α)} {i : Nat} (h : i < B.length) : B.getD i [] = B[i] := by simp [List.getD_eq_getElem?_getD, List.getElem?_eq_getElem h]
end Go.Proofs
set_option linter.unusedSimpArgs false
set_option linter.unusedVariables false
namespace Go.Proofs
open Go.Ab Go.Lie
variable {σ : PHeap} {K : PV → PHeap → Prop} {p : Int} {n : Nat} {W : List (List Int)} {B : List (List (List Int))} {vP vB : PV} {s : Nat}
theorem unitVector_fz {k : Nat} (hn : n ≤ 1048576) (hkn : k < n) (hk : ∀ a, K (.fz true a n (pis (unitL n k))) σ) : PCalls Try.prog 98 [.int .i64 n, .int .i64 k] σ K :=
  PCalls.fz (fun K' => unitVector_ok hn hkn) (pis_bel _ _) fun o cap => hk _
end Go.Proofs
set_option linter.unusedSimpArgs false
set_option linter.unusedVariables false
namespace Go.Proofs
open Go.Ab Go.Lie
variable {σ : PHeap} {K : PV → PHeap → Prop} {p : Int} {n : Nat} {W : List (List Int)} {B : List (List (List Int))} {vP vB vL : PV} {s : Nat}
/-- Sizes of a list. -/
structure SzL (xs : List (List Int)) : Prop where
  l : xs.length ≤ 1048576
  r : ∀ x ∈ xs, x.length ≤ 1048576
end Go.Proofs
set_option linter.unusedSimpArgs false
set_option linter.unusedVariables false
namespace Go.Proofs
open Go.Ab Go.Lie
variable {σ : PHeap} {K : PV → PHeap → Prop} {p p' : Int} {n : Nat} {W W' : List (List Int)} {B B' : List (List (List Int))} {vP vB vP' vB' vL vL' : PV}
/-- The rest of what a law allows. -/
def left_ (l : Int) : Prop := 0 ≤ l ∧ l ≤ 1048576
theorem szInt64S_ok {l : Int} {xs : List Int} {v : PV} (hI : FI v xs) (hb : xs.length ≤ 9223372036854775807) (hl : left_ l) (hk : ∀ r : Int, (r = -1 ∨ (left_ r ∧ xs.length ≤ 1048576)) → K (.int .i64 r) σ) : PCalls Try.prog 63 [v, .int .i64 l] σ K := by
  obtain ⟨w, a, rfl⟩ := hI
  unfold left_ at hl
  refine pcalls_of_vp mix Try.func63 cf63 rfl ?_
  dsimp only [if63, qI, eI, nI, qD, eD]
  simp only [pwA, if_true, if_false, eq_self, nm_eq, reduceCtorEq, ↓reduceIte, Nat.reduceEqDiff, Nat.reduceLeDiff, Nat.reduceBEq, Nat.reduceAdd, Nat.reduceLT, Nat.reduceSub, Nat.reduceMul, Int.reduceEq, Int.reduceLT, Int.reduceLE, Int.reduceNeg, Int.reduceToNat, List.reduceReplicate, Int.ofNat_le, List.getElem?_drop, wrap64 (n := l - (xs.length : Int)) (by omega) (by omega)]
  refine iteI (fun h => ?_) fun h => ?_
  · exact hk _ (.inl rfl)
  · exact hk _ (.inr ⟨by unfold left_; omega, by omega⟩)
theorem szInt64SS_ok {l : Int} {xs : List (List Int)} {v : PV} (hI : FII v xs) (hb : xs.length ≤ 9223372036854775807) (hb2 : ∀ x ∈ xs, x.length ≤ 9223372036854775807) (hl : left_ l) (hk : ∀ r : Int, (r = -1 ∨ (left_ r ∧ SzL xs)) → K (.int .i64 r) σ) : PCalls Try.prog 42 [v, .int .i64 l] σ K := by
  obtain ⟨w, a, rs, rfl, hr⟩ := hI
  have hl' := hl
  unfold left_ at hl
  refine pcalls_of_vp mix Try.func42 cf42 rfl ?_
  dsimp only [if42, qI, eI, nI, qD, eD]
  simp only [pwA, if_true, if_false, eq_self, nm_eq, reduceCtorEq, ↓reduceIte, Nat.reduceEqDiff, Nat.reduceLeDiff, Nat.reduceBEq, Nat.reduceAdd, Nat.reduceLT, Nat.reduceSub, Nat.reduceMul, Int.reduceEq, Int.reduceLT, Int.reduceLE, Int.reduceNeg, Int.reduceToNat, List.reduceReplicate, Int.ofNat_le, List.getElem?_drop, wrap64 (n := l - (xs.length : Int)) (by omega) (by omega)]
  refine iteI (fun h => ?_) fun h => ?_
  · exact hk _ (.inl rfl)
  refine vp_loop (fun m vs h' => ∃ i : Nat, i ≤ xs.length ∧ m = xs.length - i ∧ ∃ r : Int, left_ r ∧ vs = [.fz w a xs.length rs, .int .i64 r, .int .i64 i] ∧ σ = h' ∧ ∀ x ∈ xs.take i, x.length ≤ 1048576) xs.length ?_ ?_
  · exact ⟨0, by omega, by omega, _, (by unfold left_; omega), rfl, rfl, by simp⟩
  rintro m vs h' ⟨i, hi, rfl, r, hr', rfl, rfl, hall⟩
  simp only [pwA, if_true, if_false, eq_self, nm_eq, reduceCtorEq, ↓reduceIte, Nat.reduceEqDiff, Nat.reduceLeDiff, Nat.reduceBEq, Nat.reduceAdd, Nat.reduceLT, Nat.reduceSub, Nat.reduceMul, Int.reduceEq, Int.reduceLT, Int.reduceLE, Int.reduceNeg, Int.reduceToNat, List.reduceReplicate, Int.ofNat_le, List.getElem?_drop]
  refine iteI (fun hlt => ?_) fun hge => ?_
  rotate_left
  · exact hk _ (.inr ⟨hr', by omega, forall_all (by omega) hall⟩)
  obtain ⟨w4, a4, hrk⟩ := hr.rowI hlt
  simp only [pwA, if_true, if_false, eq_self, nm_eq, reduceCtorEq, ↓reduceIte, Nat.reduceEqDiff, Nat.reduceLeDiff, Nat.reduceBEq, Nat.reduceAdd, Nat.reduceLT, Nat.reduceSub, Nat.reduceMul, Int.reduceEq, Int.reduceLT, Int.reduceLE, Int.reduceNeg, Int.reduceToNat, List.reduceReplicate, Int.ofNat_le, List.getElem?_drop, hlt, hrk, List.getElem?_drop]
  refine szInt64S_ok ⟨_, _, rfl⟩ (hb2 _ (List.getElem_mem hlt)) hr' fun r' h => ?_
  rcases h with rfl | ⟨h1, h2⟩
  · simp only [pwA, if_true, if_false, eq_self, nm_eq, reduceCtorEq, ↓reduceIte, Nat.reduceEqDiff, Nat.reduceLeDiff, Nat.reduceBEq, Nat.reduceAdd, Nat.reduceLT, Nat.reduceSub, Nat.reduceMul, Int.reduceEq, Int.reduceLT, Int.reduceLE, Int.reduceNeg, Int.reduceToNat, List.reduceReplicate, Int.ofNat_le, List.getElem?_drop]
    exact hk _ (.inl rfl)
  · have : ¬ r' < 0 := by unfold left_ at h1; omega
    simp only [pwA, if_true, if_false, eq_self, nm_eq, reduceCtorEq, ↓reduceIte, Nat.reduceEqDiff, Nat.reduceLeDiff, Nat.reduceBEq, Nat.reduceAdd, Nat.reduceLT, Nat.reduceSub, Nat.reduceMul, Int.reduceEq, Int.reduceLT, Int.reduceLE, Int.reduceNeg, Int.reduceToNat, List.reduceReplicate, Int.ofNat_le, List.getElem?_drop, this, wrapS hlt (by omega : xs.length ≤ 4611686018427387904)]
    exact ⟨_, by omega, i + 1, by omega, rfl, _, h1, rfl, forallA_snoc hlt hall h2⟩
/-- Sizes of a list of lists of lists. -/
structure SzM (B : List (List (List Int))) : Prop where
  l : B.length ≤ 1048576
  r : ∀ q ∈ B, SzL q
theorem szInt64SSS_ok {l : Int} {xs : List (List (List Int))} {v : PV} (hI : FIII v xs) (hb : xs.length ≤ 9223372036854775807) (hb2 : ∀ q ∈ xs, q.length ≤ 9223372036854775807 ∧ ∀ x ∈ q, x.length ≤ 9223372036854775807) (hl : left_ l) (hk : ∀ r : Int, (r = -1 ∨ (left_ r ∧ SzM xs)) → K (.int .i64 r) σ) : PCalls Try.prog 43 [v, .int .i64 l] σ K := by
  obtain ⟨w, a, rs, rfl, hr⟩ := hI
  have hl' := hl
  unfold left_ at hl
  refine pcalls_of_vp mix Try.func43 cf43 rfl ?_
  dsimp only [if43, qI, eI, nI, qD, eD]
  simp only [pwA, if_true, if_false, eq_self, nm_eq, reduceCtorEq, ↓reduceIte, Nat.reduceEqDiff, Nat.reduceLeDiff, Nat.reduceBEq, Nat.reduceAdd, Nat.reduceLT, Nat.reduceSub, Nat.reduceMul, Int.reduceEq, Int.reduceLT, Int.reduceLE, Int.reduceNeg, Int.reduceToNat, List.reduceReplicate, Int.ofNat_le, List.getElem?_drop, wrap64 (n := l - (xs.length : Int)) (by omega) (by omega)]
  refine iteI (fun h => ?_) fun h => ?_
  · exact hk _ (.inl rfl)
  refine vp_loop (fun m vs h' => ∃ i : Nat, i ≤ xs.length ∧ m = xs.length - i ∧ ∃ r : Int, left_ r ∧ vs = [.fz w a xs.length rs, .int .i64 r, .int .i64 i] ∧ σ = h' ∧ ∀ x ∈ xs.take i, SzL x) xs.length ?_ ?_
  · exact ⟨0, by omega, by omega, _, (by unfold left_; omega), rfl, rfl, by simp⟩
  rintro m vs h' ⟨i, hi, rfl, r, hr', rfl, rfl, hall⟩
  simp only [pwA, if_true, if_false, eq_self, nm_eq, reduceCtorEq, ↓reduceIte, Nat.reduceEqDiff, Nat.reduceLeDiff, Nat.reduceBEq, Nat.reduceAdd, Nat.reduceLT, Nat.reduceSub, Nat.reduceMul, Int.reduceEq, Int.reduceLT, Int.reduceLE, Int.reduceNeg, Int.reduceToNat, List.reduceReplicate, Int.ofNat_le, List.getElem?_drop]
  refine iteI (fun hlt => ?_) fun hge => ?_
  rotate_left
  · exact hk _ (.inr ⟨hr', by omega, forall_all (by omega) hall⟩)
  obtain ⟨w4, a4, rk, hrk, hrs⟩ := hr.rowL hlt
  have hbi := hb2 _ (List.getElem_mem hlt)
  simp only [pwA, if_true, if_false, eq_self, nm_eq, reduceCtorEq, ↓reduceIte, Nat.reduceEqDiff, Nat.reduceLeDiff, Nat.reduceBEq, Nat.reduceAdd, Nat.reduceLT, Nat.reduceSub, Nat.reduceMul, Int.reduceEq, Int.reduceLT, Int.reduceLE, Int.reduceNeg, Int.reduceToNat, List.reduceReplicate, Int.ofNat_le, List.getElem?_drop, hlt, hrk, List.getElem?_drop]
  refine szInt64SS_ok ⟨_, _, _, rfl, hrs⟩ hbi.1 hbi.2 hr' fun r' h => ?_
  rcases h with rfl | ⟨h1, h2⟩
  · simp only [pwA, if_true, if_false, eq_self, nm_eq, reduceCtorEq, ↓reduceIte, Nat.reduceEqDiff, Nat.reduceLeDiff, Nat.reduceBEq, Nat.reduceAdd, Nat.reduceLT, Nat.reduceSub, Nat.reduceMul, Int.reduceEq, Int.reduceLT, Int.reduceLE, Int.reduceNeg, Int.reduceToNat, List.reduceReplicate, Int.ofNat_le, List.getElem?_drop]
    exact hk _ (.inl rfl)
  · have : ¬ r' < 0 := by unfold left_ at h1; omega
    simp only [pwA, if_true, if_false, eq_self, nm_eq, reduceCtorEq, ↓reduceIte, Nat.reduceEqDiff, Nat.reduceLeDiff, Nat.reduceBEq, Nat.reduceAdd, Nat.reduceLT, Nat.reduceSub, Nat.reduceMul, Int.reduceEq, Int.reduceLT, Int.reduceLE, Int.reduceNeg, Int.reduceToNat, List.reduceReplicate, Int.ofNat_le, List.getElem?_drop, this, wrapS hlt (by omega : xs.length ≤ 4611686018427387904)]
    exact ⟨_, by omega, i + 1, by omega, rfl, _, h1, rfl, forallA_snoc hlt hall h2⟩
theorem toInt64S_ok {v : PV} {xs : List Int} (hI : FI v xs) (hb : xs.length ≤ 1048576) (hk : ∀ cap, full 1 cap xs.length → K (.sl σ.next 0 xs.length cap) (σ.new (pis xs))) : PCalls Try.prog 14 [v] σ K := by
  obtain ⟨w, a, rfl⟩ := hI
  refine pcalls_of_vp mix Try.func14 cf14 rfl ?_
  dsimp only [if14, qI, eI, nI, qD, eD]
  simp only [pwA, if_true, if_false, eq_self, nm_eq, reduceCtorEq, ↓reduceIte, Nat.reduceEqDiff, Nat.reduceLeDiff, Nat.reduceBEq, Nat.reduceAdd, Nat.reduceLT, Nat.reduceSub, Nat.reduceMul, Int.reduceEq, Int.reduceLT, Int.reduceLE, Int.reduceNeg, Int.reduceToNat, List.reduceReplicate, Int.ofNat_le, List.getElem?_drop, pis_rep, mk8 (n := xs.length) (by omega), mkL (n := xs.length) (by omega)]
  refine vp_loop (fun m vs h' => ∃ i : Nat, i ≤ xs.length ∧ m = xs.length - i ∧ vs = [.fz w a xs.length (pis xs), .sl σ.next 0 xs.length (.known xs.length), .int .i64 i] ∧ h' = σ.new (pis (xs.take i ++ List.replicate (xs.length - i) 0))) xs.length ?_ ?_
  · exact ⟨0, by omega, by omega, rfl, by rw [List.take_zero, List.nil_append, Nat.sub_zero]⟩
  rintro m vs h' ⟨i, hi, rfl, rfl, rfl⟩
  simp only [pwA, if_true, if_false, eq_self, nm_eq, reduceCtorEq, ↓reduceIte, Nat.reduceEqDiff, Nat.reduceLeDiff, Nat.reduceBEq, Nat.reduceAdd, Nat.reduceLT, Nat.reduceSub, Nat.reduceMul, Int.reduceEq, Int.reduceLT, Int.reduceLE, Int.reduceNeg, Int.reduceToNat, List.reduceReplicate, Int.ofNat_le, List.getElem?_drop]
  refine iteI (fun hlt => ?_) fun hge => ?_
  · have hlen : i + 1 ≤ (xs.take i ++ List.replicate (xs.length - i) 0).length := by simp; omega
    simp only [pwA, if_true, if_false, eq_self, nm_eq, reduceCtorEq, ↓reduceIte, Nat.reduceEqDiff, Nat.reduceLeDiff, Nat.reduceBEq, Nat.reduceAdd, Nat.reduceLT, Nat.reduceSub, Nat.reduceMul, Int.reduceEq, Int.reduceLT, Int.reduceLE, Int.reduceNeg, Int.reduceToNat, List.reduceReplicate, Int.ofNat_le, List.getElem?_drop, hlt, gi hlt, pis_get, pis_length, List.getElem?_drop, hlen, wrapS hlt (by omega : xs.length ≤ 4611686018427387904)]
    refine ⟨_, by omega, i + 1, by omega, rfl, rfl, ?_⟩
    rw [pis_set_at (by omega), take_set_rep xs 0 hlt]
  · have hie : i = xs.length := by omega
    subst hie
    rw [List.take_length, Nat.sub_self, List.replicate_zero, List.append_nil]
    exact hk _ (.inr rfl)
theorem toInt64S_fz {v : PV} {xs : List Int} (hI : FI v xs) (hb : xs.length ≤ 1048576) (hk : ∀ v, FI v xs → K v σ) : PCalls Try.prog 14 [v] σ K :=
  PCalls.fz (fun K' => toInt64S_ok hI hb) (pis_bel _ _) fun o cap => hk _ ⟨_, _, rfl⟩
/-- A list of values, one written behind those that are there. -/
theorem rows_set {rows : List PV} {z r : PV} {n i : Nat} (hl : rows.length = i) (hi : i < n) : (rows ++ List.replicate (n - i) z).take i ++ [r] ++ (rows ++ List.replicate (n - i) z).drop (i + 1) = (rows ++ [r]) ++ List.replicate (n - (i + 1)) z := by
  rw [List.take_append_of_le_length (by omega), List.take_of_length_le (by omega), List.drop_append, List.drop_eq_nil_of_le (by omega), List.nil_append, hl]
  congr 1
  obtain ⟨k, hk⟩ : ∃ k, n - i = k + 1 := ⟨n - i - 1, by omega⟩
  rw [hk, show i + 1 - i = 1 by omega, List.replicate_succ, List.drop_succ_cons, List.drop_zero]
  congr 1; omega
theorem toInt64SS_fz {v : PV} {xs : List (List Int)} (hI : FII v xs) (sz : SzL xs) (hk : ∀ v, FII v xs → K v σ) : PCalls Try.prog 46 [v] σ K := by
  obtain ⟨w, a, rs, rfl, hr⟩ := hI
  have hb := sz.l
  refine PCalls.gh ?_
  refine pcalls_of_vp mix Try.func46 cf46 rfl ?_
  dsimp only [if46, qI, eI, nI, qD, eD]
  simp only [pwA, if_true, if_false, eq_self, nm_eq, reduceCtorEq, ↓reduceIte, Nat.reduceEqDiff, Nat.reduceLeDiff, Nat.reduceBEq, Nat.reduceAdd, Nat.reduceLT, Nat.reduceSub, Nat.reduceMul, Int.reduceEq, Int.reduceLT, Int.reduceLE, Int.reduceNeg, Int.reduceToNat, List.reduceReplicate, Int.ofNat_le, List.getElem?_drop, mk24 (n := xs.length) (by omega), mkL (n := xs.length) (by omega)]
  refine vp_loop (fun m vs h' => ∃ i : Nat, i ≤ xs.length ∧ m = xs.length - i ∧ vs = [.fz w a xs.length rs, .sl σ.next 0 xs.length (.known xs.length), .int .i64 i] ∧ ∃ rows : List PV, rows.length = i ∧ All2 FI rows (xs.take i) ∧ h' = σ.new (rows ++ List.replicate (xs.length - i) (.fz true .nils 0 []))) xs.length ?_ ?_
  · exact ⟨0, by omega, by omega, rfl, [], rfl, by simpa using All2.nil _, by simp⟩
  rintro m vs h' ⟨i, hi, rfl, rfl, rows, hrl, hra, rfl⟩
  simp only [pwA, if_true, if_false, eq_self, nm_eq, reduceCtorEq, ↓reduceIte, Nat.reduceEqDiff, Nat.reduceLeDiff, Nat.reduceBEq, Nat.reduceAdd, Nat.reduceLT, Nat.reduceSub, Nat.reduceMul, Int.reduceEq, Int.reduceLT, Int.reduceLE, Int.reduceNeg, Int.reduceToNat, List.reduceReplicate, Int.ofNat_le, List.getElem?_drop]
  refine iteI (fun hlt => ?_) fun hge => ?_
  · obtain ⟨w4, a4, hrk⟩ := hr.rowI hlt
    simp only [pwA, if_true, if_false, eq_self, nm_eq, reduceCtorEq, ↓reduceIte, Nat.reduceEqDiff, Nat.reduceLeDiff, Nat.reduceBEq, Nat.reduceAdd, Nat.reduceLT, Nat.reduceSub, Nat.reduceMul, Int.reduceEq, Int.reduceLT, Int.reduceLE, Int.reduceNeg, Int.reduceToNat, List.reduceReplicate, Int.ofNat_le, List.getElem?_drop, hlt, hrk, List.getElem?_drop]
    refine toInt64S_fz ⟨_, _, rfl⟩ (sz.r _ (List.getElem_mem hlt)) fun r hr' => ?_
    have hlen : i + 1 ≤ (rows ++ List.replicate (xs.length - i) (PV.fz true .nils 0 [])).length := by simp; omega
    simp only [pwA, if_true, if_false, eq_self, nm_eq, reduceCtorEq, ↓reduceIte, Nat.reduceEqDiff, Nat.reduceLeDiff, Nat.reduceBEq, Nat.reduceAdd, Nat.reduceLT, Nat.reduceSub, Nat.reduceMul, Int.reduceEq, Int.reduceLT, Int.reduceLE, Int.reduceNeg, Int.reduceToNat, List.reduceReplicate, Int.ofNat_le, List.getElem?_drop, hlt, hlen, hr'.cells, hr'.one, wrapS hlt (by omega : xs.length ≤ 4611686018427387904)]
    refine ⟨_, by omega, i + 1, by omega, rfl, rfl, rows ++ [r], by simp [hrl], ?_, ?_⟩
    · rw [List.take_succ_eq_append_getElem hlt]; exact hra.snoc hr'
    · rw [rows_set hrl hlt]
  · have hie : i = xs.length := by omega
    subst hie
    rw [List.take_length] at hra
    rw [Nat.sub_self, List.replicate_zero, List.append_nil]
    exact Gh.finF (keep_new σ _) (by simp only [pwA, if_true, if_false, eq_self, nm_eq, reduceCtorEq, ↓reduceIte, Nat.reduceEqDiff, Nat.reduceLeDiff, Nat.reduceBEq, Nat.reduceAdd, Nat.reduceLT, Nat.reduceSub, Nat.reduceMul, Int.reduceEq, Int.reduceLT, Int.reduceLE, Int.reduceNeg, Int.reduceToNat, List.reduceReplicate, Int.ofNat_le, List.getElem?_drop]) (Nat.le_refl _) (hra.bI 0) (by simp [capOK]) fun o => hk _ ⟨_, _, _, rfl, hra⟩
theorem toInt64SSS_fz {v : PV} {xs : List (List (List Int))} (hI : FIII v xs) (sz : SzM xs) (hk : ∀ v, FIII v xs → K v σ) : PCalls Try.prog 47 [v] σ K := by
  obtain ⟨w, a, rs, rfl, hr⟩ := hI
  have hb := sz.l
  refine PCalls.gh ?_
  refine pcalls_of_vp mix Try.func47 cf47 rfl ?_
  dsimp only [if47, qI, eI, nI, qD, eD]
  simp only [pwA, if_true, if_false, eq_self, nm_eq, reduceCtorEq, ↓reduceIte, Nat.reduceEqDiff, Nat.reduceLeDiff, Nat.reduceBEq, Nat.reduceAdd, Nat.reduceLT, Nat.reduceSub, Nat.reduceMul, Int.reduceEq, Int.reduceLT, Int.reduceLE, Int.reduceNeg, Int.reduceToNat, List.reduceReplicate, Int.ofNat_le, List.getElem?_drop, mk24 (n := xs.length) (by omega), mkL (n := xs.length) (by omega)]
  refine vp_loop (fun m vs h' => ∃ i : Nat, i ≤ xs.length ∧ m = xs.length - i ∧ vs = [.fz w a xs.length rs, .sl σ.next 0 xs.length (.known xs.length), .int .i64 i] ∧ ∃ rows : List PV, rows.length = i ∧ All2 FII rows (xs.take i) ∧ h' = σ.new (rows ++ List.replicate (xs.length - i) (.fz true .nils 0 []))) xs.length ?_ ?_
  · exact ⟨0, by omega, by omega, rfl, [], rfl, by simpa using All2.nil _, by simp⟩
  rintro m vs h' ⟨i, hi, rfl, rfl, rows, hrl, hra, rfl⟩
  simp only [pwA, if_true, if_false, eq_self, nm_eq, reduceCtorEq, ↓reduceIte, Nat.reduceEqDiff, Nat.reduceLeDiff, Nat.reduceBEq, Nat.reduceAdd, Nat.reduceLT, Nat.reduceSub, Nat.reduceMul, Int.reduceEq, Int.reduceLT, Int.reduceLE, Int.reduceNeg, Int.reduceToNat, List.reduceReplicate, Int.ofNat_le, List.getElem?_drop]
  refine iteI (fun hlt => ?_) fun hge => ?_
  · obtain ⟨w4, a4, rk, hrk, hrs⟩ := hr.rowL hlt
    simp only [pwA, if_true, if_false, eq_self, nm_eq, reduceCtorEq, ↓reduceIte, Nat.reduceEqDiff, Nat.reduceLeDiff, Nat.reduceBEq, Nat.reduceAdd, Nat.reduceLT, Nat.reduceSub, Nat.reduceMul, Int.reduceEq, Int.reduceLT, Int.reduceLE, Int.reduceNeg, Int.reduceToNat, List.reduceReplicate, Int.ofNat_le, List.getElem?_drop, hlt, hrk, List.getElem?_drop]
    refine toInt64SS_fz ⟨_, _, _, rfl, hrs⟩ (sz.r _ (List.getElem_mem hlt)) fun r hr' => ?_
    have hlen : i + 1 ≤ (rows ++ List.replicate (xs.length - i) (PV.fz true .nils 0 [])).length := by simp; omega
    simp only [pwA, if_true, if_false, eq_self, nm_eq, reduceCtorEq, ↓reduceIte, Nat.reduceEqDiff, Nat.reduceLeDiff, Nat.reduceBEq, Nat.reduceAdd, Nat.reduceLT, Nat.reduceSub, Nat.reduceMul, Int.reduceEq, Int.reduceLT, Int.reduceLE, Int.reduceNeg, Int.reduceToNat, List.reduceReplicate, Int.ofNat_le, List.getElem?_drop, hlt, hlen, hr'.cells, hr'.one, wrapS hlt (by omega : xs.length ≤ 4611686018427387904)]
    refine ⟨_, by omega, i + 1, by omega, rfl, rfl, rows ++ [r], by simp [hrl], ?_, ?_⟩
    · rw [List.take_succ_eq_append_getElem hlt]; exact hra.snoc hr'
    · rw [rows_set hrl hlt]
  · have hie : i = xs.length := by omega
    subst hie
    rw [List.take_length] at hra
    rw [Nat.sub_self, List.replicate_zero, List.append_nil]
    exact Gh.finF (keep_new σ _) (by simp only [pwA, if_true, if_false, eq_self, nm_eq, reduceCtorEq, ↓reduceIte, Nat.reduceEqDiff, Nat.reduceLeDiff, Nat.reduceBEq, Nat.reduceAdd, Nat.reduceLT, Nat.reduceSub, Nat.reduceMul, Int.reduceEq, Int.reduceLT, Int.reduceLE, Int.reduceNeg, Int.reduceToNat, List.reduceReplicate, Int.ofNat_le, List.getElem?_drop]) (Nat.le_refl _) (hra.bL 0) (by simp [capOK]) fun o => hk _ ⟨_, _, _, rfl, hra⟩
theorem eqInt64S_ok {v v' : PV} {xs ys : List Int} (hI : FI v xs) (hI' : FI v' ys) (hb : xs.length ≤ 4611686018427387904) (hk : K (.bool (decide (xs = ys))) σ) : PCalls Try.prog 16 [v, v'] σ K := by
  obtain ⟨w, a, rfl⟩ := hI
  obtain ⟨w', a', rfl⟩ := hI'
  refine pcalls_of_vp mix Try.func16 cf16 rfl ?_
  dsimp only [if16, qI, eI, nI, qD, eD]
  simp only [pwA, if_true, if_false, eq_self, nm_eq, reduceCtorEq, ↓reduceIte, Nat.reduceEqDiff, Nat.reduceLeDiff, Nat.reduceBEq, Nat.reduceAdd, Nat.reduceLT, Nat.reduceSub, Nat.reduceMul, Int.reduceEq, Int.reduceLT, Int.reduceLE, Int.reduceNeg, Int.reduceToNat, List.reduceReplicate, Int.ofNat_le, List.getElem?_drop]
  refine iteI (fun hl => ?_) fun hl => ?_
  rotate_left
  · exact pkf hk fun hv => hl (by rw [hv])
  have hl : xs.length = ys.length := by omega
  refine vp_loop (fun m vs h' => ∃ i : Nat, i ≤ xs.length ∧ m = xs.length - i ∧ vs = [.fz w a xs.length (pis xs), .fz w' a' ys.length (pis ys), .int .i64 i] ∧ σ = h' ∧ xs.take i = ys.take i) xs.length ?_ ?_
  · exact ⟨0, by omega, by omega, rfl, rfl, by simp⟩
  rintro m vs h' ⟨i, hi, rfl, rfl, rfl, hall⟩
  simp only [pwA, if_true, if_false, eq_self, nm_eq, reduceCtorEq, ↓reduceIte, Nat.reduceEqDiff, Nat.reduceLeDiff, Nat.reduceBEq, Nat.reduceAdd, Nat.reduceLT, Nat.reduceSub, Nat.reduceMul, Int.reduceEq, Int.reduceLT, Int.reduceLE, Int.reduceNeg, Int.reduceToNat, List.reduceReplicate, Int.ofNat_le, List.getElem?_drop]
  refine iteI (fun hlt => ?_) fun hge => ?_
  · have hlt2 : i < ys.length := by omega
    simp only [pwA, if_true, if_false, eq_self, nm_eq, reduceCtorEq, ↓reduceIte, Nat.reduceEqDiff, Nat.reduceLeDiff, Nat.reduceBEq, Nat.reduceAdd, Nat.reduceLT, Nat.reduceSub, Nat.reduceMul, Int.reduceEq, Int.reduceLT, Int.reduceLE, Int.reduceNeg, Int.reduceToNat, List.reduceReplicate, Int.ofNat_le, List.getElem?_drop, hlt, hlt2, List.getElem?_drop, pis_get, gi hlt, gi hlt2]
    refine iteI (fun h0 => ?_) fun hn => ?_
    · simp only [pwA, if_true, if_false, eq_self, nm_eq, reduceCtorEq, ↓reduceIte, Nat.reduceEqDiff, Nat.reduceLeDiff, Nat.reduceBEq, Nat.reduceAdd, Nat.reduceLT, Nat.reduceSub, Nat.reduceMul, Int.reduceEq, Int.reduceLT, Int.reduceLE, Int.reduceNeg, Int.reduceToNat, List.reduceReplicate, Int.ofNat_le, List.getElem?_drop, wrapS hlt hb]
      exact ⟨_, by omega, i + 1, by omega, rfl, rfl, eqList hl hlt hall h0⟩
    · exact pkf hk fun hv => hn (by subst hv; rfl)
  · refine pkt hk ?_
    rwa [List.take_of_length_le (by omega), List.take_of_length_le (by omega)] at hall
theorem eqTake {α : Type} {xs ys : List α} (hl : xs.length = ys.length) {i : Nat} (hi : i < xs.length) (h : xs.take i = ys.take i) (he : xs[i] = ys[i]'(by omega)) : xs.take (i + 1) = ys.take (i + 1) := by
  rw [List.take_succ_eq_append_getElem hi, List.take_succ_eq_append_getElem (by omega : i < ys.length), h, he]
theorem eqInt64SS_ok {v v' : PV} {xs ys : List (List Int)} (hI : FII v xs) (hI' : FII v' ys) (sz : SzL xs) (hk : ∀ t : Bool, (t = true ↔ xs = ys) → K (.bool t) σ) : PCalls Try.prog 50 [v, v'] σ K := by
  obtain ⟨w, a, rs, rfl, hr⟩ := hI
  obtain ⟨w', a', rs', rfl, hr'⟩ := hI'
  have hb := sz.l
  have fl : ∀ {A : Prop}, ¬ A → ((false = true) ↔ A) := fun h => ⟨fun x => (by cases x), fun x => absurd x h⟩
  refine pcalls_of_vp mix Try.func50 cf50 rfl ?_
  dsimp only [if50, qI, eI, nI, qD, eD]
  simp only [pwA, if_true, if_false, eq_self, nm_eq, reduceCtorEq, ↓reduceIte, Nat.reduceEqDiff, Nat.reduceLeDiff, Nat.reduceBEq, Nat.reduceAdd, Nat.reduceLT, Nat.reduceSub, Nat.reduceMul, Int.reduceEq, Int.reduceLT, Int.reduceLE, Int.reduceNeg, Int.reduceToNat, List.reduceReplicate, Int.ofNat_le, List.getElem?_drop]
  refine iteI (fun hl => ?_) fun hl => ?_
  rotate_left
  · exact hk _ (fl fun hv => hl (by rw [hv]))
  have hl : xs.length = ys.length := by omega
  refine vp_loop (fun m vs h' => ∃ i : Nat, i ≤ xs.length ∧ m = xs.length - i ∧ vs = [.fz w a xs.length rs, .fz w' a' ys.length rs', .int .i64 i] ∧ σ = h' ∧ xs.take i = ys.take i) xs.length ?_ ?_
  · exact ⟨0, by omega, by omega, rfl, rfl, by simp⟩
  rintro m vs h' ⟨i, hi, rfl, rfl, rfl, hall⟩
  simp only [pwA, if_true, if_false, eq_self, nm_eq, reduceCtorEq, ↓reduceIte, Nat.reduceEqDiff, Nat.reduceLeDiff, Nat.reduceBEq, Nat.reduceAdd, Nat.reduceLT, Nat.reduceSub, Nat.reduceMul, Int.reduceEq, Int.reduceLT, Int.reduceLE, Int.reduceNeg, Int.reduceToNat, List.reduceReplicate, Int.ofNat_le, List.getElem?_drop]
  refine iteI (fun hlt => ?_) fun hge => ?_
  · have hlt2 : i < ys.length := by omega
    obtain ⟨w4, a4, h4⟩ := hr.rowI hlt
    obtain ⟨w5, a5, h5⟩ := hr'.rowI hlt2
    simp only [pwA, if_true, if_false, eq_self, nm_eq, reduceCtorEq, ↓reduceIte, Nat.reduceEqDiff, Nat.reduceLeDiff, Nat.reduceBEq, Nat.reduceAdd, Nat.reduceLT, Nat.reduceSub, Nat.reduceMul, Int.reduceEq, Int.reduceLT, Int.reduceLE, Int.reduceNeg, Int.reduceToNat, List.reduceReplicate, Int.ofNat_le, List.getElem?_drop, hlt, hlt2, List.getElem?_drop, h4, h5]
    refine eqInt64S_ok ⟨_, _, rfl⟩ ⟨_, _, rfl⟩ (by have := sz.r _ (List.getElem_mem hlt); omega) ?_
    by_cases he : xs[i] = ys[i]
    · simp only [pwA, if_true, if_false, eq_self, nm_eq, reduceCtorEq, ↓reduceIte, Nat.reduceEqDiff, Nat.reduceLeDiff, Nat.reduceBEq, Nat.reduceAdd, Nat.reduceLT, Nat.reduceSub, Nat.reduceMul, Int.reduceEq, Int.reduceLT, Int.reduceLE, Int.reduceNeg, Int.reduceToNat, List.reduceReplicate, Int.ofNat_le, List.getElem?_drop, eq_true he, wrapS hlt (by omega : xs.length ≤ 4611686018427387904)]
      exact ⟨_, by omega, i + 1, by omega, rfl, rfl, eqTake hl hlt hall he⟩
    · simp only [pwA, if_true, if_false, eq_self, nm_eq, reduceCtorEq, ↓reduceIte, Nat.reduceEqDiff, Nat.reduceLeDiff, Nat.reduceBEq, Nat.reduceAdd, Nat.reduceLT, Nat.reduceSub, Nat.reduceMul, Int.reduceEq, Int.reduceLT, Int.reduceLE, Int.reduceNeg, Int.reduceToNat, List.reduceReplicate, Int.ofNat_le, List.getElem?_drop, he]
      exact hk _ (fl fun hv => he (by subst hv; rfl))
  · refine hk _ ⟨fun _ => ?_, fun _ => rfl⟩
    rwa [List.take_of_length_le (by omega), List.take_of_length_le (by omega)] at hall
theorem eqInt64SSS_ok {v v' : PV} {xs ys : List (List (List Int))} (hI : FIII v xs) (hI' : FIII v' ys) (sz : SzM xs) (hk : ∀ t : Bool, (t = true ↔ xs = ys) → K (.bool t) σ) : PCalls Try.prog 51 [v, v'] σ K := by
  obtain ⟨w, a, rs, rfl, hr⟩ := hI
  obtain ⟨w', a', rs', rfl, hr'⟩ := hI'
  have hb := sz.l
  have fl : ∀ {A : Prop}, ¬ A → ((false = true) ↔ A) := fun h => ⟨fun x => (by cases x), fun x => absurd x h⟩
  refine pcalls_of_vp mix Try.func51 cf51 rfl ?_
  dsimp only [if51, qI, eI, nI, qD, eD]
  simp only [pwA, if_true, if_false, eq_self, nm_eq, reduceCtorEq, ↓reduceIte, Nat.reduceEqDiff, Nat.reduceLeDiff, Nat.reduceBEq, Nat.reduceAdd, Nat.reduceLT, Nat.reduceSub, Nat.reduceMul, Int.reduceEq, Int.reduceLT, Int.reduceLE, Int.reduceNeg, Int.reduceToNat, List.reduceReplicate, Int.ofNat_le, List.getElem?_drop]
  refine iteI (fun hl => ?_) fun hl => ?_
  rotate_left
  · exact hk _ (fl fun hv => hl (by rw [hv]))
  have hl : xs.length = ys.length := by omega
  refine vp_loop (fun m vs h' => ∃ i : Nat, i ≤ xs.length ∧ m = xs.length - i ∧ vs = [.fz w a xs.length rs, .fz w' a' ys.length rs', .int .i64 i] ∧ σ = h' ∧ xs.take i = ys.take i) xs.length ?_ ?_
  · exact ⟨0, by omega, by omega, rfl, rfl, by simp⟩
  rintro m vs h' ⟨i, hi, rfl, rfl, rfl, hall⟩
  simp only [pwA, if_true, if_false, eq_self, nm_eq, reduceCtorEq, ↓reduceIte, Nat.reduceEqDiff, Nat.reduceLeDiff, Nat.reduceBEq, Nat.reduceAdd, Nat.reduceLT, Nat.reduceSub, Nat.reduceMul, Int.reduceEq, Int.reduceLT, Int.reduceLE, Int.reduceNeg, Int.reduceToNat, List.reduceReplicate, Int.ofNat_le, List.getElem?_drop]
  refine iteI (fun hlt => ?_) fun hge => ?_
  · have hlt2 : i < ys.length := by omega
    obtain ⟨w4, a4, r4, h4, g4⟩ := hr.rowL hlt
    obtain ⟨w5, a5, r5, h5, g5⟩ := hr'.rowL hlt2
    simp only [pwA, if_true, if_false, eq_self, nm_eq, reduceCtorEq, ↓reduceIte, Nat.reduceEqDiff, Nat.reduceLeDiff, Nat.reduceBEq, Nat.reduceAdd, Nat.reduceLT, Nat.reduceSub, Nat.reduceMul, Int.reduceEq, Int.reduceLT, Int.reduceLE, Int.reduceNeg, Int.reduceToNat, List.reduceReplicate, Int.ofNat_le, List.getElem?_drop, hlt, hlt2, List.getElem?_drop, h4, h5]
    refine eqInt64SS_ok ⟨_, _, _, rfl, g4⟩ ⟨_, _, _, rfl, g5⟩ (sz.r _ (List.getElem_mem hlt)) fun t ht => ?_
    cases t with
    | true =>
      simp only [pwA, if_true, if_false, eq_self, nm_eq, reduceCtorEq, ↓reduceIte, Nat.reduceEqDiff, Nat.reduceLeDiff, Nat.reduceBEq, Nat.reduceAdd, Nat.reduceLT, Nat.reduceSub, Nat.reduceMul, Int.reduceEq, Int.reduceLT, Int.reduceLE, Int.reduceNeg, Int.reduceToNat, List.reduceReplicate, Int.ofNat_le, List.getElem?_drop, wrapS hlt (by omega : xs.length ≤ 4611686018427387904)]
      exact ⟨_, by omega, i + 1, by omega, rfl, rfl, eqTake hl hlt hall (ht.1 rfl)⟩
    | false =>
      simp only [pwA, if_true, if_false, eq_self, nm_eq, reduceCtorEq, ↓reduceIte, Nat.reduceEqDiff, Nat.reduceLeDiff, Nat.reduceBEq, Nat.reduceAdd, Nat.reduceLT, Nat.reduceSub, Nat.reduceMul, Int.reduceEq, Int.reduceLT, Int.reduceLE, Int.reduceNeg, Int.reduceToNat, List.reduceReplicate, Int.ofNat_le, List.getElem?_drop]
      exact hk _ (fl fun hv => by subst hv; cases ht.2 rfl)
  · refine hk _ ⟨fun _ => ?_, fun _ => rfl⟩
    rwa [List.take_of_length_le (by omega), List.take_of_length_le (by omega)] at hall
end Go.Proofs
