/- Presentations: the reference's test of their shape. -/
import Derived.Test.YtpkibanhkjboeaaHP26
import Derived.Test.YtpkibanhkjboeaaHAbPy
set_option linter.unusedSimpArgs false
set_option linter.unusedVariables false
namespace Go.Proofs
open Go.Ab
variable {σ : PHeap} {K : PV → PHeap → Prop}
theorem inside_ok {n lo hi : Int} (hk : K (.bool (decide (lo ≤ n ∧ n ≤ hi))) σ) : PCalls Try.prog 105 [.int .i64 n, .int .i64 lo, .int .i64 hi] σ K := by
  refine pcalls_of_vp mix Try.func105 cf105 rfl ?_
  dsimp only [if105, qI, eI, nI, qD, eD]
  by_cases h1 : lo ≤ n
  · simp only [pwA, if_true, if_false, eq_self, nm_eq, reduceCtorEq, ↓reduceIte, Nat.reduceEqDiff, Nat.reduceLeDiff, Nat.reduceBEq, Nat.reduceAdd, Nat.reduceLT, Nat.reduceSub, Nat.reduceMul, Int.reduceEq, Int.reduceLT, Int.reduceLE, Int.reduceNeg, Int.reduceToNat, List.reduceReplicate, Int.ofNat_le, List.getElem?_drop, h1]; exact pke hk ⟨fun x => x.2, fun x => ⟨h1, x⟩⟩
  · simp only [pwA, if_true, if_false, eq_self, nm_eq, reduceCtorEq, ↓reduceIte, Nat.reduceEqDiff, Nat.reduceLeDiff, Nat.reduceBEq, Nat.reduceAdd, Nat.reduceLT, Nat.reduceSub, Nat.reduceMul, Int.reduceEq, Int.reduceLT, Int.reduceLE, Int.reduceNeg, Int.reduceToNat, List.reduceReplicate, Int.ofNat_le, List.getElem?_drop, h1]; exact pkf hk (by omega)
theorem l01In_ok {n lo hi : Int} (hk : K (.bool (decide (lo ≤ n ∧ n ≤ hi))) σ) : PCalls Try.prog 93 [.int .i64 n, .int .i64 lo, .int .i64 hi] σ K := by
  refine pcalls_of_vp mix Try.func93 cf93 rfl ?_
  dsimp only [if93, qI, eI, nI, qD, eD]
  by_cases h1 : lo ≤ n
  · simp only [pwA, if_true, if_false, eq_self, nm_eq, reduceCtorEq, ↓reduceIte, Nat.reduceEqDiff, Nat.reduceLeDiff, Nat.reduceBEq, Nat.reduceAdd, Nat.reduceLT, Nat.reduceSub, Nat.reduceMul, Int.reduceEq, Int.reduceLT, Int.reduceLE, Int.reduceNeg, Int.reduceToNat, List.reduceReplicate, Int.ofNat_le, List.getElem?_drop, h1]; exact pke hk ⟨fun x => x.2, fun x => ⟨h1, x⟩⟩
  · simp only [pwA, if_true, if_false, eq_self, nm_eq, reduceCtorEq, ↓reduceIte, Nat.reduceEqDiff, Nat.reduceLeDiff, Nat.reduceBEq, Nat.reduceAdd, Nat.reduceLT, Nat.reduceSub, Nat.reduceMul, Int.reduceEq, Int.reduceLT, Int.reduceLE, Int.reduceNeg, Int.reduceToNat, List.reduceReplicate, Int.ofNat_le, List.getElem?_drop, h1]; exact pkf hk (by omega)
/-- A vector over p of n entries. -/
def isVec (xs : List Int) (p n : Int) : Prop := (xs.length : Int) = n ∧ ∀ x ∈ xs, 0 ≤ x ∧ x ≤ p - 1
instance (xs : List Int) (p n : Int) : Decidable (isVec xs p n) := by unfold isVec; infer_instance
theorem isVector_ok {w : Bool} {a : AV} {xs : List Int} {p n : Int} {l : Nat} (hl : l = xs.length) (hb : xs.length ≤ 4611686018427387904) (hp : 0 < p) (hp2 : p < 4611686018427387904) (hk : K (.bool (decide (isVec xs p n))) σ) :
    PCalls Try.prog 68 [.fz w a l (pis xs), .int .i64 p, .int .i64 n] σ K := by
  subst hl
  refine pcalls_of_vp mix Try.func68 cf68 rfl ?_
  dsimp only [if68, qI, eI, nI, qD, eD]
  simp only [pwA, if_true, if_false, eq_self, nm_eq, reduceCtorEq, ↓reduceIte, Nat.reduceEqDiff, Nat.reduceLeDiff, Nat.reduceBEq, Nat.reduceAdd, Nat.reduceLT, Nat.reduceSub, Nat.reduceMul, Int.reduceEq, Int.reduceLT, Int.reduceLE, Int.reduceNeg, Int.reduceToNat, List.reduceReplicate, Int.ofNat_le, List.getElem?_drop]
  split
  · refine vp_loop (fun m vs h' => ∃ i : Nat, i ≤ xs.length ∧ m = xs.length - i ∧ vs = [.int .i64 p, .fz w a xs.length (pis xs), .int .i64 xs.length, .int .i64 i] ∧ h' = σ ∧ ∀ x ∈ xs.take i, 0 ≤ x ∧ x ≤ p - 1) xs.length ?_ ?_
    · exact ⟨0, by omega, by omega, rfl, rfl, by simp⟩
    · rintro m vs h' ⟨i, hi, rfl, rfl, rfl, hall⟩
      simp only [pwA, if_true, if_false, eq_self, nm_eq, reduceCtorEq, ↓reduceIte, Nat.reduceEqDiff, Nat.reduceLeDiff, Nat.reduceBEq, Nat.reduceAdd, Nat.reduceLT, Nat.reduceSub, Nat.reduceMul, Int.reduceEq, Int.reduceLT, Int.reduceLE, Int.reduceNeg, Int.reduceToNat, List.reduceReplicate, Int.ofNat_le, List.getElem?_drop]
      split
      · rename_i hlt
        have hw1 : IntKind.i64.wrap (p - 1) = p - 1 := wrap64 (by omega) (by omega)
        simp only [pwA, if_true, if_false, eq_self, nm_eq, reduceCtorEq, ↓reduceIte, Nat.reduceEqDiff, Nat.reduceLeDiff, Nat.reduceBEq, Nat.reduceAdd, Nat.reduceLT, Nat.reduceSub, Nat.reduceMul, Int.reduceEq, Int.reduceLT, Int.reduceLE, Int.reduceNeg, Int.reduceToNat, List.reduceReplicate, Int.ofNat_le, List.getElem?_drop, hlt, List.getElem?_drop, pis_get, gi hlt, wrapS hlt hb, hw1]
        refine inside_ok ?_
        simp only [pwA, if_true, if_false, eq_self, nm_eq, reduceCtorEq, ↓reduceIte, Nat.reduceEqDiff, Nat.reduceLeDiff, Nat.reduceBEq, Nat.reduceAdd, Nat.reduceLT, Nat.reduceSub, Nat.reduceMul, Int.reduceEq, Int.reduceLT, Int.reduceLE, Int.reduceNeg, Int.reduceToNat, List.reduceReplicate, Int.ofNat_le, List.getElem?_drop, wrapS hlt hb]
        split
        · exact ⟨_, by omega, i + 1, by omega, rfl, rfl, forall_snoc hlt hall (by assumption)⟩
        · rename_i hn
          exact pkf hk fun hv => hn (hv.2 _ (List.getElem_mem hlt))
      · refine pkt hk ⟨by assumption, forall_all (by omega) hall⟩
  · rename_i hne
    exact pkf hk fun hv => hne hv.1
/-- All entries are 0. -/
def isZ (xs : List Int) : Prop := ∀ x ∈ xs, x = 0
instance (xs : List Int) : Decidable (isZ xs) := by unfold isZ; infer_instance
theorem isZero_ok {w : Bool} {a : AV} {xs : List Int} {l : Nat} (hl : l = xs.length) (hb : xs.length ≤ 4611686018427387904) (hk : K (.bool (decide (isZ xs))) σ) : PCalls Try.prog 86 [.fz w a l (pis xs)] σ K := by
  subst hl
  refine pcalls_of_vp mix Try.func86 cf86 rfl ?_
  dsimp only [if86, qI, eI, nI, qD, eD]
  simp only [pwA, if_true, if_false, eq_self, nm_eq, reduceCtorEq, ↓reduceIte, Nat.reduceEqDiff, Nat.reduceLeDiff, Nat.reduceBEq, Nat.reduceAdd, Nat.reduceLT, Nat.reduceSub, Nat.reduceMul, Int.reduceEq, Int.reduceLT, Int.reduceLE, Int.reduceNeg, Int.reduceToNat, List.reduceReplicate, Int.ofNat_le, List.getElem?_drop]
  refine vp_loop (fun m vs h' => ∃ i : Nat, i ≤ xs.length ∧ m = xs.length - i ∧ vs = [.fz w a xs.length (pis xs), .int .i64 xs.length, .int .i64 i] ∧ h' = σ ∧ ∀ x ∈ xs.take i, x = 0) xs.length ?_ ?_
  · exact ⟨0, by omega, by omega, rfl, rfl, by simp⟩
  · rintro m vs h' ⟨i, hi, rfl, rfl, rfl, hall⟩
    simp only [pwA, if_true, if_false, eq_self, nm_eq, reduceCtorEq, ↓reduceIte, Nat.reduceEqDiff, Nat.reduceLeDiff, Nat.reduceBEq, Nat.reduceAdd, Nat.reduceLT, Nat.reduceSub, Nat.reduceMul, Int.reduceEq, Int.reduceLT, Int.reduceLE, Int.reduceNeg, Int.reduceToNat, List.reduceReplicate, Int.ofNat_le, List.getElem?_drop]
    split
    · rename_i hlt
      simp only [pwA, if_true, if_false, eq_self, nm_eq, reduceCtorEq, ↓reduceIte, Nat.reduceEqDiff, Nat.reduceLeDiff, Nat.reduceBEq, Nat.reduceAdd, Nat.reduceLT, Nat.reduceSub, Nat.reduceMul, Int.reduceEq, Int.reduceLT, Int.reduceLE, Int.reduceNeg, Int.reduceToNat, List.reduceReplicate, Int.ofNat_le, List.getElem?_drop, hlt, List.getElem?_drop, pis_get, gi hlt]
      split
      · rename_i h0
        simp only [pwA, if_true, if_false, eq_self, nm_eq, reduceCtorEq, ↓reduceIte, Nat.reduceEqDiff, Nat.reduceLeDiff, Nat.reduceBEq, Nat.reduceAdd, Nat.reduceLT, Nat.reduceSub, Nat.reduceMul, Int.reduceEq, Int.reduceLT, Int.reduceLE, Int.reduceNeg, Int.reduceToNat, List.reduceReplicate, Int.ofNat_le, List.getElem?_drop, wrapS hlt hb]
        exact ⟨_, by omega, i + 1, by omega, rfl, rfl, forall_snoc hlt hall h0⟩
      · rename_i hn
        exact pkf hk fun hv => hn (hv _ (List.getElem_mem hlt))
    · refine pkt hk (forall_all (by omega) hall)
theorem eqList {xs ys : List Int} (hl : xs.length = ys.length) {i : Nat} (hi : i < xs.length) (h : xs.take i = ys.take i) (he : xs[i] = ys[i]'(by omega)) : xs.take (i + 1) = ys.take (i + 1) := by
  rw [List.take_succ_eq_append_getElem hi, List.take_succ_eq_append_getElem (by omega : i < ys.length), h, he]
theorem l01Same_ok {w w' : Bool} {a a' : AV} {xs ys : List Int} {l : Nat} {l' : Nat} (hl : l = xs.length) (hl' : l' = ys.length) (hb : xs.length ≤ 4611686018427387904) (hk : K (.bool (decide (xs = ys))) σ) : PCalls Try.prog 127 [.fz w a l (pis xs), .fz w' a' l' (pis ys)] σ K := by
  subst hl
  subst hl'
  refine pcalls_of_vp mix Try.func127 cf127 rfl ?_
  dsimp only [if127, qI, eI, nI, qD, eD]
  simp only [pwA, if_true, if_false, eq_self, nm_eq, reduceCtorEq, ↓reduceIte, Nat.reduceEqDiff, Nat.reduceLeDiff, Nat.reduceBEq, Nat.reduceAdd, Nat.reduceLT, Nat.reduceSub, Nat.reduceMul, Int.reduceEq, Int.reduceLT, Int.reduceLE, Int.reduceNeg, Int.reduceToNat, List.reduceReplicate, Int.ofNat_le, List.getElem?_drop]
  split
  · rename_i hl
    have hl : xs.length = ys.length := by omega
    refine vp_loop (fun m vs h' => ∃ i : Nat, i ≤ xs.length ∧ m = xs.length - i ∧ vs = [.fz w a xs.length (pis xs), .fz w' a' ys.length (pis ys), .int .i64 i] ∧ h' = σ ∧ xs.take i = ys.take i) xs.length ?_ ?_
    · exact ⟨0, by omega, by omega, rfl, rfl, by simp⟩
    · rintro m vs h' ⟨i, hi, rfl, rfl, rfl, hall⟩
      simp only [pwA, if_true, if_false, eq_self, nm_eq, reduceCtorEq, ↓reduceIte, Nat.reduceEqDiff, Nat.reduceLeDiff, Nat.reduceBEq, Nat.reduceAdd, Nat.reduceLT, Nat.reduceSub, Nat.reduceMul, Int.reduceEq, Int.reduceLT, Int.reduceLE, Int.reduceNeg, Int.reduceToNat, List.reduceReplicate, Int.ofNat_le, List.getElem?_drop]
      split
      · rename_i hlt
        have hlt2 : i < ys.length := by omega
        simp only [pwA, if_true, if_false, eq_self, nm_eq, reduceCtorEq, ↓reduceIte, Nat.reduceEqDiff, Nat.reduceLeDiff, Nat.reduceBEq, Nat.reduceAdd, Nat.reduceLT, Nat.reduceSub, Nat.reduceMul, Int.reduceEq, Int.reduceLT, Int.reduceLE, Int.reduceNeg, Int.reduceToNat, List.reduceReplicate, Int.ofNat_le, List.getElem?_drop, hlt, hlt2, List.getElem?_drop, pis_get, gi hlt, gi hlt2]
        split
        · rename_i h0
          simp only [pwA, if_true, if_false, eq_self, nm_eq, reduceCtorEq, ↓reduceIte, Nat.reduceEqDiff, Nat.reduceLeDiff, Nat.reduceBEq, Nat.reduceAdd, Nat.reduceLT, Nat.reduceSub, Nat.reduceMul, Int.reduceEq, Int.reduceLT, Int.reduceLE, Int.reduceNeg, Int.reduceToNat, List.reduceReplicate, Int.ofNat_le, List.getElem?_drop, wrapS hlt hb]
          exact ⟨_, by omega, i + 1, by omega, rfl, rfl, eqList hl hlt hall h0⟩
        · rename_i hn
          refine pkf hk fun hv => hn (by subst hv; rfl)
      · refine pkt hk ?_
        rwa [List.take_of_length_le (by omega), List.take_of_length_le (by omega)] at hall
  · rename_i hl
    exact pkf hk fun hv => hl (by rw [hv])
theorem Equal_ok {w w' : Bool} {a a' : AV} {xs ys : List Int} {l : Nat} {l' : Nat} (hl : l = xs.length) (hl' : l' = ys.length) (hb : xs.length ≤ 4611686018427387904) (hk : K (.bool (decide (xs = ys))) σ) : PCalls Try.prog 131 [.fz w a l (pis xs), .fz w' a' l' (pis ys)] σ K := by
  subst hl
  subst hl'
  refine pcalls_of_vp mix Try.func131 cf131 rfl ?_
  dsimp only [if131, qI, eI, nI, qD, eD]
  simp only [pwA, if_true, if_false, eq_self, nm_eq, reduceCtorEq, ↓reduceIte, Nat.reduceEqDiff, Nat.reduceLeDiff, Nat.reduceBEq, Nat.reduceAdd, Nat.reduceLT, Nat.reduceSub, Nat.reduceMul, Int.reduceEq, Int.reduceLT, Int.reduceLE, Int.reduceNeg, Int.reduceToNat, List.reduceReplicate, Int.ofNat_le, List.getElem?_drop]
  split
  · rename_i hl
    have hl : xs.length = ys.length := by omega
    refine vp_loop (fun m vs h' => ∃ i : Nat, i ≤ xs.length ∧ m = xs.length - i ∧ vs = [.fz w a xs.length (pis xs), .fz w' a' ys.length (pis ys), .int .i64 xs.length, .int .i64 i] ∧ h' = σ ∧ xs.take i = ys.take i) xs.length ?_ ?_
    · exact ⟨0, by omega, by omega, rfl, rfl, by simp⟩
    · rintro m vs h' ⟨i, hi, rfl, rfl, rfl, hall⟩
      simp only [pwA, if_true, if_false, eq_self, nm_eq, reduceCtorEq, ↓reduceIte, Nat.reduceEqDiff, Nat.reduceLeDiff, Nat.reduceBEq, Nat.reduceAdd, Nat.reduceLT, Nat.reduceSub, Nat.reduceMul, Int.reduceEq, Int.reduceLT, Int.reduceLE, Int.reduceNeg, Int.reduceToNat, List.reduceReplicate, Int.ofNat_le, List.getElem?_drop]
      split
      · rename_i hlt
        have hlt2 : i < ys.length := by omega
        simp only [pwA, if_true, if_false, eq_self, nm_eq, reduceCtorEq, ↓reduceIte, Nat.reduceEqDiff, Nat.reduceLeDiff, Nat.reduceBEq, Nat.reduceAdd, Nat.reduceLT, Nat.reduceSub, Nat.reduceMul, Int.reduceEq, Int.reduceLT, Int.reduceLE, Int.reduceNeg, Int.reduceToNat, List.reduceReplicate, Int.ofNat_le, List.getElem?_drop, hlt, hlt2, List.getElem?_drop, pis_get, gi hlt, gi hlt2]
        split
        · rename_i h0
          simp only [pwA, if_true, if_false, eq_self, nm_eq, reduceCtorEq, ↓reduceIte, Nat.reduceEqDiff, Nat.reduceLeDiff, Nat.reduceBEq, Nat.reduceAdd, Nat.reduceLT, Nat.reduceSub, Nat.reduceMul, Int.reduceEq, Int.reduceLT, Int.reduceLE, Int.reduceNeg, Int.reduceToNat, List.reduceReplicate, Int.ofNat_le, List.getElem?_drop, wrapS hlt hb]
          exact ⟨_, by omega, i + 1, by omega, rfl, rfl, eqList hl hlt hall h0⟩
        · rename_i hn
          refine pkf hk fun hv => hn (by subst hv; rfl)
      · refine pkt hk ?_
        rwa [List.take_of_length_le (by omega), List.take_of_length_le (by omega)] at hall
  · rename_i hl
    exact pkf hk fun hv => hl (by rw [hv])
def isP (n : Int) : Prop := n = 2 ∨ n = 3 ∨ n = 5 ∨ n = 7
instance (n : Int) : Decidable (isP n) := by unfold isP; infer_instance
theorem isP.bd {n : Int} (hp : isP n) : 2 ≤ n ∧ n ≤ 7 := by unfold isP at hp; omega
theorem l01Prime_ok {n : Int} (hk : K (.bool (decide (isP n))) σ) : PCalls Try.prog 98 [.int .i64 n] σ K := by
  refine pcalls_of_vp mix Try.func98 cf98 rfl ?_
  dsimp only [if98, qI, eI, nI, qD, eD]
  by_cases h2 : n = 2
  · simp only [pwA, if_true, if_false, eq_self, nm_eq, reduceCtorEq, ↓reduceIte, Nat.reduceEqDiff, Nat.reduceLeDiff, Nat.reduceBEq, Nat.reduceAdd, Nat.reduceLT, Nat.reduceSub, Nat.reduceMul, Int.reduceEq, Int.reduceLT, Int.reduceLE, Int.reduceNeg, Int.reduceToNat, List.reduceReplicate, Int.ofNat_le, List.getElem?_drop, h2]; exact pkt hk (by unfold isP; omega)
  by_cases h3 : n = 3
  · simp only [pwA, if_true, if_false, eq_self, nm_eq, reduceCtorEq, ↓reduceIte, Nat.reduceEqDiff, Nat.reduceLeDiff, Nat.reduceBEq, Nat.reduceAdd, Nat.reduceLT, Nat.reduceSub, Nat.reduceMul, Int.reduceEq, Int.reduceLT, Int.reduceLE, Int.reduceNeg, Int.reduceToNat, List.reduceReplicate, Int.ofNat_le, List.getElem?_drop, h3]; exact pkt hk (by unfold isP; omega)
  by_cases h5 : n = 5
  · simp only [pwA, if_true, if_false, eq_self, nm_eq, reduceCtorEq, ↓reduceIte, Nat.reduceEqDiff, Nat.reduceLeDiff, Nat.reduceBEq, Nat.reduceAdd, Nat.reduceLT, Nat.reduceSub, Nat.reduceMul, Int.reduceEq, Int.reduceLT, Int.reduceLE, Int.reduceNeg, Int.reduceToNat, List.reduceReplicate, Int.ofNat_le, List.getElem?_drop, h5]; exact pkt hk (by unfold isP; omega)
  by_cases h7 : n = 7
  · simp only [pwA, if_true, if_false, eq_self, nm_eq, reduceCtorEq, ↓reduceIte, Nat.reduceEqDiff, Nat.reduceLeDiff, Nat.reduceBEq, Nat.reduceAdd, Nat.reduceLT, Nat.reduceSub, Nat.reduceMul, Int.reduceEq, Int.reduceLT, Int.reduceLE, Int.reduceNeg, Int.reduceToNat, List.reduceReplicate, Int.ofNat_le, List.getElem?_drop, h7]; exact pkt hk (by unfold isP; omega)
  simp only [pwA, if_true, if_false, eq_self, nm_eq, reduceCtorEq, ↓reduceIte, Nat.reduceEqDiff, Nat.reduceLeDiff, Nat.reduceBEq, Nat.reduceAdd, Nat.reduceLT, Nat.reduceSub, Nat.reduceMul, Int.reduceEq, Int.reduceLT, Int.reduceLE, Int.reduceNeg, Int.reduceToNat, List.reduceReplicate, Int.ofNat_le, List.getElem?_drop, h2, h3, h5, h7]
  exact pkf hk (by unfold isP; omega)
theorem IsGroupPrime_ok {n : Int} (hk : K (.bool (decide (isP n))) σ) : PCalls Try.prog 104 [.int .i64 n] σ K := by
  refine pcalls_of_vp mix Try.func104 cf104 rfl ?_
  dsimp only [if104, qI, eI, nI, qD, eD]
  by_cases h2 : n = 2
  · simp only [pwA, if_true, if_false, eq_self, nm_eq, reduceCtorEq, ↓reduceIte, Nat.reduceEqDiff, Nat.reduceLeDiff, Nat.reduceBEq, Nat.reduceAdd, Nat.reduceLT, Nat.reduceSub, Nat.reduceMul, Int.reduceEq, Int.reduceLT, Int.reduceLE, Int.reduceNeg, Int.reduceToNat, List.reduceReplicate, Int.ofNat_le, List.getElem?_drop, h2]; exact pkt hk (by unfold isP; omega)
  by_cases h3 : n = 3
  · simp only [pwA, if_true, if_false, eq_self, nm_eq, reduceCtorEq, ↓reduceIte, Nat.reduceEqDiff, Nat.reduceLeDiff, Nat.reduceBEq, Nat.reduceAdd, Nat.reduceLT, Nat.reduceSub, Nat.reduceMul, Int.reduceEq, Int.reduceLT, Int.reduceLE, Int.reduceNeg, Int.reduceToNat, List.reduceReplicate, Int.ofNat_le, List.getElem?_drop, h3]; exact pkt hk (by unfold isP; omega)
  by_cases h5 : n = 5
  · simp only [pwA, if_true, if_false, eq_self, nm_eq, reduceCtorEq, ↓reduceIte, Nat.reduceEqDiff, Nat.reduceLeDiff, Nat.reduceBEq, Nat.reduceAdd, Nat.reduceLT, Nat.reduceSub, Nat.reduceMul, Int.reduceEq, Int.reduceLT, Int.reduceLE, Int.reduceNeg, Int.reduceToNat, List.reduceReplicate, Int.ofNat_le, List.getElem?_drop, h5]; exact pkt hk (by unfold isP; omega)
  by_cases h7 : n = 7
  · simp only [pwA, if_true, if_false, eq_self, nm_eq, reduceCtorEq, ↓reduceIte, Nat.reduceEqDiff, Nat.reduceLeDiff, Nat.reduceBEq, Nat.reduceAdd, Nat.reduceLT, Nat.reduceSub, Nat.reduceMul, Int.reduceEq, Int.reduceLT, Int.reduceLE, Int.reduceNeg, Int.reduceToNat, List.reduceReplicate, Int.ofNat_le, List.getElem?_drop, h7]; exact pkt hk (by unfold isP; omega)
  simp only [pwA, if_true, if_false, eq_self, nm_eq, reduceCtorEq, ↓reduceIte, Nat.reduceEqDiff, Nat.reduceLeDiff, Nat.reduceBEq, Nat.reduceAdd, Nat.reduceLT, Nat.reduceSub, Nat.reduceMul, Int.reduceEq, Int.reduceLT, Int.reduceLE, Int.reduceNeg, Int.reduceToNat, List.reduceReplicate, Int.ofNat_le, List.getElem?_drop, h2, h3, h5, h7]
  exact pkf hk (by unfold isP; omega)
theorem emod_tmod (x p : Int) (hp : 0 < p) : (x.tmod p + p).tmod p = x % p := by
  have h1 := Int.tmod_lt_of_pos x hp
  have h2 := Int.lt_tmod_of_pos x hp
  rw [Int.tmod_eq_emod_of_nonneg (by omega), Int.add_emod_right]
  rcases Int.le_total 0 x with h0 | h0
  · rw [Int.tmod_eq_emod_of_nonneg h0, Int.emod_emod_of_dvd _ (Int.dvd_refl p)]
  · obtain ⟨y, rfl⟩ : ∃ y, x = -y := ⟨-x, by omega⟩
    rw [Int.neg_tmod, Int.tmod_eq_emod_of_nonneg (by omega)]
    have e := Int.emod_add_mul_ediv y p
    have : -y = -(y % p) + p * (-(y / p)) := by rw [Int.mul_neg]; omega
    rw [this, Int.add_mul_emod_self_left]
theorem residue_ok {x p : Int} (hp : 0 < p) (hp2 : p < 4611686018427387904) (hk : K (.int .i64 (x % p)) σ) : PCalls Try.prog 132 [.int .i64 x, .int .i64 p] σ K := by
  refine pcalls_of_vp mix Try.func132 cf132 rfl ?_
  dsimp only [if132, qI, eI, nI, qD, eD]
  have hp0 : p ≠ 0 := by omega
  have h1 := Int.tmod_lt_of_pos x hp
  have h2 := Int.lt_tmod_of_pos x hp
  have hw : IntKind.i64.wrap (x.tmod p + p) = x.tmod p + p := wrap64 (by omega) (by omega)
  have he := emod_tmod x p hp
  simp only [pwA, if_true, if_false, eq_self, nm_eq, reduceCtorEq, ↓reduceIte, Nat.reduceEqDiff, Nat.reduceLeDiff, Nat.reduceBEq, Nat.reduceAdd, Nat.reduceLT, Nat.reduceSub, Nat.reduceMul, Int.reduceEq, Int.reduceLT, Int.reduceLE, Int.reduceNeg, Int.reduceToNat, List.reduceReplicate, Int.ofNat_le, List.getElem?_drop, hp0, hw, he]
  exact hk
/-- A copy in new memory. -/
theorem l01Own_ok {w : Bool} {a : AV} {xs : List Int} {l : Nat} (hl : l = xs.length) (hb : xs.length ≤ 4294967296) (hk : ∀ cap, full 1 cap xs.length → K (.sl σ.next 0 xs.length cap) (σ.new (pis xs))) : PCalls Try.prog 133 [.fz w a l (pis xs)] σ K := by
  subst hl
  refine PCalls.gh ?_
  refine pcalls_of_vp mix Try.func133 cf133 rfl ?_
  dsimp only [if133, qI, eI, nI, qD, eD]
  simp only [pwA, if_true, if_false, eq_self, nm_eq, reduceCtorEq, ↓reduceIte, Nat.reduceEqDiff, Nat.reduceLeDiff, Nat.reduceBEq, Nat.reduceAdd, Nat.reduceLT, Nat.reduceSub, Nat.reduceMul, Int.reduceEq, Int.reduceLT, Int.reduceLE, Int.reduceNeg, Int.reduceToNat, List.reduceReplicate, Int.ofNat_le, List.getElem?_drop]
  refine PSl.cat (bytes := 8) (σb := σ) (n := 0) (cs := []) (keep_new σ _) (PSl.new _ 1 rfl (Nat.le_refl _)) (pis_length xs) (by omega) (by omega) fun v' h' hk' ha => ?_
  simp only [pwA, if_true, if_false, eq_self, nm_eq, reduceCtorEq, ↓reduceIte, Nat.reduceEqDiff, Nat.reduceLeDiff, Nat.reduceBEq, Nat.reduceAdd, Nat.reduceLT, Nat.reduceSub, Nat.reduceMul, Int.reduceEq, Int.reduceLT, Int.reduceLE, Int.reduceNeg, Int.reduceToNat, List.reduceReplicate, Int.ofNat_le, List.getElem?_drop] at ha ⊢
  exact ha.out hk' (pis_bel _ _) hk
theorem Clone_ok {w : Bool} {a : AV} {xs : List Int} {l : Nat} (hl : l = xs.length) (hb : xs.length ≤ 4294967296) (hk : ResI σ K xs) : PCalls Try.prog 153 [.fz w a l (pis xs)] σ K := by
  subst hl
  refine PCalls.nil0 fun hnil => PCalls.gh ?_
  refine pcalls_of_vp mix Try.func153 cf153 rfl ?_
  dsimp only [if153, qI, eI, nI, qD, eD]
  simp only [pwA, if_true, if_false, eq_self, nm_eq, reduceCtorEq, ↓reduceIte, Nat.reduceEqDiff, Nat.reduceLeDiff, Nat.reduceBEq, Nat.reduceAdd, Nat.reduceLT, Nat.reduceSub, Nat.reduceMul, Int.reduceEq, Int.reduceLT, Int.reduceLE, Int.reduceNeg, Int.reduceToNat, List.reduceReplicate, Int.ofNat_le, List.getElem?_drop]
  cases hn : isNils a
  · simp only [pwA, if_true, if_false, eq_self, nm_eq, reduceCtorEq, ↓reduceIte, Nat.reduceEqDiff, Nat.reduceLeDiff, Nat.reduceBEq, Nat.reduceAdd, Nat.reduceLT, Nat.reduceSub, Nat.reduceMul, Int.reduceEq, Int.reduceLT, Int.reduceLE, Int.reduceNeg, Int.reduceToNat, List.reduceReplicate, Int.ofNat_le, List.getElem?_drop]
    refine PSl.cat (bytes := 8) (σb := σ) (n := 0) (cs := []) (keep_new σ _) (PSl.new _ 1 rfl (Nat.le_refl _)) (pis_length xs) (by omega) (by omega) fun v' h' hk' ha => ?_
    simp only [pwA, if_true, if_false, eq_self, nm_eq, reduceCtorEq, ↓reduceIte, Nat.reduceEqDiff, Nat.reduceLeDiff, Nat.reduceBEq, Nat.reduceAdd, Nat.reduceLT, Nat.reduceSub, Nat.reduceMul, Int.reduceEq, Int.reduceLT, Int.reduceLE, Int.reduceNeg, Int.reduceToNat, List.reduceReplicate, Int.ofNat_le, List.getElem?_drop] at ha ⊢
    exact ha.out hk' (pis_bel _ _) hk.2
  · simp only [pwA, if_true, if_false, eq_self, nm_eq, reduceCtorEq, ↓reduceIte, Nat.reduceEqDiff, Nat.reduceLeDiff, Nat.reduceBEq, Nat.reduceAdd, Nat.reduceLT, Nat.reduceSub, Nat.reduceMul, Int.reduceEq, Int.reduceLT, Int.reduceLE, Int.reduceNeg, Int.reduceToNat, List.reduceReplicate, Int.ofNat_le, List.getElem?_drop]
    exact Gh.ret (hk.1 (List.eq_nil_of_length_eq_zero (hnil hn).1))
/-- A vector with one entry 1. -/
def unitL (n k : Nat) : List Int := (List.replicate n 0).set k 1
theorem unitL_length (n k : Nat) : (unitL n k).length = n := by simp [unitL]
theorem unitVector_ok {n k : Nat} (hn : n ≤ 1048576) (hkn : k < n) (hk : ∀ cap, full 1 cap n → K (.sl σ.next 0 n cap) (σ.new (pis (unitL n k)))) : PCalls Try.prog 146 [.int .i64 n, .int .i64 k] σ K := by
  refine pcalls_of_vp mix Try.func146 cf146 rfl ?_
  dsimp only [if146, qI, eI, nI, qD, eD]
  simp only [pwA, if_true, if_false, eq_self, nm_eq, reduceCtorEq, ↓reduceIte, Nat.reduceEqDiff, Nat.reduceLeDiff, Nat.reduceBEq, Nat.reduceAdd, Nat.reduceLT, Nat.reduceSub, Nat.reduceMul, Int.reduceEq, Int.reduceLT, Int.reduceLE, Int.reduceNeg, Int.reduceToNat, List.reduceReplicate, Int.ofNat_le, List.getElem?_drop, hkn, List.length_replicate, pis_rep, pis_length, mk8 (n := n) (by omega), mkL (n := n) (by omega), Nat.succ_le_of_lt hkn]
  rw [pis_set_at (by simpa using hkn)]
  exact hk _ (.inr rfl)
end Go.Proofs
set_option linter.unusedVariables false
set_option linter.unusedSimpArgs false
namespace Go.Lie
open Go.Ab
/-- The entry at a place, 0 beyond the end. -/
abbrev at_ (v : List Int) (j : Nat) : Int := v.getD j 0
theorem at_eq {v : List Int} {j : Nat} (h : j < v.length) : at_ v j = v[j] := by simp [at_, List.getD_eq_getElem?_getD, List.getElem?_eq_getElem h]
theorem at_ge {v : List Int} {j : Nat} (h : v.length ≤ j) : at_ v j = 0 := by simp [at_, List.getD_eq_getElem?_getD, List.getElem?_eq_none h]
theorem ext_at {a b : List Int} (hl : a.length = b.length) (h : ∀ j, j < a.length → at_ a j = at_ b j) : a = b := by
  apply List.ext_getElem hl
  intro j h1 h2
  have := h j h1
  rwa [at_eq h1, at_eq h2] at this
theorem at_set {v : List Int} {i : Nat} (hi : i < v.length) (x : Int) (j : Nat) : at_ (v.set i x) j = if j = i then x else at_ v j := by
  simp only [at_, List.getD_eq_getElem?_getD, List.getElem?_set]
  by_cases h : i = j
  · subst h; simp [hi]
  · rw [if_neg h, if_neg (fun e => h e.symm)]
theorem at_rep (n : Nat) (j : Nat) : at_ (List.replicate n 0) j = 0 := by
  simp only [at_, List.getD_eq_getElem?_getD, List.getElem?_replicate]
  split <;> rfl
/-- Sum of two lists, the second times q. -/
def addm (q : Int) (xs ys : List Int) : List Int := List.zipWith (fun x y => x + q * y) xs ys
/-- Entries no greater than M. -/
def bd (M : Int) (v : List Int) : Prop := ∀ j, -M ≤ at_ v j ∧ at_ v j ≤ M
/-- Entries from 0 to p - 1. -/
def box (p : Int) (v : List Int) : Prop := ∀ x ∈ v, 0 ≤ x ∧ x ≤ p - 1
variable {p : Int} {n : Nat} {W : List (List Int)}
/-- One step of the normal form. -/
def nstep (p : Int) (W : List (List Int)) (i : Nat) (v : List Int) : List Int := addm (at_ v i / p) (v.set i (at_ v i - at_ v i / p * p)) (W.getD i [])
/-- The first k steps. -/
def nrm (p : Int) (W : List (List Int)) : Nat → List Int → List Int
  | 0, v => v
  | k + 1, v => nstep p W k (nrm p W k v)
/-- The normal form. -/
def norm (p : Int) (W : List (List Int)) (v : List Int) : List Int := nrm p W W.length v
/-- Entry of the row of a generator. -/
abbrev w_ (W : List (List Int)) (i j : Nat) : Int := at_ (W.getD i []) j
theorem getD_row {i : Nat} (h : i < W.length) : W.getD i [] = W[i] := by simp [List.getD_eq_getElem?_getD, List.getElem?_eq_getElem h]
/-- A sum of n terms. -/
def sumN : Nat → (Nat → Int) → Int
  | 0, _ => 0
  | n + 1, f => sumN n f + f n
theorem sumN_congr : ∀ {n : Nat} {f g : Nat → Int}, (∀ i, i < n → f i = g i) → sumN n f = sumN n g
  | 0, _, _, _ => rfl
  | n + 1, f, g, h => by simp only [sumN]; rw [sumN_congr (fun i hi => h i (by omega)), h n (by omega)]
theorem sumN_add : ∀ (n : Nat) (f g : Nat → Int), sumN n (fun i => f i + g i) = sumN n f + sumN n g
  | 0, _, _ => rfl
  | n + 1, f, g => by simp only [sumN]; rw [sumN_add n f g]; omega
theorem sumN_mul (k : Int) : ∀ (n : Nat) (f : Nat → Int), sumN n (fun i => k * f i) = k * sumN n f
  | 0, _ => by simp [sumN]
  | n + 1, f => by simp only [sumN]; rw [sumN_mul k n f, Int.mul_add]
theorem sumN_zero : ∀ (n : Nat) {f : Nat → Int}, (∀ i, i < n → f i = 0) → sumN n f = 0
  | 0, _, _ => rfl
  | n + 1, f, h => by simp only [sumN]; rw [sumN_zero n (fun i hi => h i (by omega)), h n (by omega)]; rfl
theorem sumN_one {n k : Nat} (hk : k < n) {f : Nat → Int} (h : ∀ i, i < n → i ≠ k → f i = 0) : sumN n f = f k := by
  induction n with
  | zero => omega
  | succ n ih =>
    simp only [sumN]
    by_cases e : k = n
    · subst e
      rw [sumN_zero k (fun i hi => h i (by omega) (by omega))]
      omega
    · rw [ih (by omega) (fun i hi hne => h i (by omega) hne), h n (by omega) (fun e' => e e'.symm)]
      omega
/-- The relation that generator i gives. -/
abbrev rel (p : Int) (W : List (List Int)) (i j : Nat) : Int := w_ W i j - if j = i then p else 0
end Go.Lie
set_option linter.unusedSimpArgs false
set_option linter.unusedVariables false
namespace Go.Proofs
open Go.Ab Go.Lie
variable {σ : PHeap} {K : PV → PHeap → Prop} {p : Int} {n : Nat} {W : List (List Int)} {B : List (List (List Int))} {vP vB : PV} {s : Nat}
/-- A ring's pointer. -/
structure PtrR (σ : PHeap) (s : Nat) (p : Int) (vP vB : PV) : Prop where
  obj : σ.obj s = some [.int .i64 p, vP, vB]
  lt : s < σ.next
theorem PtrR.new (h : PtrR σ s p vP vB) (cs : List PV) : PtrR (σ.new cs) s p vP vB := ⟨by have := h.lt; simp only [pwA, if_true, if_false, eq_self, nm_eq, reduceCtorEq, ↓reduceIte, Nat.reduceEqDiff, Nat.reduceLeDiff, Nat.reduceBEq, Nat.reduceAdd, Nat.reduceLT, Nat.reduceSub, Nat.reduceMul, Int.reduceEq, Int.reduceLT, Int.reduceLE, Int.reduceNeg, Int.reduceToNat, List.reduceReplicate, Int.ofNat_le, List.getElem?_drop, Nat.ne_of_lt this]; exact h.obj, by have := h.lt; simp only [pwA, if_true, if_false, eq_self, nm_eq, reduceCtorEq, ↓reduceIte, Nat.reduceEqDiff, Nat.reduceLeDiff, Nat.reduceBEq, Nat.reduceAdd, Nat.reduceLT, Nat.reduceSub, Nat.reduceMul, Int.reduceEq, Int.reduceLT, Int.reduceLE, Int.reduceNeg, Int.reduceToNat, List.reduceReplicate, Int.ofNat_le, List.getElem?_drop]; omega⟩
/-- The coefficient of the bracket of generators i and j. -/
def coef (a b : List Int) (i j : Nat) : Int := at_ a i * at_ b j - at_ a j * at_ b i
/-- The first k brackets of a generator, added. -/
def bk (row : List (List Int)) (a b : List Int) (i : Nat) : Nat → List Int → List Int
  | 0, acc => acc
  | k + 1, acc => addm (coef a b i (i + 1 + k)) (bk row a b i k acc) (row.getD k [])
/-- The brackets of the first i generators, added. -/
def bi (B : List (List (List Int))) (a b : List Int) (n : Nat) : Nat → List Int
  | 0 => List.replicate n 0
  | i + 1 => bk (B.getD i []) a b i (n - 1 - i) (bi B a b n i)
/-- The bracket of two combinations, as a combination. -/
def bsum (B : List (List (List Int))) (a b : List Int) (n : Nat) : List Int := bi B a b n n
theorem getD_row' {α : Type} {B : List (List α)} {i : Nat} (h : i < B.length) : B.getD i [] = B[i] := by simp [List.getD_eq_getElem?_getD, List.getElem?_eq_getElem h]
end Go.Proofs
set_option linter.unusedSimpArgs false
set_option linter.unusedVariables false
namespace Go.Proofs
open Go.Ab Go.Lie
variable {σ : PHeap} {K : PV → PHeap → Prop} {p : Int} {n : Nat} {W : List (List Int)} {B : List (List (List Int))} {vP vB : PV} {s : Nat}
/-- The bracket of two elements. -/
abbrev br (p : Int) (W : List (List Int)) (B : List (List (List Int))) (n : Nat) (a b : List Int) : List Int := norm p W (bsum B a b n)
theorem unitVector_fz {k : Nat} (hn : n ≤ 1048576) (hkn : k < n) (hk : ∀ a, K (.fz true a n (pis (unitL n k))) σ) : PCalls Try.prog 146 [.int .i64 n, .int .i64 k] σ K :=
  PCalls.fz (fun K' => unitVector_ok hn hkn) (pis_bel _ _) fun o cap => hk _
end Go.Proofs
set_option linter.unusedSimpArgs false
set_option linter.unusedVariables false
namespace Go.Proofs
open Go.Ab Go.Lie
variable {σ : PHeap} {K : PV → PHeap → Prop} {p : Int} {n : Nat} {W : List (List Int)} {B : List (List (List Int))} {vP vB vL : PV} {s : Nat}
/-- Sizes of a list. -/
structure SzL (xs : List (List Int)) : Prop where
  l : xs.length ≤ 1048576
  r : ∀ x ∈ xs, x.length ≤ 1048576
/-- The first i images, each times its coefficient, added. -/
def csum (im : List (List Int)) (c : List Int) (n : Nat) : Nat → List Int
  | 0 => List.replicate n 0
  | i + 1 => addm (at_ c i) (csum im c n i) (im.getD i [])
end Go.Proofs
set_option linter.unusedSimpArgs false
set_option linter.unusedVariables false
namespace Go.Proofs
open Go.Ab Go.Lie
variable {σ : PHeap} {K : PV → PHeap → Prop} {p p' : Int} {n : Nat} {W W' : List (List Int)} {B B' : List (List (List Int))} {vP vB vP' vB' vL : PV} {s s' : Nat} {im : List (List Int)}
/-- The image of a combination. -/
abbrev img (p : Int) (W' : List (List Int)) (im : List (List Int)) (c : List Int) : List Int := norm p W' (csum im c W'.length c.length)
end Go.Proofs
set_option linter.unusedSimpArgs false
set_option linter.unusedVariables false
namespace Go.Proofs
open Go.Ab Go.Lie
variable {σ : PHeap} {K : PV → PHeap → Prop} {p p' : Int} {n : Nat} {W W' : List (List Int)} {B B' : List (List (List Int))} {vP vB vP' vB' vL vL' : PV}
/-- The rest of what a law allows. -/
def left_ (l : Int) : Prop := 0 ≤ l ∧ l ≤ 1048576
theorem szInt64S_ok {l : Int} {xs : List Int} {v : PV} (hI : FI v xs) (hb : xs.length ≤ 9223372036854775807) (hl : left_ l) (hk : ∀ r : Int, (r = -1 ∨ (left_ r ∧ xs.length ≤ 1048576)) → K (.int .i64 r) σ) : PCalls Try.prog 56 [v, .int .i64 l] σ K := by
  obtain ⟨w, a, rfl⟩ := hI
  unfold left_ at hl
  refine pcalls_of_vp mix Try.func56 cf56 rfl ?_
  dsimp only [if56, qI, eI, nI, qD, eD]
  simp only [pwA, if_true, if_false, eq_self, nm_eq, reduceCtorEq, ↓reduceIte, Nat.reduceEqDiff, Nat.reduceLeDiff, Nat.reduceBEq, Nat.reduceAdd, Nat.reduceLT, Nat.reduceSub, Nat.reduceMul, Int.reduceEq, Int.reduceLT, Int.reduceLE, Int.reduceNeg, Int.reduceToNat, List.reduceReplicate, Int.ofNat_le, List.getElem?_drop, wrap64 (n := l - (xs.length : Int)) (by omega) (by omega)]
  refine iteI (fun h => ?_) fun h => ?_
  · exact hk _ (.inl rfl)
  · exact hk _ (.inr ⟨by unfold left_; omega, by omega⟩)
theorem szInt64SS_ok {l : Int} {xs : List (List Int)} {v : PV} (hI : FII v xs) (hb : xs.length ≤ 9223372036854775807) (hb2 : ∀ x ∈ xs, x.length ≤ 9223372036854775807) (hl : left_ l) (hk : ∀ r : Int, (r = -1 ∨ (left_ r ∧ SzL xs)) → K (.int .i64 r) σ) : PCalls Try.prog 45 [v, .int .i64 l] σ K := by
  obtain ⟨w, a, rs, rfl, hr⟩ := hI
  have hl' := hl
  unfold left_ at hl
  refine pcalls_of_vp mix Try.func45 cf45 rfl ?_
  dsimp only [if45, qI, eI, nI, qD, eD]
  simp only [pwA, if_true, if_false, eq_self, nm_eq, reduceCtorEq, ↓reduceIte, Nat.reduceEqDiff, Nat.reduceLeDiff, Nat.reduceBEq, Nat.reduceAdd, Nat.reduceLT, Nat.reduceSub, Nat.reduceMul, Int.reduceEq, Int.reduceLT, Int.reduceLE, Int.reduceNeg, Int.reduceToNat, List.reduceReplicate, Int.ofNat_le, List.getElem?_drop, wrap64 (n := l - (xs.length : Int)) (by omega) (by omega)]
  refine iteI (fun h => ?_) fun h => ?_
  · exact hk _ (.inl rfl)
  refine vp_loop (fun m vs h' => ∃ i : Nat, i ≤ xs.length ∧ m = xs.length - i ∧ ∃ r : Int, left_ r ∧ vs = [.fz w a xs.length rs, .int .i64 r, .int .i64 i] ∧ σ = h' ∧ ∀ x ∈ xs.take i, x.length ≤ 1048576) xs.length ?_ ?_
  · exact ⟨0, by omega, by omega, _, (by unfold left_; omega), rfl, rfl, by simp⟩
  rintro m vs h' ⟨i, hi, rfl, r, hr', rfl, rfl, hall⟩
  simp only [pwA, if_true, if_false, eq_self, nm_eq, reduceCtorEq, ↓reduceIte, Nat.reduceEqDiff, Nat.reduceLeDiff, Nat.reduceBEq, Nat.reduceAdd, Nat.reduceLT, Nat.reduceSub, Nat.reduceMul, Int.reduceEq, Int.reduceLT, Int.reduceLE, Int.reduceNeg, Int.reduceToNat, List.reduceReplicate, Int.ofNat_le, List.getElem?_drop]
  refine iteI (fun hlt => ?_) fun hge => ?_
  rotate_left
  · exact hk _ (.inr ⟨hr', by omega, forall_all (by omega) hall⟩)
  obtain ⟨w4, a4, hrk⟩ := hr.rowI hlt
  simp only [pwA, if_true, if_false, eq_self, nm_eq, reduceCtorEq, ↓reduceIte, Nat.reduceEqDiff, Nat.reduceLeDiff, Nat.reduceBEq, Nat.reduceAdd, Nat.reduceLT, Nat.reduceSub, Nat.reduceMul, Int.reduceEq, Int.reduceLT, Int.reduceLE, Int.reduceNeg, Int.reduceToNat, List.reduceReplicate, Int.ofNat_le, List.getElem?_drop, hlt, hrk, List.getElem?_drop]
  refine szInt64S_ok ⟨_, _, rfl⟩ (hb2 _ (List.getElem_mem hlt)) hr' fun r' h => ?_
  rcases h with rfl | ⟨h1, h2⟩
  · simp only [pwA, if_true, if_false, eq_self, nm_eq, reduceCtorEq, ↓reduceIte, Nat.reduceEqDiff, Nat.reduceLeDiff, Nat.reduceBEq, Nat.reduceAdd, Nat.reduceLT, Nat.reduceSub, Nat.reduceMul, Int.reduceEq, Int.reduceLT, Int.reduceLE, Int.reduceNeg, Int.reduceToNat, List.reduceReplicate, Int.ofNat_le, List.getElem?_drop]
    exact hk _ (.inl rfl)
  · have : ¬ r' < 0 := by unfold left_ at h1; omega
    simp only [pwA, if_true, if_false, eq_self, nm_eq, reduceCtorEq, ↓reduceIte, Nat.reduceEqDiff, Nat.reduceLeDiff, Nat.reduceBEq, Nat.reduceAdd, Nat.reduceLT, Nat.reduceSub, Nat.reduceMul, Int.reduceEq, Int.reduceLT, Int.reduceLE, Int.reduceNeg, Int.reduceToNat, List.reduceReplicate, Int.ofNat_le, List.getElem?_drop, this, wrapS hlt (by omega : xs.length ≤ 4611686018427387904)]
    exact ⟨_, by omega, i + 1, by omega, rfl, _, h1, rfl, forallA_snoc hlt hall h2⟩
/-- Sizes of a list of lists of lists. -/
structure SzM (B : List (List (List Int))) : Prop where
  l : B.length ≤ 1048576
  r : ∀ q ∈ B, SzL q
theorem szInt64SSS_ok {l : Int} {xs : List (List (List Int))} {v : PV} (hI : FIII v xs) (hb : xs.length ≤ 9223372036854775807) (hb2 : ∀ q ∈ xs, q.length ≤ 9223372036854775807 ∧ ∀ x ∈ q, x.length ≤ 9223372036854775807) (hl : left_ l) (hk : ∀ r : Int, (r = -1 ∨ (left_ r ∧ SzM xs)) → K (.int .i64 r) σ) : PCalls Try.prog 57 [v, .int .i64 l] σ K := by
  obtain ⟨w, a, rs, rfl, hr⟩ := hI
  have hl' := hl
  unfold left_ at hl
  refine pcalls_of_vp mix Try.func57 cf57 rfl ?_
  dsimp only [if57, qI, eI, nI, qD, eD]
  simp only [pwA, if_true, if_false, eq_self, nm_eq, reduceCtorEq, ↓reduceIte, Nat.reduceEqDiff, Nat.reduceLeDiff, Nat.reduceBEq, Nat.reduceAdd, Nat.reduceLT, Nat.reduceSub, Nat.reduceMul, Int.reduceEq, Int.reduceLT, Int.reduceLE, Int.reduceNeg, Int.reduceToNat, List.reduceReplicate, Int.ofNat_le, List.getElem?_drop, wrap64 (n := l - (xs.length : Int)) (by omega) (by omega)]
  refine iteI (fun h => ?_) fun h => ?_
  · exact hk _ (.inl rfl)
  refine vp_loop (fun m vs h' => ∃ i : Nat, i ≤ xs.length ∧ m = xs.length - i ∧ ∃ r : Int, left_ r ∧ vs = [.fz w a xs.length rs, .int .i64 r, .int .i64 i] ∧ σ = h' ∧ ∀ x ∈ xs.take i, SzL x) xs.length ?_ ?_
  · exact ⟨0, by omega, by omega, _, (by unfold left_; omega), rfl, rfl, by simp⟩
  rintro m vs h' ⟨i, hi, rfl, r, hr', rfl, rfl, hall⟩
  simp only [pwA, if_true, if_false, eq_self, nm_eq, reduceCtorEq, ↓reduceIte, Nat.reduceEqDiff, Nat.reduceLeDiff, Nat.reduceBEq, Nat.reduceAdd, Nat.reduceLT, Nat.reduceSub, Nat.reduceMul, Int.reduceEq, Int.reduceLT, Int.reduceLE, Int.reduceNeg, Int.reduceToNat, List.reduceReplicate, Int.ofNat_le, List.getElem?_drop]
  refine iteI (fun hlt => ?_) fun hge => ?_
  rotate_left
  · exact hk _ (.inr ⟨hr', by omega, forall_all (by omega) hall⟩)
  obtain ⟨w4, a4, rk, hrk, hrs⟩ := hr.rowL hlt
  have hbi := hb2 _ (List.getElem_mem hlt)
  simp only [pwA, if_true, if_false, eq_self, nm_eq, reduceCtorEq, ↓reduceIte, Nat.reduceEqDiff, Nat.reduceLeDiff, Nat.reduceBEq, Nat.reduceAdd, Nat.reduceLT, Nat.reduceSub, Nat.reduceMul, Int.reduceEq, Int.reduceLT, Int.reduceLE, Int.reduceNeg, Int.reduceToNat, List.reduceReplicate, Int.ofNat_le, List.getElem?_drop, hlt, hrk, List.getElem?_drop]
  refine szInt64SS_ok ⟨_, _, _, rfl, hrs⟩ hbi.1 hbi.2 hr' fun r' h => ?_
  rcases h with rfl | ⟨h1, h2⟩
  · simp only [pwA, if_true, if_false, eq_self, nm_eq, reduceCtorEq, ↓reduceIte, Nat.reduceEqDiff, Nat.reduceLeDiff, Nat.reduceBEq, Nat.reduceAdd, Nat.reduceLT, Nat.reduceSub, Nat.reduceMul, Int.reduceEq, Int.reduceLT, Int.reduceLE, Int.reduceNeg, Int.reduceToNat, List.reduceReplicate, Int.ofNat_le, List.getElem?_drop]
    exact hk _ (.inl rfl)
  · have : ¬ r' < 0 := by unfold left_ at h1; omega
    simp only [pwA, if_true, if_false, eq_self, nm_eq, reduceCtorEq, ↓reduceIte, Nat.reduceEqDiff, Nat.reduceLeDiff, Nat.reduceBEq, Nat.reduceAdd, Nat.reduceLT, Nat.reduceSub, Nat.reduceMul, Int.reduceEq, Int.reduceLT, Int.reduceLE, Int.reduceNeg, Int.reduceToNat, List.reduceReplicate, Int.ofNat_le, List.getElem?_drop, this, wrapS hlt (by omega : xs.length ≤ 4611686018427387904)]
    exact ⟨_, by omega, i + 1, by omega, rfl, _, h1, rfl, forallA_snoc hlt hall h2⟩
theorem toInt64S_ok {v : PV} {xs : List Int} (hI : FI v xs) (hb : xs.length ≤ 1048576) (hk : ∀ cap, full 1 cap xs.length → K (.sl σ.next 0 xs.length cap) (σ.new (pis xs))) : PCalls Try.prog 21 [v] σ K := by
  obtain ⟨w, a, rfl⟩ := hI
  refine pcalls_of_vp mix Try.func21 cf21 rfl ?_
  dsimp only [if21, qI, eI, nI, qD, eD]
  simp only [pwA, if_true, if_false, eq_self, nm_eq, reduceCtorEq, ↓reduceIte, Nat.reduceEqDiff, Nat.reduceLeDiff, Nat.reduceBEq, Nat.reduceAdd, Nat.reduceLT, Nat.reduceSub, Nat.reduceMul, Int.reduceEq, Int.reduceLT, Int.reduceLE, Int.reduceNeg, Int.reduceToNat, List.reduceReplicate, Int.ofNat_le, List.getElem?_drop, pis_rep, mk8 (n := xs.length) (by omega), mkL (n := xs.length) (by omega)]
  refine vp_loop (fun m vs h' => ∃ i : Nat, i ≤ xs.length ∧ m = xs.length - i ∧ vs = [.fz w a xs.length (pis xs), .sl σ.next 0 xs.length (.known xs.length), .int .i64 i] ∧ h' = σ.new (pis (xs.take i ++ List.replicate (xs.length - i) 0))) xs.length ?_ ?_
  · exact ⟨0, by omega, by omega, rfl, by rw [List.take_zero, List.nil_append, Nat.sub_zero]⟩
  rintro m vs h' ⟨i, hi, rfl, rfl, rfl⟩
  simp only [pwA, if_true, if_false, eq_self, nm_eq, reduceCtorEq, ↓reduceIte, Nat.reduceEqDiff, Nat.reduceLeDiff, Nat.reduceBEq, Nat.reduceAdd, Nat.reduceLT, Nat.reduceSub, Nat.reduceMul, Int.reduceEq, Int.reduceLT, Int.reduceLE, Int.reduceNeg, Int.reduceToNat, List.reduceReplicate, Int.ofNat_le, List.getElem?_drop]
  refine iteI (fun hlt => ?_) fun hge => ?_
  · have hlen : i + 1 ≤ (xs.take i ++ List.replicate (xs.length - i) 0).length := by simp; omega
    simp only [pwA, if_true, if_false, eq_self, nm_eq, reduceCtorEq, ↓reduceIte, Nat.reduceEqDiff, Nat.reduceLeDiff, Nat.reduceBEq, Nat.reduceAdd, Nat.reduceLT, Nat.reduceSub, Nat.reduceMul, Int.reduceEq, Int.reduceLT, Int.reduceLE, Int.reduceNeg, Int.reduceToNat, List.reduceReplicate, Int.ofNat_le, List.getElem?_drop, hlt, gi hlt, pis_get, pis_length, List.getElem?_drop, hlen, wrapS hlt (by omega : xs.length ≤ 4611686018427387904)]
    refine ⟨_, by omega, i + 1, by omega, rfl, rfl, ?_⟩
    rw [pis_set_at (by omega), take_set_rep xs 0 hlt]
  · have hie : i = xs.length := by omega
    subst hie
    rw [List.take_length, Nat.sub_self, List.replicate_zero, List.append_nil]
    exact hk _ (.inr rfl)
theorem toInt64S_fz {v : PV} {xs : List Int} (hI : FI v xs) (hb : xs.length ≤ 1048576) (hk : ∀ v, FI v xs → K v σ) : PCalls Try.prog 21 [v] σ K :=
  PCalls.fz (fun K' => toInt64S_ok hI hb) (pis_bel _ _) fun o cap => hk _ ⟨_, _, rfl⟩
/-- A list of values, one written behind those that are there. -/
theorem rows_set {rows : List PV} {z r : PV} {n i : Nat} (hl : rows.length = i) (hi : i < n) : (rows ++ List.replicate (n - i) z).take i ++ [r] ++ (rows ++ List.replicate (n - i) z).drop (i + 1) = (rows ++ [r]) ++ List.replicate (n - (i + 1)) z := by
  rw [List.take_append_of_le_length (by omega), List.take_of_length_le (by omega), List.drop_append, List.drop_eq_nil_of_le (by omega), List.nil_append, hl]
  congr 1
  obtain ⟨k, hk⟩ : ∃ k, n - i = k + 1 := ⟨n - i - 1, by omega⟩
  rw [hk, show i + 1 - i = 1 by omega, List.replicate_succ, List.drop_succ_cons, List.drop_zero]
  congr 1; omega
theorem toInt64SS_fz {v : PV} {xs : List (List Int)} (hI : FII v xs) (sz : SzL xs) (hk : ∀ v, FII v xs → K v σ) : PCalls Try.prog 47 [v] σ K := by
  obtain ⟨w, a, rs, rfl, hr⟩ := hI
  have hb := sz.l
  refine PCalls.gh ?_
  refine pcalls_of_vp mix Try.func47 cf47 rfl ?_
  dsimp only [if47, qI, eI, nI, qD, eD]
  simp only [pwA, if_true, if_false, eq_self, nm_eq, reduceCtorEq, ↓reduceIte, Nat.reduceEqDiff, Nat.reduceLeDiff, Nat.reduceBEq, Nat.reduceAdd, Nat.reduceLT, Nat.reduceSub, Nat.reduceMul, Int.reduceEq, Int.reduceLT, Int.reduceLE, Int.reduceNeg, Int.reduceToNat, List.reduceReplicate, Int.ofNat_le, List.getElem?_drop, mk24 (n := xs.length) (by omega), mkL (n := xs.length) (by omega)]
  refine vp_loop (fun m vs h' => ∃ i : Nat, i ≤ xs.length ∧ m = xs.length - i ∧ vs = [.fz w a xs.length rs, .sl σ.next 0 xs.length (.known xs.length), .int .i64 i] ∧ ∃ rows : List PV, rows.length = i ∧ All2 FI rows (xs.take i) ∧ h' = σ.new (rows ++ List.replicate (xs.length - i) (.fz true .nils 0 []))) xs.length ?_ ?_
  · exact ⟨0, by omega, by omega, rfl, [], rfl, by simpa using All2.nil _, by simp⟩
  rintro m vs h' ⟨i, hi, rfl, rfl, rows, hrl, hra, rfl⟩
  simp only [pwA, if_true, if_false, eq_self, nm_eq, reduceCtorEq, ↓reduceIte, Nat.reduceEqDiff, Nat.reduceLeDiff, Nat.reduceBEq, Nat.reduceAdd, Nat.reduceLT, Nat.reduceSub, Nat.reduceMul, Int.reduceEq, Int.reduceLT, Int.reduceLE, Int.reduceNeg, Int.reduceToNat, List.reduceReplicate, Int.ofNat_le, List.getElem?_drop]
  refine iteI (fun hlt => ?_) fun hge => ?_
  · obtain ⟨w4, a4, hrk⟩ := hr.rowI hlt
    simp only [pwA, if_true, if_false, eq_self, nm_eq, reduceCtorEq, ↓reduceIte, Nat.reduceEqDiff, Nat.reduceLeDiff, Nat.reduceBEq, Nat.reduceAdd, Nat.reduceLT, Nat.reduceSub, Nat.reduceMul, Int.reduceEq, Int.reduceLT, Int.reduceLE, Int.reduceNeg, Int.reduceToNat, List.reduceReplicate, Int.ofNat_le, List.getElem?_drop, hlt, hrk, List.getElem?_drop]
    refine toInt64S_fz ⟨_, _, rfl⟩ (sz.r _ (List.getElem_mem hlt)) fun r hr' => ?_
    have hlen : i + 1 ≤ (rows ++ List.replicate (xs.length - i) (PV.fz true .nils 0 [])).length := by simp; omega
    simp only [pwA, if_true, if_false, eq_self, nm_eq, reduceCtorEq, ↓reduceIte, Nat.reduceEqDiff, Nat.reduceLeDiff, Nat.reduceBEq, Nat.reduceAdd, Nat.reduceLT, Nat.reduceSub, Nat.reduceMul, Int.reduceEq, Int.reduceLT, Int.reduceLE, Int.reduceNeg, Int.reduceToNat, List.reduceReplicate, Int.ofNat_le, List.getElem?_drop, hlt, hlen, hr'.cells, hr'.one, wrapS hlt (by omega : xs.length ≤ 4611686018427387904)]
    refine ⟨_, by omega, i + 1, by omega, rfl, rfl, rows ++ [r], by simp [hrl], ?_, ?_⟩
    · rw [List.take_succ_eq_append_getElem hlt]; exact hra.snoc hr'
    · rw [rows_set hrl hlt]
  · have hie : i = xs.length := by omega
    subst hie
    rw [List.take_length] at hra
    rw [Nat.sub_self, List.replicate_zero, List.append_nil]
    exact Gh.finF (keep_new σ _) (by simp only [pwA, if_true, if_false, eq_self, nm_eq, reduceCtorEq, ↓reduceIte, Nat.reduceEqDiff, Nat.reduceLeDiff, Nat.reduceBEq, Nat.reduceAdd, Nat.reduceLT, Nat.reduceSub, Nat.reduceMul, Int.reduceEq, Int.reduceLT, Int.reduceLE, Int.reduceNeg, Int.reduceToNat, List.reduceReplicate, Int.ofNat_le, List.getElem?_drop]) (Nat.le_refl _) (hra.bI 0) (by simp [capOK]) fun o => hk _ ⟨_, _, _, rfl, hra⟩
theorem toInt64SSS_fz {v : PV} {xs : List (List (List Int))} (hI : FIII v xs) (sz : SzM xs) (hk : ∀ v, FIII v xs → K v σ) : PCalls Try.prog 60 [v] σ K := by
  obtain ⟨w, a, rs, rfl, hr⟩ := hI
  have hb := sz.l
  refine PCalls.gh ?_
  refine pcalls_of_vp mix Try.func60 cf60 rfl ?_
  dsimp only [if60, qI, eI, nI, qD, eD]
  simp only [pwA, if_true, if_false, eq_self, nm_eq, reduceCtorEq, ↓reduceIte, Nat.reduceEqDiff, Nat.reduceLeDiff, Nat.reduceBEq, Nat.reduceAdd, Nat.reduceLT, Nat.reduceSub, Nat.reduceMul, Int.reduceEq, Int.reduceLT, Int.reduceLE, Int.reduceNeg, Int.reduceToNat, List.reduceReplicate, Int.ofNat_le, List.getElem?_drop, mk24 (n := xs.length) (by omega), mkL (n := xs.length) (by omega)]
  refine vp_loop (fun m vs h' => ∃ i : Nat, i ≤ xs.length ∧ m = xs.length - i ∧ vs = [.fz w a xs.length rs, .sl σ.next 0 xs.length (.known xs.length), .int .i64 i] ∧ ∃ rows : List PV, rows.length = i ∧ All2 FII rows (xs.take i) ∧ h' = σ.new (rows ++ List.replicate (xs.length - i) (.fz true .nils 0 []))) xs.length ?_ ?_
  · exact ⟨0, by omega, by omega, rfl, [], rfl, by simpa using All2.nil _, by simp⟩
  rintro m vs h' ⟨i, hi, rfl, rfl, rows, hrl, hra, rfl⟩
  simp only [pwA, if_true, if_false, eq_self, nm_eq, reduceCtorEq, ↓reduceIte, Nat.reduceEqDiff, Nat.reduceLeDiff, Nat.reduceBEq, Nat.reduceAdd, Nat.reduceLT, Nat.reduceSub, Nat.reduceMul, Int.reduceEq, Int.reduceLT, Int.reduceLE, Int.reduceNeg, Int.reduceToNat, List.reduceReplicate, Int.ofNat_le, List.getElem?_drop]
  refine iteI (fun hlt => ?_) fun hge => ?_
  · obtain ⟨w4, a4, rk, hrk, hrs⟩ := hr.rowL hlt
    simp only [pwA, if_true, if_false, eq_self, nm_eq, reduceCtorEq, ↓reduceIte, Nat.reduceEqDiff, Nat.reduceLeDiff, Nat.reduceBEq, Nat.reduceAdd, Nat.reduceLT, Nat.reduceSub, Nat.reduceMul, Int.reduceEq, Int.reduceLT, Int.reduceLE, Int.reduceNeg, Int.reduceToNat, List.reduceReplicate, Int.ofNat_le, List.getElem?_drop, hlt, hrk, List.getElem?_drop]
    refine toInt64SS_fz ⟨_, _, _, rfl, hrs⟩ (sz.r _ (List.getElem_mem hlt)) fun r hr' => ?_
    have hlen : i + 1 ≤ (rows ++ List.replicate (xs.length - i) (PV.fz true .nils 0 [])).length := by simp; omega
    simp only [pwA, if_true, if_false, eq_self, nm_eq, reduceCtorEq, ↓reduceIte, Nat.reduceEqDiff, Nat.reduceLeDiff, Nat.reduceBEq, Nat.reduceAdd, Nat.reduceLT, Nat.reduceSub, Nat.reduceMul, Int.reduceEq, Int.reduceLT, Int.reduceLE, Int.reduceNeg, Int.reduceToNat, List.reduceReplicate, Int.ofNat_le, List.getElem?_drop, hlt, hlen, hr'.cells, hr'.one, wrapS hlt (by omega : xs.length ≤ 4611686018427387904)]
    refine ⟨_, by omega, i + 1, by omega, rfl, rfl, rows ++ [r], by simp [hrl], ?_, ?_⟩
    · rw [List.take_succ_eq_append_getElem hlt]; exact hra.snoc hr'
    · rw [rows_set hrl hlt]
  · have hie : i = xs.length := by omega
    subst hie
    rw [List.take_length] at hra
    rw [Nat.sub_self, List.replicate_zero, List.append_nil]
    exact Gh.finF (keep_new σ _) (by simp only [pwA, if_true, if_false, eq_self, nm_eq, reduceCtorEq, ↓reduceIte, Nat.reduceEqDiff, Nat.reduceLeDiff, Nat.reduceBEq, Nat.reduceAdd, Nat.reduceLT, Nat.reduceSub, Nat.reduceMul, Int.reduceEq, Int.reduceLT, Int.reduceLE, Int.reduceNeg, Int.reduceToNat, List.reduceReplicate, Int.ofNat_le, List.getElem?_drop]) (Nat.le_refl _) (hra.bL 0) (by simp [capOK]) fun o => hk _ ⟨_, _, _, rfl, hra⟩
theorem eqInt64S_ok {v v' : PV} {xs ys : List Int} (hI : FI v xs) (hI' : FI v' ys) (hb : xs.length ≤ 4611686018427387904) (hk : K (.bool (decide (xs = ys))) σ) : PCalls Try.prog 23 [v, v'] σ K := by
  obtain ⟨w, a, rfl⟩ := hI
  obtain ⟨w', a', rfl⟩ := hI'
  refine pcalls_of_vp mix Try.func23 cf23 rfl ?_
  dsimp only [if23, qI, eI, nI, qD, eD]
  simp only [pwA, if_true, if_false, eq_self, nm_eq, reduceCtorEq, ↓reduceIte, Nat.reduceEqDiff, Nat.reduceLeDiff, Nat.reduceBEq, Nat.reduceAdd, Nat.reduceLT, Nat.reduceSub, Nat.reduceMul, Int.reduceEq, Int.reduceLT, Int.reduceLE, Int.reduceNeg, Int.reduceToNat, List.reduceReplicate, Int.ofNat_le, List.getElem?_drop]
  refine iteI (fun hl => ?_) fun hl => ?_
  rotate_left
  · exact pkf hk fun hv => hl (by rw [hv])
  have hl : xs.length = ys.length := by omega
  refine vp_loop (fun m vs h' => ∃ i : Nat, i ≤ xs.length ∧ m = xs.length - i ∧ vs = [.fz w a xs.length (pis xs), .fz w' a' ys.length (pis ys), .int .i64 i] ∧ σ = h' ∧ xs.take i = ys.take i) xs.length ?_ ?_
  · exact ⟨0, by omega, by omega, rfl, rfl, by simp⟩
  rintro m vs h' ⟨i, hi, rfl, rfl, rfl, hall⟩
  simp only [pwA, if_true, if_false, eq_self, nm_eq, reduceCtorEq, ↓reduceIte, Nat.reduceEqDiff, Nat.reduceLeDiff, Nat.reduceBEq, Nat.reduceAdd, Nat.reduceLT, Nat.reduceSub, Nat.reduceMul, Int.reduceEq, Int.reduceLT, Int.reduceLE, Int.reduceNeg, Int.reduceToNat, List.reduceReplicate, Int.ofNat_le, List.getElem?_drop]
  refine iteI (fun hlt => ?_) fun hge => ?_
  · have hlt2 : i < ys.length := by omega
    simp only [pwA, if_true, if_false, eq_self, nm_eq, reduceCtorEq, ↓reduceIte, Nat.reduceEqDiff, Nat.reduceLeDiff, Nat.reduceBEq, Nat.reduceAdd, Nat.reduceLT, Nat.reduceSub, Nat.reduceMul, Int.reduceEq, Int.reduceLT, Int.reduceLE, Int.reduceNeg, Int.reduceToNat, List.reduceReplicate, Int.ofNat_le, List.getElem?_drop, hlt, hlt2, List.getElem?_drop, pis_get, gi hlt, gi hlt2]
    refine iteI (fun h0 => ?_) fun hn => ?_
    · simp only [pwA, if_true, if_false, eq_self, nm_eq, reduceCtorEq, ↓reduceIte, Nat.reduceEqDiff, Nat.reduceLeDiff, Nat.reduceBEq, Nat.reduceAdd, Nat.reduceLT, Nat.reduceSub, Nat.reduceMul, Int.reduceEq, Int.reduceLT, Int.reduceLE, Int.reduceNeg, Int.reduceToNat, List.reduceReplicate, Int.ofNat_le, List.getElem?_drop, wrapS hlt hb]
      exact ⟨_, by omega, i + 1, by omega, rfl, rfl, eqList hl hlt hall h0⟩
    · exact pkf hk fun hv => hn (by subst hv; rfl)
  · refine pkt hk ?_
    rwa [List.take_of_length_le (by omega), List.take_of_length_le (by omega)] at hall
theorem eqTake {α : Type} {xs ys : List α} (hl : xs.length = ys.length) {i : Nat} (hi : i < xs.length) (h : xs.take i = ys.take i) (he : xs[i] = ys[i]'(by omega)) : xs.take (i + 1) = ys.take (i + 1) := by
  rw [List.take_succ_eq_append_getElem hi, List.take_succ_eq_append_getElem (by omega : i < ys.length), h, he]
theorem eqInt64SS_ok {v v' : PV} {xs ys : List (List Int)} (hI : FII v xs) (hI' : FII v' ys) (sz : SzL xs) (hk : ∀ t : Bool, (t = true ↔ xs = ys) → K (.bool t) σ) : PCalls Try.prog 42 [v, v'] σ K := by
  obtain ⟨w, a, rs, rfl, hr⟩ := hI
  obtain ⟨w', a', rs', rfl, hr'⟩ := hI'
  have hb := sz.l
  have fl : ∀ {A : Prop}, ¬ A → ((false = true) ↔ A) := fun h => ⟨fun x => (by cases x), fun x => absurd x h⟩
  refine pcalls_of_vp mix Try.func42 cf42 rfl ?_
  dsimp only [if42, qI, eI, nI, qD, eD]
  simp only [pwA, if_true, if_false, eq_self, nm_eq, reduceCtorEq, ↓reduceIte, Nat.reduceEqDiff, Nat.reduceLeDiff, Nat.reduceBEq, Nat.reduceAdd, Nat.reduceLT, Nat.reduceSub, Nat.reduceMul, Int.reduceEq, Int.reduceLT, Int.reduceLE, Int.reduceNeg, Int.reduceToNat, List.reduceReplicate, Int.ofNat_le, List.getElem?_drop]
  refine iteI (fun hl => ?_) fun hl => ?_
  rotate_left
  · exact hk _ (fl fun hv => hl (by rw [hv]))
  have hl : xs.length = ys.length := by omega
  refine vp_loop (fun m vs h' => ∃ i : Nat, i ≤ xs.length ∧ m = xs.length - i ∧ vs = [.fz w a xs.length rs, .fz w' a' ys.length rs', .int .i64 i] ∧ σ = h' ∧ xs.take i = ys.take i) xs.length ?_ ?_
  · exact ⟨0, by omega, by omega, rfl, rfl, by simp⟩
  rintro m vs h' ⟨i, hi, rfl, rfl, rfl, hall⟩
  simp only [pwA, if_true, if_false, eq_self, nm_eq, reduceCtorEq, ↓reduceIte, Nat.reduceEqDiff, Nat.reduceLeDiff, Nat.reduceBEq, Nat.reduceAdd, Nat.reduceLT, Nat.reduceSub, Nat.reduceMul, Int.reduceEq, Int.reduceLT, Int.reduceLE, Int.reduceNeg, Int.reduceToNat, List.reduceReplicate, Int.ofNat_le, List.getElem?_drop]
  refine iteI (fun hlt => ?_) fun hge => ?_
  · have hlt2 : i < ys.length := by omega
    obtain ⟨w4, a4, h4⟩ := hr.rowI hlt
    obtain ⟨w5, a5, h5⟩ := hr'.rowI hlt2
    simp only [pwA, if_true, if_false, eq_self, nm_eq, reduceCtorEq, ↓reduceIte, Nat.reduceEqDiff, Nat.reduceLeDiff, Nat.reduceBEq, Nat.reduceAdd, Nat.reduceLT, Nat.reduceSub, Nat.reduceMul, Int.reduceEq, Int.reduceLT, Int.reduceLE, Int.reduceNeg, Int.reduceToNat, List.reduceReplicate, Int.ofNat_le, List.getElem?_drop, hlt, hlt2, List.getElem?_drop, h4, h5]
    refine eqInt64S_ok ⟨_, _, rfl⟩ ⟨_, _, rfl⟩ (by have := sz.r _ (List.getElem_mem hlt); omega) ?_
    by_cases he : xs[i] = ys[i]
    · simp only [pwA, if_true, if_false, eq_self, nm_eq, reduceCtorEq, ↓reduceIte, Nat.reduceEqDiff, Nat.reduceLeDiff, Nat.reduceBEq, Nat.reduceAdd, Nat.reduceLT, Nat.reduceSub, Nat.reduceMul, Int.reduceEq, Int.reduceLT, Int.reduceLE, Int.reduceNeg, Int.reduceToNat, List.reduceReplicate, Int.ofNat_le, List.getElem?_drop, eq_true he, wrapS hlt (by omega : xs.length ≤ 4611686018427387904)]
      exact ⟨_, by omega, i + 1, by omega, rfl, rfl, eqTake hl hlt hall he⟩
    · simp only [pwA, if_true, if_false, eq_self, nm_eq, reduceCtorEq, ↓reduceIte, Nat.reduceEqDiff, Nat.reduceLeDiff, Nat.reduceBEq, Nat.reduceAdd, Nat.reduceLT, Nat.reduceSub, Nat.reduceMul, Int.reduceEq, Int.reduceLT, Int.reduceLE, Int.reduceNeg, Int.reduceToNat, List.reduceReplicate, Int.ofNat_le, List.getElem?_drop, he]
      exact hk _ (fl fun hv => he (by subst hv; rfl))
  · refine hk _ ⟨fun _ => ?_, fun _ => rfl⟩
    rwa [List.take_of_length_le (by omega), List.take_of_length_le (by omega)] at hall
theorem eqInt64SSS_ok {v v' : PV} {xs ys : List (List (List Int))} (hI : FIII v xs) (hI' : FIII v' ys) (sz : SzM xs) (hk : ∀ t : Bool, (t = true ↔ xs = ys) → K (.bool t) σ) : PCalls Try.prog 62 [v, v'] σ K := by
  obtain ⟨w, a, rs, rfl, hr⟩ := hI
  obtain ⟨w', a', rs', rfl, hr'⟩ := hI'
  have hb := sz.l
  have fl : ∀ {A : Prop}, ¬ A → ((false = true) ↔ A) := fun h => ⟨fun x => (by cases x), fun x => absurd x h⟩
  refine pcalls_of_vp mix Try.func62 cf62 rfl ?_
  dsimp only [if62, qI, eI, nI, qD, eD]
  simp only [pwA, if_true, if_false, eq_self, nm_eq, reduceCtorEq, ↓reduceIte, Nat.reduceEqDiff, Nat.reduceLeDiff, Nat.reduceBEq, Nat.reduceAdd, Nat.reduceLT, Nat.reduceSub, Nat.reduceMul, Int.reduceEq, Int.reduceLT, Int.reduceLE, Int.reduceNeg, Int.reduceToNat, List.reduceReplicate, Int.ofNat_le, List.getElem?_drop]
  refine iteI (fun hl => ?_) fun hl => ?_
  rotate_left
  · exact hk _ (fl fun hv => hl (by rw [hv]))
  have hl : xs.length = ys.length := by omega
  refine vp_loop (fun m vs h' => ∃ i : Nat, i ≤ xs.length ∧ m = xs.length - i ∧ vs = [.fz w a xs.length rs, .fz w' a' ys.length rs', .int .i64 i] ∧ σ = h' ∧ xs.take i = ys.take i) xs.length ?_ ?_
  · exact ⟨0, by omega, by omega, rfl, rfl, by simp⟩
  rintro m vs h' ⟨i, hi, rfl, rfl, rfl, hall⟩
  simp only [pwA, if_true, if_false, eq_self, nm_eq, reduceCtorEq, ↓reduceIte, Nat.reduceEqDiff, Nat.reduceLeDiff, Nat.reduceBEq, Nat.reduceAdd, Nat.reduceLT, Nat.reduceSub, Nat.reduceMul, Int.reduceEq, Int.reduceLT, Int.reduceLE, Int.reduceNeg, Int.reduceToNat, List.reduceReplicate, Int.ofNat_le, List.getElem?_drop]
  refine iteI (fun hlt => ?_) fun hge => ?_
  · have hlt2 : i < ys.length := by omega
    obtain ⟨w4, a4, r4, h4, g4⟩ := hr.rowL hlt
    obtain ⟨w5, a5, r5, h5, g5⟩ := hr'.rowL hlt2
    simp only [pwA, if_true, if_false, eq_self, nm_eq, reduceCtorEq, ↓reduceIte, Nat.reduceEqDiff, Nat.reduceLeDiff, Nat.reduceBEq, Nat.reduceAdd, Nat.reduceLT, Nat.reduceSub, Nat.reduceMul, Int.reduceEq, Int.reduceLT, Int.reduceLE, Int.reduceNeg, Int.reduceToNat, List.reduceReplicate, Int.ofNat_le, List.getElem?_drop, hlt, hlt2, List.getElem?_drop, h4, h5]
    refine eqInt64SS_ok ⟨_, _, _, rfl, g4⟩ ⟨_, _, _, rfl, g5⟩ (sz.r _ (List.getElem_mem hlt)) fun t ht => ?_
    cases t with
    | true =>
      simp only [pwA, if_true, if_false, eq_self, nm_eq, reduceCtorEq, ↓reduceIte, Nat.reduceEqDiff, Nat.reduceLeDiff, Nat.reduceBEq, Nat.reduceAdd, Nat.reduceLT, Nat.reduceSub, Nat.reduceMul, Int.reduceEq, Int.reduceLT, Int.reduceLE, Int.reduceNeg, Int.reduceToNat, List.reduceReplicate, Int.ofNat_le, List.getElem?_drop, wrapS hlt (by omega : xs.length ≤ 4611686018427387904)]
      exact ⟨_, by omega, i + 1, by omega, rfl, rfl, eqTake hl hlt hall (ht.1 rfl)⟩
    | false =>
      simp only [pwA, if_true, if_false, eq_self, nm_eq, reduceCtorEq, ↓reduceIte, Nat.reduceEqDiff, Nat.reduceLeDiff, Nat.reduceBEq, Nat.reduceAdd, Nat.reduceLT, Nat.reduceSub, Nat.reduceMul, Int.reduceEq, Int.reduceLT, Int.reduceLE, Int.reduceNeg, Int.reduceToNat, List.reduceReplicate, Int.ofNat_le, List.getElem?_drop]
      exact hk _ (fl fun hv => by subst hv; cases ht.2 rfl)
  · refine hk _ ⟨fun _ => ?_, fun _ => rfl⟩
    rwa [List.take_of_length_le (by omega), List.take_of_length_le (by omega)] at hall
end Go.Proofs
set_option linter.unusedVariables false
set_option linter.unusedSimpArgs false
namespace Go.Grp
open Go.Ab Go.Lie
/-- A monoid on a subset. -/
structure Mon {α : Type} (S : α → Prop) (m : α → α → α) (e : α) : Prop where
  one : S e
  cl : ∀ {a b}, S a → S b → S (m a b)
  «as» : ∀ {a b c}, S a → S b → S c → m (m a b) c = m a (m b c)
  l1 : ∀ {a}, S a → m e a = a
  r1 : ∀ {a}, S a → m a e = a
section
variable {α : Type} {S : α → Prop} {m : α → α → α} {e : α}
/-- Powers. -/
def pw (m : α → α → α) (e x : α) : Nat → α
  | 0 => e
  | k + 1 => m (pw m e x k) x
/-- k times a factor behind. -/
def rep (m : α → α → α) (x : α) : Nat → α → α
  | 0, a => a
  | k + 1, a => rep m x k (m a x)
/-- A product of powers, from t on, d of them. -/
def ph (m : α → α → α) (e : α) (h : Nat → α) (x : Nat → Nat) : Nat → Nat → α
  | t, 0 => e
  | t, d + 1 => m (pw m e (h t) (x t)) (ph m e h x (t + 1) d)
/-- .. as it is computed: from the left. -/
def fo (m : α → α → α) (h : Nat → α) (x : Nat → Nat) : Nat → Nat → α → α
  | t, 0, a => a
  | t, d + 1, a => fo m h x (t + 1) d (rep m (h t) (x t) a)
theorem Mon.pw (M : Mon S m e) {x : α} (hx : S x) : ∀ k, S (pw m e x k)
  | 0 => M.one
  | k + 1 => M.cl (M.pw hx k) hx
theorem Mon.pw_add (M : Mon S m e) {x : α} (hx : S x) (a : Nat) : ∀ b, Grp.pw m e x (a + b) = m (Grp.pw m e x a) (Grp.pw m e x b)
  | 0 => (M.r1 (M.pw hx a)).symm
  | b + 1 => by
    show m (Grp.pw m e x (a + b)) x = m _ (m (Grp.pw m e x b) x)
    rw [M.pw_add hx a b, M.as (M.pw hx a) (M.pw hx b) hx]
theorem Mon.pw_one (M : Mon S m e) {x : α} (hx : S x) : Grp.pw m e x 1 = x := M.l1 hx
theorem Mon.pw_comm (M : Mon S m e) {x : α} (hx : S x) (a : Nat) : m (Grp.pw m e x a) x = m x (Grp.pw m e x a) := by
  have h1 := M.pw_add hx a 1
  have h2 := M.pw_add hx 1 a
  rw [M.pw_one hx] at h1 h2
  rw [← h1, ← h2, Nat.add_comm]
theorem Mon.rep_eq (M : Mon S m e) {x : α} (hx : S x) : ∀ (k : Nat) {a : α}, S a → rep m x k a = m a (Grp.pw m e x k)
  | 0, a, ha => (M.r1 ha).symm
  | k + 1, a, ha => by
    show rep m x k (m a x) = m a (m (Grp.pw m e x k) x)
    rw [M.rep_eq hx k (M.cl ha hx), M.as ha hx (M.pw hx k), M.pw_comm hx k]
theorem Mon.ph (M : Mon S m e) {h : Nat → α} {x : Nat → Nat} : ∀ {d t : Nat}, (∀ j, t ≤ j → j < t + d → S (h j)) → S (ph m e h x t d)
  | 0, t, _ => M.one
  | d + 1, t, hh => M.cl (M.pw (hh t (Nat.le_refl _) (by omega)) _) (M.ph fun j h1 h2 => hh j (by omega) (by omega))
theorem Mon.fo_eq (M : Mon S m e) {h : Nat → α} {x : Nat → Nat} : ∀ {d t : Nat} {a : α}, (∀ j, t ≤ j → j < t + d → S (h j)) → S a → fo m h x t d a = m a (Grp.ph m e h x t d)
  | 0, t, a, _, ha => (M.r1 ha).symm
  | d + 1, t, a, hh, ha => by
    have ht := hh t (Nat.le_refl _) (by omega)
    show fo m h x (t + 1) d (rep m (h t) (x t) a) = m a (m _ _)
    rw [M.rep_eq ht _ ha, M.fo_eq (fun j h1 h2 => hh j (by omega) (by omega)) (M.cl ha (M.pw ht _)), M.as ha (M.pw ht _) (M.ph fun j h1 h2 => hh j (by omega) (by omega))]
theorem ph_congr {h h' : Nat → α} {x x' : Nat → Nat} : ∀ {d t : Nat}, (∀ j, t ≤ j → j < t + d → h j = h' j ∧ x j = x' j) → Grp.ph m e h x t d = Grp.ph m e h' x' t d
  | 0, t, _ => rfl
  | d + 1, t, hh => by
    simp only [Grp.ph]
    rw [(hh t (Nat.le_refl _) (by omega)).1, (hh t (Nat.le_refl _) (by omega)).2, ph_congr fun j h1 h2 => hh j (by omega) (by omega)]
/-- What is moved past g on both factors is moved past it on the product. -/
theorem Mon.past_pw (M : Mon S m e) {g u v : α} (hg : S g) (hu : S u) (hv : S v) (h : m u g = m g v) : ∀ k, m (Grp.pw m e u k) g = m g (Grp.pw m e v k)
  | 0 => by rw [Grp.pw, Grp.pw, M.l1 hg, M.r1 hg]
  | k + 1 => by
    show m (m (Grp.pw m e u k) u) g = m g (m (Grp.pw m e v k) v)
    rw [M.as (M.pw hu k) hu hg, h, ← M.as (M.pw hu k) hg hv, M.past_pw hg hu hv h k, M.as hg (M.pw hv k) hv]
theorem Mon.past_ph (M : Mon S m e) {g : α} (hg : S g) {h h' : Nat → α} {x : Nat → Nat} : ∀ {d t : Nat}, (∀ j, t ≤ j → j < t + d → S (h j) ∧ S (h' j) ∧ m (h j) g = m g (h' j)) → m (Grp.ph m e h x t d) g = m g (Grp.ph m e h' x t d)
  | 0, t, _ => by rw [Grp.ph, Grp.ph, M.l1 hg, M.r1 hg]
  | d + 1, t, hh => by
    obtain ⟨h1, h2, h3⟩ := hh t (Nat.le_refl _) (by omega)
    have i1 := M.ph (x := x) (fun j a b => (hh j (show t ≤ j by omega) (by omega)).1) (d := d) (t := t + 1)
    have i2 := M.ph (x := x) (fun j a b => (hh j (show t ≤ j by omega) (by omega)).2.1) (d := d) (t := t + 1)
    show m (m _ _) g = m g (m _ _)
    rw [M.as (M.pw h1 _) i1 hg, M.past_ph hg fun j a b => hh j (by omega) (by omega), ← M.as (M.pw h1 _) hg i2, M.past_pw hg h1 h2 h3, M.as hg (M.pw h2 _) i2]
end
variable {O : List Int} {P : List (List Int)} {C : List (List (List Int))}
/-- Exponent vectors with zeros before t. -/
structure TT (O : List Int) (t : Nat) (x : List Int) : Prop where
  len : x.length = O.length
  bd : ∀ j, j < O.length → 0 ≤ at_ x j ∧ at_ x j < at_ O j
  zero : ∀ j, j < t → at_ x j = 0
abbrev nx (x : List Int) (j : Nat) : Nat := (at_ x j).toNat
abbrev cvec (C : List (List (List Int))) (i j : Nat) : List Int := (C.getD i []).getD (j - i - 1) []
abbrev pvec (P : List (List Int)) (i : Nat) : List Int := P.getD i []
abbrev zv (O : List Int) : List Int := List.replicate O.length 0
/-- A presentation's shape. -/
structure Shp (O : List Int) (P : List (List Int)) (C : List (List (List Int))) : Prop where
  le : O.length ≤ 6
  pr : ∀ j, j < O.length → 2 ≤ at_ O j ∧ at_ O j ≤ 7
  pl : P.length = O.length
  cl : C.length = O.length
  pw : ∀ i, i < O.length → TT O (i + 1) (pvec P i)
  row : ∀ i, i < O.length → (C.getD i []).length = O.length - 1 - i
  cj : ∀ i j, i < j → j < O.length → TT O (i + 1) (cvec C i j)
/-- The product of conjugates by generator i (m: the product behind i). -/
def img (O : List Int) (C : List (List (List Int))) (m : List Int → List Int → List Int) (i : Nat) (x : List Int) : List Int := fo m (cvec C i) (nx x) (i + 1) (O.length - 1 - i) (zv O)
def iter {α : Type} (f : α → α) : Nat → α → α
  | 0, a => a
  | k + 1, a => iter f k (f a)
theorem iter_add {α : Type} (f : α → α) (a b : Nat) (x : α) : iter f (a + b) x = iter f b (iter f a x) := by
  induction a generalizing x with
  | zero => rw [Nat.zero_add]; rfl
  | succ a ih => rw [show a + 1 + b = (a + b) + 1 by omega]; exact ih (f x)
/-- The product in the tail of the last d generators. -/
def mu (O : List Int) (P : List (List Int)) (C : List (List (List Int))) : Nat → List Int → List Int → List Int
  | 0, _, _ => zv O
  | d + 1, a, b =>
    let i := O.length - (d + 1)
    let r := mu O P C d (iter (img O C (mu O P C d) i) (nx b i) (a.set i 0)) (b.set i 0)
    if at_ a i + at_ b i ≥ at_ O i then (mu O P C d (pvec P i) r).set i (at_ a i + at_ b i - at_ O i) else r.set i (at_ a i + at_ b i)
theorem TT.zv (t : Nat) (h : ∀ j, j < O.length → 0 < at_ O j) : TT O t (zv O) := ⟨by simp, fun j hj => by rw [at_rep]; exact ⟨by omega, h j hj⟩, fun j _ => at_rep _ j⟩
theorem TT.mono {t t' : Nat} {x : List Int} (h : TT O t x) (ht : t' ≤ t) : TT O t' x := ⟨h.len, h.bd, fun j hj => h.zero j (by omega)⟩
theorem TT.set {t i : Nat} {x : List Int} (h : TT O t x) (hi : i < O.length) (hti : t ≤ i) {c : Int} (hc : 0 ≤ c ∧ c < at_ O i) : TT O t (x.set i c) := by
  have hl : i < x.length := by rw [h.len]; exact hi
  refine ⟨by rw [List.length_set, h.len], fun j hj => ?_, fun j hj => ?_⟩
  · rw [at_set hl]; split
    · rename_i e; subst e; exact hc
    · exact h.bd j hj
  · rw [at_set hl, if_neg (by omega)]; exact h.zero j hj
theorem TT.set0 {i : Nat} {x : List Int} (h : TT O i x) (hi : i < O.length) (hO : 0 < at_ O i) : TT O (i + 1) (x.set i 0) := by
  have hl : i < x.length := by rw [h.len]; exact hi
  have h1 := h.set hi (Nat.le_refl _) (c := 0) ⟨by omega, hO⟩
  refine ⟨h1.len, h1.bd, fun j hj => ?_⟩
  rw [at_set hl]; split
  · rfl
  · exact h.zero j (by omega)
theorem TT.ext {t : Nat} {x y : List Int} (h : TT O t x) (g : TT O t y) (he : ∀ j, t ≤ j → j < O.length → at_ x j = at_ y j) : x = y := by
  refine ext_at (by rw [h.len, g.len]) fun j hj => ?_
  rcases Nat.lt_or_ge j t with e | e
  · rw [h.zero j e, g.zero j e]
  · exact he j e (by rw [← h.len]; exact hj)
theorem Shp.pos (s : Shp O P C) {j : Nat} (hj : j < O.length) : 0 < at_ O j := by have := (s.pr j hj).1; omega
theorem Shp.zv (s : Shp O P C) (t : Nat) : TT O t (zv O) := TT.zv t fun j hj => s.pos hj
theorem rep_in {α : Type} {S : α → Prop} {m : α → α → α} {x : α} (h : ∀ a, S a → S (m a x)) : ∀ (k : Nat) {a : α}, S a → S (rep m x k a)
  | 0, a, ha => ha
  | k + 1, a, ha => rep_in h k (h a ha)
theorem fo_in {α : Type} {S : α → Prop} {m : α → α → α} {h : Nat → α} {x : Nat → Nat} : ∀ {d t : Nat} {a : α}, (∀ j, t ≤ j → j < t + d → ∀ a, S a → S (m a (h j))) → S a → S (fo m h x t d a)
  | 0, t, a, _, ha => ha
  | d + 1, t, a, hh, ha => by
    show S (fo m h x (t + 1) d (rep m (h t) (x t) a))
    exact fo_in (fun j h1 h2 => hh j (by omega) (by omega)) (rep_in (hh t (Nat.le_refl _) (by omega)) (x t) ha)
theorem iter_in {α : Type} {S : α → Prop} {f : α → α} (h : ∀ a, S a → S (f a)) : ∀ (k : Nat) {a : α}, S a → S (iter f k a)
  | 0, a, ha => ha
  | k + 1, a, ha => iter_in h k (h a ha)
theorem img_tt (s : Shp O P C) {m : List Int → List Int → List Int} {i : Nat} (hm : ∀ a b, TT O (i + 1) a → TT O (i + 1) b → TT O (i + 1) (m a b)) (x : List Int) : TT O (i + 1) (img O C m i x) :=
  fo_in (fun j h1 h2 a ha => hm a _ ha (s.cj i j (by omega) (by omega))) (s.zv _)
theorem mu_tt (s : Shp O P C) : ∀ {d : Nat} {a b : List Int}, d ≤ O.length → TT O (O.length - d) a → TT O (O.length - d) b → TT O (O.length - d) (mu O P C d a b)
  | 0, a, b, _, ha, hb => s.zv _
  | d + 1, a, b, hd, ha, hb => by
    have hi : O.length - (d + 1) < O.length := by omega
    have e : O.length - d = O.length - (d + 1) + 1 := by omega
    have hm : ∀ a b, TT O (O.length - (d + 1) + 1) a → TT O (O.length - (d + 1) + 1) b → TT O (O.length - (d + 1) + 1) (mu O P C d a b) := by
      rw [← e]; exact fun a b h1 h2 => mu_tt s (by omega) h1 h2
    have hpos := s.pos hi
    have ba := ha.bd _ hi
    have bb := hb.bd _ hi
    have ir := hm _ _ (iter_in (fun x _ => img_tt s hm x) (nx b (O.length - (d + 1))) (ha.set0 hi hpos)) (hb.set0 hi hpos)
    simp only [mu]
    split
    · exact ((hm _ _ (s.pw _ hi) ir).mono (Nat.le_succ _)).set hi (Nat.le_refl _) ⟨by omega, by omega⟩
    · exact (ir.mono (Nat.le_succ _)).set hi (Nat.le_refl _) ⟨by omega, by omega⟩
end Go.Grp
set_option linter.unusedVariables false
set_option linter.unusedSimpArgs false
namespace Go.Grp
open Go.Ab Go.Lie
variable {O : List Int} {P : List (List Int)} {C : List (List (List Int))} {α : Type} {S : α → Prop} {m : α → α → α} {e : α} {h : Nat → α} {t0 : Nat}
/-- What generators with these values say of a vector: the last d generators. -/
abbrev Ph (O : List Int) (m : α → α → α) (e : α) (h : Nat → α) (d : Nat) (x : List Int) : α := ph m e h (nx x) (O.length - d) d
/-- The relations hold, from t0 on. -/
structure Rel (O : List Int) (P : List (List Int)) (C : List (List (List Int))) (S : α → Prop) (m : α → α → α) (e : α) (h : Nat → α) (t0 : Nat) : Prop where
  mem : ∀ j, t0 ≤ j → j < O.length → S (h j)
  pow : ∀ j, t0 ≤ j → j < O.length → pw m e (h j) (nx O j) = Ph O m e h (O.length - (j + 1)) (pvec P j)
  cj : ∀ j k, t0 ≤ j → j < k → k < O.length → m (h k) (h j) = m (h j) (Ph O m e h (O.length - (j + 1)) (cvec C j k))
theorem Ph_in (M : Mon S m e) (r : Rel O P C S m e h t0) {d : Nat} (hd : d ≤ O.length - t0) (x : List Int) : S (Ph O m e h d x) := M.ph fun j h1 h2 => r.mem j (by omega) (by omega)
theorem Ph_set {d i : Nat} (hi : i < O.length - d) {x : List Int} (hx : x.length = O.length) (c : Int) : Ph O m e h d (x.set i c) = Ph O m e h d x :=
  ph_congr fun j h1 h2 => ⟨rfl, by show (at_ _ j).toNat = (at_ x j).toNat; rw [at_set (by omega), if_neg (by omega)]⟩
theorem Ph_succ {d : Nat} (hd : d < O.length) (x : List Int) : Ph O m e h (d + 1) x = m (pw m e (h (O.length - (d + 1))) (nx x (O.length - (d + 1)))) (Ph O m e h d x) := by
  show ph m e h (nx x) _ (d + 1) = _
  rw [ph, show O.length - (d + 1) + 1 = O.length - d by omega]
theorem Ph_zv (M : Mon S m e) : ∀ d : Nat, Ph O m e h d (zv O) = e := by
  intro d
  have : ∀ (d t : Nat), ph m e h (nx (zv O)) t d = e := by
    intro d
    induction d with
    | zero => intro t; rfl
    | succ d ih =>
      intro t
      have h0 : nx (zv O) t = 0 := by show (at_ (zv O) t).toNat = 0; rw [at_rep]; rfl
      rw [ph, ih, h0]
      exact M.l1 M.one
  exact this d _
theorem Ph_fo (M : Mon S m e) {T : List Int → Prop} {mm : List Int → List Int → List Int} {F : List Int → α} (hF : ∀ a b, T a → T b → T (mm a b) ∧ F (mm a b) = m (F a) (F b)) {c : Nat → List Int} {x : Nat → Nat} :
    ∀ {d t : Nat} {a : List Int}, (∀ j, t ≤ j → j < t + d → T (c j)) → T a → T (fo mm c x t d a) ∧ F (fo mm c x t d a) = fo m (fun j => F (c j)) x t d (F a)
  | 0, t, a, _, ha => ⟨ha, rfl⟩
  | d + 1, t, a, hc, ha => by
    have hr : ∀ (k : Nat) {a : List Int}, T a → T (rep mm (c t) k a) ∧ F (rep mm (c t) k a) = rep m (F (c t)) k (F a) := by
      intro k
      induction k with
      | zero => exact fun ha => ⟨ha, rfl⟩
      | succ k ih =>
        intro a ha
        obtain ⟨h1, h2⟩ := hF a (c t) ha (hc t (Nat.le_refl _) (by omega))
        obtain ⟨h3, h4⟩ := ih h1
        exact ⟨h3, by show F (rep mm (c t) k (mm a (c t))) = rep m (F (c t)) k (m (F a) (F (c t))); rw [h4, h2]⟩
    obtain ⟨h1, h2⟩ := hr (x t) ha
    obtain ⟨h3, h4⟩ := Ph_fo M hF (c := c) (x := x) (d := d) (t := t + 1) (fun j h1 h2 => hc j (by omega) (by omega)) h1
    refine ⟨h3, ?_⟩
    show F (fo mm c x (t + 1) d _) = fo m _ x (t + 1) d (rep m (F (c t)) (x t) (F a))
    rw [h4, h2]
/-- A map that respects the relations respects products. -/
theorem dyck (s : Shp O P C) (M : Mon S m e) (r : Rel O P C S m e h t0) : ∀ {d : Nat}, d ≤ O.length - t0 → ∀ {a b : List Int}, TT O (O.length - d) a → TT O (O.length - d) b → Ph O m e h d (mu O P C d a b) = m (Ph O m e h d a) (Ph O m e h d b)
  | 0, _, a, b, _, _ => (M.l1 M.one).symm
  | d + 1, hd, a, b, ha, hb => by
    have hi : O.length - (d + 1) < O.length := by omega
    have hit : t0 ≤ O.length - (d + 1) := by omega
    have e1 : O.length - d = O.length - (d + 1) + 1 := by omega
    have e2 : O.length - 1 - (O.length - (d + 1)) = d := by omega
    have e3 : O.length - (O.length - (d + 1) + 1) = d := by omega
    have hpos := s.pos hi
    have ba := ha.bd _ hi
    have bb := hb.bd _ hi
    have hS := r.mem _ hit hi
    have ih : ∀ {a b : List Int}, TT O (O.length - d) a → TT O (O.length - d) b → Ph O m e h d (mu O P C d a b) = m (Ph O m e h d a) (Ph O m e h d b) := fun h1 h2 => dyck s M r (by omega) h1 h2
    have cl : ∀ {a b : List Int}, TT O (O.length - d) a → TT O (O.length - d) b → TT O (O.length - d) (mu O P C d a b) := fun h1 h2 => mu_tt s (by omega) h1 h2
    have pin : ∀ x, S (Ph O m e h d x) := fun x => Ph_in M r (by omega) x
    generalize hie : O.length - (d + 1) = i at *
    have him : ∀ {x : List Int}, TT O (O.length - d) x → TT O (O.length - d) (img O C (mu O P C d) i x) ∧ m (Ph O m e h d x) (h i) = m (h i) (Ph O m e h d (img O C (mu O P C d) i x)) := by
      intro x hx
      have hc : ∀ j, i + 1 ≤ j → j < i + 1 + d → TT O (O.length - d) (cvec C i j) := fun j h1 h2 => by rw [e1]; exact s.cj i j (by omega) (by omega)
      have hzz : TT O (O.length - d) (zv O) := s.zv _
      obtain ⟨f1, f2⟩ := Ph_fo M (T := TT O (O.length - d)) (mm := mu O P C d) (F := Ph O m e h d) (fun a b h1 h2 => ⟨cl h1 h2, ih h1 h2⟩) (c := cvec C i) (x := nx x) hc hzz
      have eim : img O C (mu O P C d) i x = fo (mu O P C d) (cvec C i) (nx x) (i + 1) d (zv O) := by rw [img, e2]
      rw [eim]
      refine ⟨f1, ?_⟩
      rw [f2, Ph_zv M, M.fo_eq (fun j _ _ => pin _) M.one, M.l1 (M.ph fun j _ _ => pin _)]
      show m (ph m e h (nx x) (O.length - d) d) (h i) = _
      rw [e1]
      refine M.past_ph hS fun j h1 h2 => ⟨r.mem j (by omega) (by omega), pin _, ?_⟩
      have := r.cj i j hit (by omega) (by omega)
      rw [e3] at this
      exact this
    have hit' : ∀ (k : Nat) {x : List Int}, TT O (O.length - d) x → TT O (O.length - d) (iter (img O C (mu O P C d) i) k x) ∧ m (Ph O m e h d x) (pw m e (h i) k) = m (pw m e (h i) k) (Ph O m e h d (iter (img O C (mu O P C d) i) k x)) := by
      intro k
      induction k with
      | zero => exact fun {x} hx => ⟨hx, by show m _ e = m e _; rw [M.r1 (pin x)]; exact (M.l1 (pin x)).symm⟩
      | succ k ik =>
        intro x hx
        obtain ⟨g1, g2⟩ := him hx
        obtain ⟨g3, g4⟩ := ik g1
        refine ⟨g3, ?_⟩
        show m _ (m (pw m e (h i) k) (h i)) = m (m (pw m e (h i) k) (h i)) (Ph O m e h d (iter _ k (img O C (mu O P C d) i x)))
        rw [M.pw_comm hS, ← M.as (pin _) hS (M.pw hS k), g2, M.as hS (pin _) (M.pw hS k), g4, ← M.as hS (M.pw hS k) (pin _)]
    have ha0 : TT O (O.length - d) (a.set i 0) := by rw [e1]; exact ha.set0 hi hpos
    have hb0 : TT O (O.length - d) (b.set i 0) := by rw [e1]; exact hb.set0 hi hpos
    obtain ⟨k1, k2⟩ := hit' (nx b i) ha0
    have il : i < O.length - d := by omega
    rw [Ph_set il ha.len] at k2
    have er := ih k1 hb0
    rw [Ph_set il hb.len] at er
    have ct := cl k1 hb0
    have psucc : ∀ x, Ph O m e h (d + 1) x = m (pw m e (h i) (nx x i)) (Ph O m e h d x) := fun x => by rw [Ph_succ (by omega), hie]
    rw [psucc a, psucc b, psucc]
    generalize hL : iter (img O C (mu O P C d) i) (nx b i) (a.set i 0) = L at *
    have emu : mu O P C (d + 1) a b = if at_ a i + at_ b i ≥ at_ O i then (mu O P C d (pvec P i) (mu O P C d L (b.set i 0))).set i (at_ a i + at_ b i - at_ O i) else (mu O P C d L (b.set i 0)).set i (at_ a i + at_ b i) := by
      simp only [mu, hie, hL]
    have rhs : m (m (pw m e (h i) (nx a i)) (Ph O m e h d a)) (m (pw m e (h i) (nx b i)) (Ph O m e h d b)) = m (pw m e (h i) (nx a i + nx b i)) (Ph O m e h d (mu O P C d L (b.set i 0))) := by
      rw [er, M.pw_add hS, M.as (M.pw hS _) (pin _) (M.cl (M.pw hS _) (pin _)), ← M.as (pin _) (M.pw hS _) (pin _), k2, M.as (M.pw hS _) (pin _) (pin _), ← M.as (M.pw hS _) (M.pw hS _) (M.cl (pin _) (pin _))]
    rw [rhs, emu]
    have hn : (at_ a i + at_ b i).toNat = nx a i + nx b i := by show _ = (at_ a i).toNat + (at_ b i).toNat; omega
    have hat : ∀ {x : List Int} (c : Int), TT O (O.length - d) x → nx (x.set i c) i = c.toNat := fun {x} c hx => by show (at_ _ i).toNat = _; rw [at_set (by rw [hx.len]; exact hi), if_pos rfl]
    split
    · rename_i hge
      have hp : TT O (O.length - d) (pvec P i) := by rw [e1]; exact s.pw i hi
      have cp := cl hp ct
      rw [hat _ cp, Ph_set il cp.len, ih hp ct]
      have rp := r.pow i hit hi
      rw [e3] at rp
      rw [← rp, ← M.as (M.pw hS _) (M.pw hS _) (pin _), ← M.pw_add hS]
      congr 2
      show (at_ a i + at_ b i - at_ O i).toNat + (at_ O i).toNat = (at_ a i).toNat + (at_ b i).toNat
      omega
    · rw [hat _ ct, Ph_set il ct.len, hn]
end Go.Grp
set_option linter.unusedVariables false
set_option linter.unusedSimpArgs false
namespace Go.Grp
open Go.Ab Go.Lie
variable {O : List Int} {P : List (List Int)} {C : List (List (List Int))} {α : Type} {S : α → Prop} {m : α → α → α} {e : α} {h : Nat → α}
/-- A group on a subset. -/
structure Gp {α : Type} (S : α → Prop) (m : α → α → α) (e : α) : Prop extends Mon S m e where
  inv : ∀ {a}, S a → ∃ b, S b ∧ m a b = e ∧ m b a = e
theorem Gp.cancel (G : Gp S m e) {a b c : α} (ha : S a) (hb : S b) (hc : S c) (h : m a b = m a c) : b = c := by
  obtain ⟨i, hi, _, h1⟩ := G.inv ha
  have := congrArg (m i) h
  rwa [← G.as hi ha hb, ← G.as hi ha hc, h1, G.l1 hb, G.l1 hc] at this
theorem Gp.of_right (M : Mon S m e) (hr : ∀ {a}, S a → ∃ b, S b ∧ m a b = e) : Gp S m e := by
  refine ⟨M, fun {a} ha => ?_⟩
  obtain ⟨b, hb, h1⟩ := hr ha
  obtain ⟨c, hc, h2⟩ := hr hb
  refine ⟨b, hb, h1, ?_⟩
  have : a = c := by rw [← M.r1 ha, ← h2, ← M.as ha hb hc, h1, M.l1 hc]
  rw [this]; exact h2
theorem Mon.pw_ind (M : Mon S m e) {Q : α → Prop} (h1 : Q e) (hm : ∀ a b, S a → S b → Q a → Q b → Q (m a b)) {x : α} (hx : S x) (hq : Q x) : ∀ k, Q (Grp.pw m e x k)
  | 0 => h1
  | k + 1 => hm _ _ (M.pw hx k) hx (M.pw_ind h1 hm hx hq k) hq
theorem Mon.ph_ind (M : Mon S m e) {Q : α → Prop} (h1 : Q e) (hm : ∀ a b, S a → S b → Q a → Q b → Q (m a b)) {h : Nat → α} {x : Nat → Nat} : ∀ {d t : Nat}, (∀ j, t ≤ j → j < t + d → S (h j) ∧ Q (h j)) → Q (Grp.ph m e h x t d)
  | 0, t, _ => h1
  | d + 1, t, hh => by
    obtain ⟨g1, g2⟩ := hh t (Nat.le_refl _) (by omega)
    exact hm _ _ (M.pw g1 _) (M.ph fun j a b => (hh j (by omega) (by omega)).1) (M.pw_ind h1 hm g1 g2 _) (M.ph_ind h1 hm fun j a b => hh j (by omega) (by omega))
/-- Places with exponent 0 may be left out. -/
theorem Mon.ph_skip (M : Mon S m e) {h : Nat → α} {x : Nat → Nat} {d : Nat} : ∀ {k t : Nat}, (∀ j, t ≤ j → j < t + k → x j = 0) → (∀ j, t + k ≤ j → j < t + k + d → S (h j)) → Grp.ph m e h x t (k + d) = Grp.ph m e h x (t + k) d
  | 0, t, _, _ => by rw [Nat.zero_add, Nat.add_zero]
  | k + 1, t, h0, hs => by
    have := M.ph_skip (h := h) (x := x) (d := d) (k := k) (t := t + 1) (fun j a b => h0 j (by omega) (by omega)) (fun j a b => hs j (by omega) (by omega))
    rw [show k + 1 + d = (k + d) + 1 by omega, Grp.ph, h0 t (Nat.le_refl _) (by omega), this, show t + 1 + k = t + (k + 1) by omega]
    exact M.l1 (M.ph fun j a b => hs j (by omega) (by omega))
abbrev unit (O : List Int) (j : Nat) : List Int := (zv O).set j 1
theorem Shp.unit (s : Shp O P C) {t j : Nat} (hj : j < O.length) (ht : t ≤ j) : TT O t (unit O j) := (s.zv t).set hj ht ⟨by omega, by have := (s.pr j hj).1; omega⟩
/-- The four conditions of a level. -/
structure Lv (O : List Int) (P : List (List Int)) (C : List (List (List Int))) (i : Nat) : Prop where
  pow : ∀ j, i < j → j < O.length → pw (mu O P C (O.length - 1 - i)) (zv O) (cvec C i j) (nx O j) = img O C (mu O P C (O.length - 1 - i)) i (pvec P j)
  cj : ∀ j k, i < j → j < k → k < O.length → mu O P C (O.length - 1 - i) (cvec C i k) (cvec C i j) = mu O P C (O.length - 1 - i) (cvec C i j) (img O C (mu O P C (O.length - 1 - i)) i (cvec C j k))
  fix : img O C (mu O P C (O.length - 1 - i)) i (pvec P i) = pvec P i
  inn : ∀ j, i < j → j < O.length → mu O P C (O.length - 1 - i) (pvec P i) (iter (img O C (mu O P C (O.length - 1 - i)) i) (nx O i) (unit O j)) = mu O P C (O.length - 1 - i) (unit O j) (pvec P i)
/-- What the walk of a level's facts rests on: the tail behind it. -/
structure Beh (O : List Int) (P : List (List Int)) (C : List (List (List Int))) (d : Nat) : Prop where
  le : d ≤ O.length
  gp : Gp (TT O (O.length - d)) (mu O P C d) (zv O)
  nf : ∀ {x}, TT O (O.length - d) x → Ph O (mu O P C d) (zv O) (unit O) d x = x
theorem set_set0 {x : List Int} {i : Nat} (h : at_ x i = 0) (hi : i < x.length) : x.set i 0 = x := by
  refine ext_at (by simp) fun j hj => ?_
  rw [at_set hi]; split
  · rename_i e; subst e; exact h.symm
  · rfl
theorem set_twice (x : List Int) (i : Nat) (a b : Int) : (x.set i a).set i b = x.set i b := List.set_set ..
theorem set_at {x : List Int} {i : Nat} (hi : i < x.length) : (x.set i 0).set i (at_ x i) = x := by
  rw [set_twice]
  refine ext_at (by simp) fun j hj => ?_
  rw [at_set hi]; split
  · rename_i e; subst e; rfl
  · rfl
section
variable {d i : Nat}
/-- The map of a level. -/
abbrev al (O : List Int) (P : List (List Int)) (C : List (List (List Int))) (d i : Nat) : List Int → List Int := img O C (mu O P C d) i
theorem al_ph (s : Shp O P C) (B : Beh O P C d) (hi : O.length - d = i + 1) (x : List Int) : al O P C d i x = Ph O (mu O P C d) (zv O) (cvec C i) d x := by
  have hle := B.le
  have hs : ∀ j, i + 1 ≤ j → j < i + 1 + d → TT O (O.length - d) (cvec C i j) := fun j h1 h2 => by rw [hi]; exact s.cj i j (by omega) (by omega)
  have e : O.length - 1 - i = d := by omega
  show fo _ _ _ _ _ _ = ph _ _ _ _ _ _
  rw [e, B.gp.fo_eq hs B.gp.one, B.gp.l1 (B.gp.ph hs), hi]
theorem al_zv (s : Shp O P C) (B : Beh O P C d) (hi : O.length - d = i + 1) : al O P C d i (zv O) = zv O := by rw [al_ph s B hi, Ph_zv B.gp.toMon]
theorem lv_rel (s : Shp O P C) (B : Beh O P C d) (hi : O.length - d = i + 1) (L : Lv O P C i) : Rel O P C (TT O (O.length - d)) (mu O P C d) (zv O) (cvec C i) (i + 1) := by
  have hle := B.le
  have e : O.length - 1 - i = d := by omega
  have hs : ∀ j, i + 1 ≤ j → j < O.length → TT O (O.length - d) (cvec C i j) := fun j h1 h2 => by rw [hi]; exact s.cj i j (by omega) h2
  have sk : ∀ {j : Nat} {x : List Int}, i < j → j < O.length → TT O (j + 1) x → al O P C d i x = Ph O (mu O P C d) (zv O) (cvec C i) (O.length - (j + 1)) x := fun {j x} h1 h2 hx => by
    rw [al_ph s B hi]
    show ph _ _ _ _ _ _ = ph _ _ _ _ _ _
    have := B.gp.toMon.ph_skip (h := cvec C i) (x := nx x) (d := O.length - (j + 1)) (k := j - i) (t := i + 1) (fun t a b => by show (at_ x t).toNat = 0; rw [hx.zero t (by omega)]; rfl) (fun t a b => hs t (by omega) (by omega))
    rw [show j - i + (O.length - (j + 1)) = d by omega, show i + 1 + (j - i) = O.length - (O.length - (j + 1)) by omega] at this
    rw [hi]; exact this
  refine ⟨hs, fun j h1 h2 => ?_, fun j k h1 h2 h3 => ?_⟩
  · have := L.pow j (by omega) h2
    rw [e] at this
    rw [this]; exact sk (by omega) h2 (s.pw j h2)
  · have := L.cj j k (by omega) h2 h3
    rw [e] at this
    rw [this]; congr 1; exact sk (by omega) (by omega) (s.cj j k h2 h3)
theorem al_in (s : Shp O P C) (B : Beh O P C d) (hi : O.length - d = i + 1) (x : List Int) : TT O (O.length - d) (al O P C d i x) := by
  rw [hi]
  exact img_tt s (by rw [← hi]; exact fun a b h1 h2 => B.gp.cl h1 h2) x
theorem al_mul (s : Shp O P C) (B : Beh O P C d) (hi : O.length - d = i + 1) (L : Lv O P C i) {a b : List Int} (ha : TT O (O.length - d) a) (hb : TT O (O.length - d) b) : al O P C d i (mu O P C d a b) = mu O P C d (al O P C d i a) (al O P C d i b) := by
  rw [al_ph s B hi, al_ph s B hi, al_ph s B hi]
  exact dyck s B.gp.toMon (lv_rel s B hi L) (by have := B.le; omega) ha hb
theorem it_in (s : Shp O P C) (B : Beh O P C d) (hi : O.length - d = i + 1) (k : Nat) {x : List Int} (hx : TT O (O.length - d) x) : TT O (O.length - d) (iter (al O P C d i) k x) := iter_in (fun a _ => al_in s B hi a) k hx
theorem it_mul (s : Shp O P C) (B : Beh O P C d) (hi : O.length - d = i + 1) (L : Lv O P C i) : ∀ (k : Nat) {a b : List Int}, TT O (O.length - d) a → TT O (O.length - d) b → iter (al O P C d i) k (mu O P C d a b) = mu O P C d (iter (al O P C d i) k a) (iter (al O P C d i) k b)
  | 0, a, b, ha, hb => rfl
  | k + 1, a, b, ha, hb => by
    show iter _ k (al O P C d i _) = _
    rw [al_mul s B hi L ha hb, it_mul s B hi L k (al_in s B hi a) (al_in s B hi b)]
    rfl
theorem it_fix {f : List Int → List Int} {w : List Int} (h : f w = w) : ∀ k, iter f k w = w
  | 0 => rfl
  | k + 1 => by show iter f k (f w) = w; rw [h]; exact it_fix h k
/-- The power of the level's generator moves past. -/
theorem lv_past (s : Shp O P C) (B : Beh O P C d) (hi : O.length - d = i + 1) (L : Lv O P C i) {x : List Int} (hx : TT O (O.length - d) x) : mu O P C d (pvec P i) (iter (al O P C d i) (nx O i) x) = mu O P C d x (pvec P i) := by
  have hle := B.le
  have hil : i < O.length := by omega
  have e : O.length - 1 - i = d := by omega
  have hw : TT O (O.length - d) (pvec P i) := by rw [hi]; exact s.pw i hil
  have M := B.gp.toMon
  have := M.ph_ind (Q := fun x => mu O P C d (pvec P i) (iter (al O P C d i) (nx O i) x) = mu O P C d x (pvec P i)) ?_ ?_ (h := unit O) (x := nx x) (d := d) (t := O.length - d) fun j h1 h2 => ⟨s.unit (by omega) h1, ?_⟩
  · have nf := B.nf hx
    rw [show Ph O (mu O P C d) (zv O) (unit O) d x = ph (mu O P C d) (zv O) (unit O) (nx x) (O.length - d) d from rfl] at nf
    rw [nf] at this
    exact this
  · rw [it_fix (al_zv s B hi), M.r1 hw, M.l1 hw]
  · intro a b ha hb h1 h2
    rw [it_mul s B hi L _ ha hb, ← M.as hw (it_in s B hi _ ha) (it_in s B hi _ hb), h1, M.as ha hw (it_in s B hi _ hb), h2, ← M.as ha hb hw]
  · have := L.inn j (by omega) (by omega)
    rw [e] at this
    exact this
/-- A product with the first exponents apart. -/
theorem mu_pair (s : Shp O P C) (B : Beh O P C d) (hi : O.length - d = i + 1) {a b : Int} {x y : List Int} (hx : TT O (O.length - d) x) (hy : TT O (O.length - d) y) :
    mu O P C (d + 1) (x.set i a) (y.set i b) = if a + b ≥ at_ O i then (mu O P C d (pvec P i) (mu O P C d (iter (al O P C d i) b.toNat x) y)).set i (a + b - at_ O i) else (mu O P C d (iter (al O P C d i) b.toNat x) y).set i (a + b) := by
  have hle := B.le
  have hil : i < O.length := by omega
  have h0 : O.length - (d + 1) = i := by omega
  have xl : i < x.length := by rw [hx.len]; exact hil
  have yl : i < y.length := by rw [hy.len]; exact hil
  have zx : at_ x i = 0 := hx.zero i (by omega)
  have zy : at_ y i = 0 := hy.zero i (by omega)
  simp only [mu, h0]
  rw [set_twice, set_twice, set_set0 zx xl, set_set0 zy yl]
  have e1 : at_ (x.set i a) i = a := by rw [at_set xl, if_pos rfl]
  have e2 : at_ (y.set i b) i = b := by rw [at_set yl, if_pos rfl]
  show (if at_ (x.set i a) i + at_ (y.set i b) i ≥ _ then _ else _) = _
  have e3 : nx (y.set i b) i = b.toNat := by show (at_ _ i).toNat = _; rw [e2]
  rw [e1, e2, e3]
theorem pair (h : i < O.length) {t : Nat} {x : List Int} (hx : TT O i x) (hpos : 0 < at_ O i) : ∃ y a, TT O (i + 1) y ∧ x = y.set i a ∧ 0 ≤ a ∧ a < at_ O i :=
  ⟨x.set i 0, at_ x i, hx.set0 h hpos, (set_at (by rw [hx.len]; exact h)).symm, (hx.bd i h).1, (hx.bd i h).2⟩
/-- The tail with one generator more. -/
theorem beh_succ (s : Shp O P C) (B : Beh O P C d) (hi : O.length - d = i + 1) (L : Lv O P C i) : Beh O P C (d + 1) := by
  have hle := B.le
  have hil : i < O.length := by omega
  have h0 : O.length - (d + 1) = i := by omega
  have e : O.length - 1 - i = d := by omega
  have hpos := s.pos hil
  have hw : TT O (O.length - d) (pvec P i) := by rw [hi]; exact s.pw i hil
  have M := B.gp.toMon
  have mp := fun {a b : Int} {x y : List Int} (hx : TT O (O.length - d) x) (hy : TT O (O.length - d) y) => mu_pair s B hi (a := a) (b := b) hx hy
  have ii := fun (k : Nat) {x : List Int} (hx : TT O (O.length - d) x) => it_in s B hi k hx
  have im := fun (k : Nat) {x y : List Int} (hx : TT O (O.length - d) x) (hy : TT O (O.length - d) y) => it_mul s B hi L k hx hy
  have iw : ∀ k, iter (al O P C d i) k (pvec P i) = pvec P i := fun k => it_fix (by have := L.fix; rw [e] at this; exact this) k
  have iz : ∀ k, iter (al O P C d i) k (zv O) = zv O := fun k => it_fix (al_zv s B hi) k
  have pr : ∀ {x : List Int}, TT O i x → ∃ y a, TT O (O.length - d) y ∧ x = y.set i a ∧ 0 ≤ a ∧ a < at_ O i := fun hx => by rw [hi]; exact pair hil (t := 0) hx hpos
  have zs : zv O = (zv O).set i 0 := (set_set0 (at_rep _ i) (by simp; exact hil)).symm
  have hz : TT O (O.length - d) (zv O) := s.zv _
  have l1 : ∀ {a : List Int}, TT O i a → mu O P C (d + 1) (zv O) a = a := fun {a} ha => by
    obtain ⟨x, a, hx, rfl, b1, b2⟩ := pr ha
    rw [zs, mp hz hx, if_neg (by omega), iz, M.l1 hx, Int.zero_add]
  have r1 : ∀ {a : List Int}, TT O i a → mu O P C (d + 1) a (zv O) = a := fun {a} ha => by
    obtain ⟨x, a, hx, rfl, b1, b2⟩ := pr ha
    conv => lhs; rw [zs]
    rw [mp hx hz, if_neg (by omega), Int.add_zero]
    show (mu O P C d x (zv O)).set i a = _
    rw [M.r1 hx]
  have cl : ∀ {a b : List Int}, TT O i a → TT O i b → TT O i (mu O P C (d + 1) a b) := fun {a b} ha hb => by
    have := mu_tt s (d := d + 1) (by omega) (by rw [h0]; exact ha) (by rw [h0]; exact hb)
    rwa [h0] at this
  have assc : ∀ {a b c : List Int}, TT O i a → TT O i b → TT O i c → mu O P C (d + 1) (mu O P C (d + 1) a b) c = mu O P C (d + 1) a (mu O P C (d + 1) b c) := fun {a b c} ha hb hc => by
    obtain ⟨x, a, hx, rfl, a1, a2⟩ := pr ha
    obtain ⟨y, b, hy, rfl, b1, b2⟩ := pr hb
    obtain ⟨z, c, hz', rfl, c1, c2⟩ := pr hc
    have A := ii b.toNat hx
    have Bc := ii c.toNat hy
    have AB := M.cl A hy
    have BZ := M.cl Bc hz'
    have past := fun {u : List Int} (hu : TT O (O.length - d) u) => lv_past s B hi L hu
    have ic : iter (al O P C d i) c.toNat (iter (al O P C d i) b.toNat x) = iter (al O P C d i) (b.toNat + c.toNat) x := (iter_add _ _ _ _).symm
    have X := ii (b.toNat + c.toNat) hx
    rw [mp hx hy, mp hy hz']
    by_cases h1 : a + b ≥ at_ O i
    · rw [if_pos h1, mp (M.cl hw AB) hz', im _ hw AB, iw, im _ A hy, ic]
      by_cases h2 : b + c ≥ at_ O i
      · rw [if_pos h2, mp hx (M.cl hw BZ)]
        have hk : (b + c - at_ O i).toNat + nx O i = b.toNat + c.toNat := by show _ + (at_ O i).toNat = _; omega
        have hX := past (ii (b + c - at_ O i).toNat hx)
        rw [← iter_add, hk] at hX
        have e5 : mu O P C d (iter (al O P C d i) (b + c - at_ O i).toNat x) (mu O P C d (pvec P i) (mu O P C d (iter (al O P C d i) c.toNat y) z)) = mu O P C d (mu O P C d (pvec P i) (mu O P C d (iter (al O P C d i) (b.toNat + c.toNat) x) (iter (al O P C d i) c.toNat y))) z := by
          rw [← M.as (ii _ hx) hw BZ, ← hX, M.as hw X BZ, ← M.as X Bc hz', ← M.as hw (M.cl X Bc) hz']
        rw [e5]
        by_cases h3 : a + b - at_ O i + c ≥ at_ O i
        · rw [if_pos h3, if_pos (by omega)]; congr 1; omega
        · rw [if_neg h3, if_neg (by omega)]; congr 1; omega
      · rw [if_neg h2, mp hx BZ, if_neg (by omega), if_pos (by omega), show (b + c).toNat = b.toNat + c.toNat by omega]
        rw [← M.as X Bc hz', ← M.as hw (M.cl X Bc) hz']
        congr 1; omega
    · rw [if_neg h1, mp AB hz', im _ A hy, ic]
      by_cases h2 : b + c ≥ at_ O i
      · rw [if_pos h2, mp hx (M.cl hw BZ), if_pos (by omega), if_neg (by omega)]
        have hk : (b + c - at_ O i).toNat + nx O i = b.toNat + c.toNat := by show _ + (at_ O i).toNat = _; omega
        have hX := past (ii (b + c - at_ O i).toNat hx)
        rw [← iter_add, hk] at hX
        rw [← M.as (ii _ hx) hw BZ, ← hX, M.as hw X BZ, ← M.as X Bc hz']
        congr 1; omega
      · rw [if_neg h2, mp hx BZ, show (b + c).toNat = b.toNat + c.toNat by omega, ← M.as X Bc hz']
        by_cases h3 : a + b + c ≥ at_ O i
        · rw [if_pos h3, if_pos (by omega)]; congr 1; omega
        · rw [if_neg h3, if_neg (by omega)]; congr 1; omega
  have Mn : Mon (TT O (O.length - (d + 1))) (mu O P C (d + 1)) (zv O) := by
    rw [h0]; exact ⟨s.zv _, cl, assc, l1, r1⟩
  refine ⟨by omega, Gp.of_right Mn ?_, ?_⟩
  · rw [h0]
    intro a ha
    obtain ⟨x, a, hx, rfl, a1, a2⟩ := pr ha
    by_cases h0' : a = 0
    · subst h0'
      obtain ⟨y, hy, h1, _⟩ := B.gp.inv hx
      refine ⟨y.set i 0, (hy.mono (by omega)).set hil (Nat.le_refl _) ⟨by omega, hpos⟩, ?_⟩
      rw [mp hx hy, if_neg (by omega)]
      show (mu O P C d x y).set i _ = _
      rw [h1, Int.add_zero]; exact zs.symm
    · obtain ⟨y, hy, h1, _⟩ := B.gp.inv (M.cl hw (ii (at_ O i - a).toNat hx))
      refine ⟨y.set i (at_ O i - a), (hy.mono (by omega)).set hil (Nat.le_refl _) ⟨by omega, by omega⟩, ?_⟩
      rw [mp hx hy, if_pos (by omega), ← M.as hw (ii _ hx) hy, h1, show a + (at_ O i - a) - at_ O i = 0 by omega]
      exact zs.symm
  · rw [h0]
    intro x hx
    obtain ⟨y, a, hy, rfl, a1, a2⟩ := pr hx
    have yl : i < y.length := by rw [hy.len]; exact hil
    have hu : ∀ k : Nat, (k : Int) < at_ O i → pw (mu O P C (d + 1)) (zv O) (unit O i) k = (zv O).set i k := by
      intro k
      induction k with
      | zero => intro _; exact zs
      | succ k ih =>
        intro hk
        show mu O P C (d + 1) (pw _ _ _ k) (unit O i) = _
        rw [ih (by omega), mp hz hz, if_neg (by omega)]
        show (mu O P C d (al O P C d i (zv O)) (zv O)).set i _ = _
        rw [al_zv s B hi, M.l1 hz]
        congr 1
    have sub : ∀ {u v : List Int}, TT O (O.length - d) u → TT O (O.length - d) v → mu O P C (d + 1) u v = mu O P C d u v := fun {u v} hu hv => by
      have ul : i < u.length := by rw [hu.len]; exact hil
      have vl : i < v.length := by rw [hv.len]; exact hil
      have h3 := mp (a := 0) (b := 0) hu hv
      rw [set_set0 (hu.zero i (by omega)) ul, set_set0 (hv.zero i (by omega)) vl, if_neg (by omega)] at h3
      rw [h3]
      have huv := M.cl hu hv
      exact set_set0 (huv.zero i (by omega)) (by show i < (mu O P C d u v).length; rw [huv.len]; exact hil)
    have pws : ∀ {u : List Int}, TT O (O.length - d) u → ∀ k, pw (mu O P C (d + 1)) (zv O) u k = pw (mu O P C d) (zv O) u k := fun {u} hu k => by
      induction k with
      | zero => rfl
      | succ k ih => show mu O P C (d + 1) (pw _ _ u k) u = mu O P C d (pw _ _ u k) u; rw [ih, sub (M.pw hu k) hu]
    have phs : ∀ (c t : Nat), O.length - d ≤ t → t + c ≤ O.length → ph (mu O P C (d + 1)) (zv O) (unit O) (nx (y.set i a)) t c = ph (mu O P C d) (zv O) (unit O) (nx y) t c := by
      intro c
      induction c with
      | zero => intro t _ _; rfl
      | succ c ih =>
        intro t h1 h2
        have hut : TT O (O.length - d) (unit O t) := s.unit (by omega) h1
        have hnx : nx (y.set i a) t = nx y t := by show (at_ _ t).toNat = (at_ y t).toNat; rw [at_set yl, if_neg (by omega)]
        rw [ph, ph, ih (t + 1) (by omega) (by omega), pws hut, hnx, sub (M.pw hut _) (M.ph fun j g1 g2 => s.unit (by omega) (by omega))]
    rw [Ph_succ (by omega), h0, show Ph O (mu O P C (d + 1)) (zv O) (unit O) d (y.set i a) = Ph O (mu O P C d) (zv O) (unit O) d y from phs d _ (Nat.le_refl _) (by omega), B.nf hy]
    have hnx : nx (y.set i a) i = a.toNat := by show (at_ _ i).toNat = _; rw [at_set yl, if_pos rfl]
    have ys : y = y.set i 0 := (set_set0 (hy.zero i (by omega)) yl).symm
    rw [hnx, hu _ (by omega)]
    conv => lhs; rw [ys]
    rw [mp hz hy, if_neg (by omega)]
    show (mu O P C d (zv O) y).set i _ = _
    rw [M.l1 hy]; congr 1; omega
theorem beh_zero (s : Shp O P C) : Beh O P C 0 := by
  have h0 : ∀ {x : List Int}, TT O (O.length - 0) x → x = zv O := fun {x} hx => hx.ext (s.zv _) fun j h1 h2 => by omega
  refine ⟨Nat.zero_le _, ⟨⟨s.zv _, fun _ _ => s.zv _, fun _ _ _ => rfl, fun h => (h0 h).symm, fun h => (h0 h).symm⟩, fun h => ⟨zv O, s.zv _, rfl, rfl⟩⟩, fun h => (h0 h).symm⟩
end
/-- A presentation is consistent. -/
def Cons (O : List Int) (P : List (List Int)) (C : List (List (List Int))) : Prop := ∀ i, i < O.length → Lv O P C i
/-- .. from some level on. -/
theorem beh_of (s : Shp O P C) : ∀ {d : Nat}, d ≤ O.length → (∀ i, O.length - d ≤ i → i < O.length → Lv O P C i) → Beh O P C d
  | 0, _, _ => beh_zero s
  | d + 1, hd, h => beh_succ s (beh_of s (by omega) fun i h1 h2 => h i (by omega) h2) (by omega) (h (O.length - (d + 1)) (Nat.le_refl _) (by omega))
end Go.Grp
set_option linter.unusedVariables false
set_option linter.unusedSimpArgs false
namespace Go.Grp
open Go.Ab Go.Lie
variable {O : List Int} {P : List (List Int)} {C : List (List (List Int))} {α : Type} {S : α → Prop} {m : α → α → α} {e : α} {h : Nat → α} {d i : Nat}
theorem mu_sub1 (s : Shp O P C) (hd : d + 1 ≤ O.length) {u v : List Int} (hu : TT O (O.length - d) u) (hv : TT O (O.length - d) v) : mu O P C (d + 1) u v = mu O P C d u v := by
  have hil : O.length - (d + 1) < O.length := by omega
  have zu := hu.zero (O.length - (d + 1)) (by omega)
  have zv' := hv.zero (O.length - (d + 1)) (by omega)
  have huv := mu_tt s (by omega : d ≤ O.length) hu hv
  have hp := s.pos hil
  simp only [mu]
  rw [set_set0 zu (by rw [hu.len]; exact hil), set_set0 zv' (by rw [hv.len]; exact hil), zu, zv', if_neg (by omega)]
  have : nx v (O.length - (d + 1)) = 0 := by show (at_ v _).toNat = 0; rw [zv']; rfl
  rw [this]
  exact set_set0 (huv.zero _ (by omega)) (by show _ < (mu O P C d u v).length; rw [huv.len]; exact hil)
theorem mu_sub (s : Shp O P C) : ∀ {k : Nat}, d + k ≤ O.length → ∀ {u v : List Int}, TT O (O.length - d) u → TT O (O.length - d) v → mu O P C (d + k) u v = mu O P C d u v
  | 0, _, u, v, _, _ => rfl
  | k + 1, hk, u, v, hu, hv => by
    rw [show d + (k + 1) = (d + k) + 1 by omega, mu_sub1 s (by omega) (hu.mono (by omega)) (hv.mono (by omega)), mu_sub s (by omega) hu hv]
theorem pw_sub {m' : α → α → α} (h : ∀ a b, S a → S b → m' a b = m a b) (M : Mon S m e) {x : α} (hx : S x) : ∀ k, pw m' e x k = pw m e x k
  | 0 => rfl
  | k + 1 => by show m' (pw m' e x k) x = m (pw m e x k) x; rw [pw_sub h M hx k, h _ _ (M.pw hx k) hx]
theorem ph_sub {m' : α → α → α} (h : ∀ a b, S a → S b → m' a b = m a b) (M : Mon S m e) {f : Nat → α} {x : Nat → Nat} : ∀ {c t : Nat}, (∀ j, t ≤ j → j < t + c → S (f j)) → ph m' e f x t c = ph m e f x t c
  | 0, t, _ => rfl
  | c + 1, t, hf => by
    have ht := hf t (Nat.le_refl _) (by omega)
    have i := ph_sub h M (f := f) (x := x) (c := c) (t := t + 1) fun j a b => hf j (by omega) (by omega)
    rw [ph, ph, i, pw_sub h M ht]
    exact h _ _ (M.pw ht _) (M.ph fun j a b => hf j (by omega) (by omega))
theorem Ph_unit {m : List Int → List Int → List Int} (M : Mon (TT O (O.length - d)) m (zv O)) (s : Shp O P C) {f : Nat → List Int} (hf : ∀ j, O.length - d ≤ j → j < O.length → TT O (O.length - d) (f j)) (hd : d ≤ O.length) {k : Nat} (h1 : O.length - d ≤ k) (h2 : k < O.length) : Ph O m (zv O) f d (unit O k) = f k := by
  have : ∀ (c t : Nat), O.length - d ≤ t → t + c = O.length → ph m (zv O) f (nx (unit O k)) t c = if t ≤ k then f k else zv O := by
    intro c
    induction c with
    | zero => intro t g1 g2; rw [ph, if_neg (by omega)]
    | succ c ih =>
      intro t g1 g2
      have hn : nx (unit O k) t = if t = k then 1 else 0 := by
        show (at_ ((zv O).set k 1) t).toNat = _
        rw [at_set (by simp; exact h2)]
        split
        · rfl
        · rw [at_rep]; rfl
      rw [ph, ih (t + 1) (by omega) (by omega), hn]
      have ft := hf t g1 (by omega)
      by_cases e : t = k
      · subst e
        rw [if_pos rfl, if_neg (by omega), if_pos (Nat.le_refl _), M.pw_one ft, M.r1 ft]
      · rw [if_neg e]
        show m (zv O) _ = _
        by_cases g : t ≤ k
        · rw [if_pos (by omega), if_pos g, M.l1 (hf k h1 h2)]
        · rw [if_neg (by omega), if_neg g, M.l1 M.one]
  have := this d (O.length - d) (Nat.le_refl _) (by omega)
  rw [if_pos h1] at this
  exact this
/-- The tail of the last d generators, with all that is known. -/
structure Full (O : List Int) (P : List (List Int)) (C : List (List (List Int))) (d : Nat) : Prop extends Beh O P C d where
  rel : Rel O P C (TT O (O.length - d)) (mu O P C d) (zv O) (unit O) (O.length - d)
theorem full_zero (s : Shp O P C) : Full O P C 0 := ⟨beh_zero s, ⟨fun j h1 h2 => s.unit h2 h1, fun j h1 h2 => by omega, fun j k h1 h2 h3 => by omega⟩⟩
theorem full_succ (s : Shp O P C) (B : Full O P C d) (hi : O.length - d = i + 1) (L : Lv O P C i) : Full O P C (d + 1) := by
  have hle := B.le
  have hil : i < O.length := by omega
  have h0 : O.length - (d + 1) = i := by omega
  have B1 := beh_succ s B.toBeh hi L
  refine ⟨B1, ?_⟩
  have M := B.gp.toMon
  have M1 := B1.gp.toMon
  have hpos := s.pos hil
  have hz : TT O (O.length - d) (zv O) := s.zv _
  have hw : TT O (O.length - d) (pvec P i) := by rw [hi]; exact s.pw i hil
  have sub : ∀ a b, TT O (O.length - d) a → TT O (O.length - d) b → mu O P C (d + 1) a b = mu O P C d a b := fun a b ha hb => mu_sub1 s (by omega) ha hb
  have un : ∀ j, O.length - d ≤ j → j < O.length → TT O (O.length - d) (unit O j) := fun j h1 h2 => s.unit h2 h1
  have mp := fun {a b : Int} {x y : List Int} (hx : TT O (O.length - d) x) (hy : TT O (O.length - d) y) => mu_pair s B.toBeh hi (a := a) (b := b) hx hy
  have zs : zv O = (zv O).set i 0 := (set_set0 (at_rep _ i) (by simp; exact hil)).symm
  have nfx : ∀ {j : Nat} {x : List Int}, i ≤ j → j < O.length → TT O (j + 1) x → Ph O (mu O P C (d + 1)) (zv O) (unit O) (O.length - (j + 1)) x = x := fun {j x} h1 h2 hx => by
    have hn := B.nf (hx.mono (by omega : O.length - d ≤ j + 1))
    have e1 : Ph O (mu O P C (d + 1)) (zv O) (unit O) (O.length - (j + 1)) x = Ph O (mu O P C d) (zv O) (unit O) (O.length - (j + 1)) x := ph_sub sub M fun k a b => un k (by omega) (by omega)
    rw [e1]
    have := M.ph_skip (h := unit O) (x := nx x) (d := O.length - (j + 1)) (k := j - i) (t := O.length - d) (fun t a b => by show (at_ x t).toNat = 0; rw [hx.zero t (by omega)]; rfl) (fun t a b => un t (by omega) (by omega))
    rw [show j - i + (O.length - (j + 1)) = d by omega, show O.length - d + (j - i) = O.length - (O.length - (j + 1)) by omega] at this
    show ph _ _ _ _ _ _ = x
    rw [← this]; exact hn
  rw [h0]
  refine ⟨fun j h1 h2 => s.unit h2 h1, fun j h1 h2 => ?_, fun j k h1 h2 h3 => ?_⟩
  · rw [nfx h1 h2 (s.pw j h2)]
    by_cases e : j = i
    · subst e
      have hu : ∀ k : Nat, (k : Int) < at_ O j → pw (mu O P C (d + 1)) (zv O) (unit O j) k = (zv O).set j k := by
        intro k
        induction k with
        | zero => intro _; exact zs
        | succ k ih =>
          intro hk
          show mu O P C (d + 1) (pw _ _ _ k) (unit O j) = _
          rw [ih (by omega), mp hz hz, if_neg (by omega)]
          show (mu O P C d (al O P C d j (zv O)) (zv O)).set j _ = _
          rw [al_zv s B.toBeh hi, M.l1 hz]
          congr 1
      obtain ⟨o, ho⟩ : ∃ o : Nat, nx O j = o + 1 := ⟨nx O j - 1, by show (at_ O j).toNat = _; have : nx O j = (at_ O j).toNat := rfl; omega⟩
      have hoi : at_ O j = (o : Int) + 1 := by have : nx O j = (at_ O j).toNat := rfl; omega
      rw [ho]
      show mu O P C (d + 1) (pw _ _ _ o) (unit O j) = _
      rw [hu o (by omega), mp hz hz, if_pos (by omega)]
      show (mu O P C d (pvec P j) (mu O P C d (al O P C d j (zv O)) (zv O))).set j _ = _
      rw [al_zv s B.toBeh hi, M.l1 hz, M.r1 hw, show (o : Int) + 1 - at_ O j = 0 by omega]
      exact set_set0 (hw.zero j (by omega)) (by rw [hw.len]; exact hil)
    · rw [pw_sub sub M (un j (by omega) h2), B.rel.pow j (by omega) h2]
      have hn := nfx h1 h2 (s.pw j h2)
      have e1 : Ph O (mu O P C (d + 1)) (zv O) (unit O) (O.length - (j + 1)) (pvec P j) = Ph O (mu O P C d) (zv O) (unit O) (O.length - (j + 1)) (pvec P j) := ph_sub sub M fun k a b => un k (by omega) (by omega)
      rw [← e1]; exact hn
  · rw [nfx h1 (by omega) (s.cj j k h2 h3)]
    by_cases e : j = i
    · subst e
      have hc : TT O (O.length - d) (cvec C j k) := by rw [hi]; exact s.cj j k h2 h3
      have uk := un k (by omega) h3
      have zu := uk.zero j (by omega)
      have zc := hc.zero j (by omega)
      have e1 : mu O P C (d + 1) (unit O k) (unit O j) = (cvec C j k).set j 1 := by
        have := mp (a := 0) (b := 1) uk hz
        rw [set_set0 zu (by rw [uk.len]; exact hil), if_neg (by have := (s.pr j hil).1; omega)] at this
        rw [this]
        show (mu O P C d (al O P C d j (unit O k)) (zv O)).set j _ = _
        rw [al_ph s B.toBeh hi, Ph_unit M s (fun q a b => by rw [hi]; exact s.cj j q (by omega) b) hle (by omega) h3, M.r1 hc]
        congr 1
      have e2 : mu O P C (d + 1) (unit O j) (cvec C j k) = (cvec C j k).set j 1 := by
        have := mp (a := 1) (b := 0) hz hc
        rw [set_set0 zc (by rw [hc.len]; exact hil), if_neg (by have := (s.pr j hil).1; omega)] at this
        rw [this]
        show (mu O P C d (zv O) (cvec C j k)).set j _ = _
        rw [M.l1 hc]
        congr 1
      rw [e1, e2]
    · have hcj : TT O (O.length - d) (cvec C j k) := (s.cj j k h2 h3).mono (by omega)
      have hn := nfx h1 (by omega) (s.cj j k h2 h3)
      have e1 : Ph O (mu O P C (d + 1)) (zv O) (unit O) (O.length - (j + 1)) (cvec C j k) = Ph O (mu O P C d) (zv O) (unit O) (O.length - (j + 1)) (cvec C j k) := ph_sub sub M fun k a b => un k (by omega) (by omega)
      rw [e1] at hn
      have := B.rel.cj j k (by omega) h2 h3
      rw [hn] at this
      rw [sub _ _ (un k (by omega) h3) (un j (by omega) (by omega)), sub _ _ (un j (by omega) (by omega)) hcj]
      exact this
theorem full_of (s : Shp O P C) : ∀ {d : Nat}, d ≤ O.length → (∀ i, O.length - d ≤ i → i < O.length → Lv O P C i) → Full O P C d
  | 0, _, _ => full_zero s
  | d + 1, hd, h => full_succ s (full_of s (by omega) fun i h1 h2 => h i (by omega) h2) (by omega) (h (O.length - (d + 1)) (Nat.le_refl _) (by omega))
theorem Mon.ph_app (M : Mon S m e) {f : Nat → α} {x : Nat → Nat} {b : Nat} : ∀ {a t : Nat}, (∀ j, t ≤ j → j < t + a + b → S (f j)) → Grp.ph m e f x t (a + b) = m (Grp.ph m e f x t a) (Grp.ph m e f x (t + a) b)
  | 0, t, hf => by
    rw [Nat.zero_add, Nat.add_zero]
    exact (M.l1 (M.ph fun j h1 h2 => hf j (by omega) (by omega))).symm
  | a + 1, t, hf => by
    have ft := hf t (Nat.le_refl _) (by omega)
    rw [show a + 1 + b = (a + b) + 1 by omega, Grp.ph, Grp.ph, M.ph_app fun j h1 h2 => hf j (by omega) (by omega), show t + (a + 1) = t + 1 + a by omega, M.as (M.pw ft _) (M.ph fun j h1 h2 => hf j (by omega) (by omega)) (M.ph fun j h1 h2 => hf j (by omega) (by omega))]
/-- The entries up to j. -/
def hdz (x : List Int) (j : Nat) : List Int := x.take (j + 1) ++ List.replicate (x.length - (j + 1)) 0
theorem hdz_len (x : List Int) (j : Nat) : (hdz x j).length = x.length := by simp [hdz]; omega
theorem hdz_at (x : List Int) (j k : Nat) : at_ (hdz x j) k = if k ≤ j then at_ x k else 0 := by
  simp only [hdz, at_, List.getD_eq_getElem?_getD]
  by_cases hk : k ≤ j
  · rw [if_pos hk]
    by_cases hl : k < x.length
    · rw [List.getElem?_append_left (by simp; omega), List.getElem?_take, if_pos (by omega)]
    · rw [List.getElem?_eq_none (by simp; omega), List.getElem?_eq_none (by omega)]
  · rw [if_neg hk]
    by_cases hl : k < x.length
    · rw [List.getElem?_append_right (by simp; omega), List.getElem?_replicate]
      split <;> rfl
    · rw [List.getElem?_eq_none (by simp; omega)]; rfl
theorem hdz_tt {t j : Nat} {x : List Int} (hx : TT O t x) (hO : ∀ j, j < O.length → 0 < at_ O j) : TT O t (hdz x j) := by
  refine ⟨by rw [hdz_len, hx.len], fun k hk => ?_, fun k hk => ?_⟩
  · rw [hdz_at]; split
    · exact hx.bd k hk
    · exact ⟨by omega, hO k hk⟩
  · rw [hdz_at]; split
    · exact hx.zero k hk
    · rfl
/-- What a step of collection computes. -/
def tstep (O : List Int) (P : List (List Int)) (C : List (List (List Int))) (m : List Int → List Int → List Int) (x : List Int) (j : Nat) : List Int :=
  fo m (cvec C j) (nx x) (j + 1) (O.length - 1 - j) (if at_ x j + 1 = at_ O j then m ((hdz x j).set j 0) (pvec P j) else (hdz x j).set j (at_ x j + 1))
theorem tstep_eq (s : Shp O P C) (B : Full O P C d) {x : List Int} (hx : TT O (O.length - d) x) {j : Nat} (h1 : O.length - d ≤ j) (h2 : j < O.length) : tstep O P C (mu O P C d) x j = mu O P C d x (unit O j) := by
  have hle := B.le
  have M := B.gp.toMon
  have hpos := s.pos h2
  have bx := hx.bd j h2
  have un : ∀ k, O.length - d ≤ k → k < O.length → TT O (O.length - d) (unit O k) := fun k a b => s.unit b a
  have cv : ∀ k, j + 1 ≤ k → k < O.length → TT O (O.length - d) (cvec C j k) := fun k a b => (s.cj j k (by omega) b).mono (by omega)
  have hpv : TT O (O.length - d) (pvec P j) := (s.pw j h2).mono (by omega)
  have uj := un j h1 h2
  have jl : j < (hdz x j).length := by rw [hdz_len, hx.len]; exact h2
  -- the head, the generator's power, the rest
  let H := ph (mu O P C d) (zv O) (unit O) (nx x) (O.length - d) (j - (O.length - d))
  have hH : TT O (O.length - d) H := M.ph fun k a b => un k (by omega) (by omega)
  have spl : ∀ {y : List Int}, (∀ k, k < j → at_ y k = at_ x k) → TT O (O.length - d) y → y = mu O P C d H (mu O P C d (pw (mu O P C d) (zv O) (unit O j) (nx y j)) (ph (mu O P C d) (zv O) (unit O) (nx y) (j + 1) (O.length - 1 - j))) := fun {y} hy ht => by
    have e1 := B.nf ht
    have e2 : Ph O (mu O P C d) (zv O) (unit O) d y = mu O P C d (ph (mu O P C d) (zv O) (unit O) (nx y) (O.length - d) (j - (O.length - d))) (ph (mu O P C d) (zv O) (unit O) (nx y) j (O.length - 1 - j + 1)) := by
      have := M.ph_app (f := unit O) (x := nx y) (a := j - (O.length - d)) (b := O.length - 1 - j + 1) (t := O.length - d) fun k a b => un k (by omega) (by omega)
      rw [show j - (O.length - d) + (O.length - 1 - j + 1) = d by omega, show O.length - d + (j - (O.length - d)) = j by omega] at this
      exact this
    have e3 : ph (mu O P C d) (zv O) (unit O) (nx y) (O.length - d) (j - (O.length - d)) = H := ph_congr fun k a b => ⟨rfl, by show (at_ y k).toNat = (at_ x k).toNat; rw [hy k (by omega)]⟩
    rw [e3] at e2
    exact e1.symm.trans e2
  have rest0 : ∀ {y : List Int}, (∀ k, j < k → at_ y k = 0) → ph (mu O P C d) (zv O) (unit O) (nx y) (j + 1) (O.length - 1 - j) = zv O := fun {y} hy => by
    have e1 : ph (mu O P C d) (zv O) (unit O) (nx y) (j + 1) (O.length - 1 - j) = ph (mu O P C d) (zv O) (unit O) (nx (zv O)) (j + 1) (O.length - 1 - j) := ph_congr fun k a b => ⟨rfl, by show (at_ y k).toNat = (at_ (zv O) k).toNat; rw [hy k (by omega), at_rep]⟩
    rw [e1]
    have := Ph_zv (O := O) (h := unit O) M (O.length - 1 - j)
    show ph _ _ _ _ _ _ = _
    rw [show j + 1 = O.length - (O.length - 1 - j) by omega]
    exact this
  let R := ph (mu O P C d) (zv O) (unit O) (nx x) (j + 1) (O.length - 1 - j)
  let R' := ph (mu O P C d) (zv O) (cvec C j) (nx x) (j + 1) (O.length - 1 - j)
  have hR : TT O (O.length - d) R := M.ph fun k a b => un k (by omega) (by omega)
  have hR' : TT O (O.length - d) R' := M.ph fun k a b => cv k a (by omega)
  have past : mu O P C d R (unit O j) = mu O P C d (unit O j) R' := M.past_ph uj fun k a b => ⟨un k (by omega) (by omega), cv k a (by omega), by
    have := B.rel.cj j k h1 (by omega) (by omega)
    have nfc : Ph O (mu O P C d) (zv O) (unit O) (O.length - (j + 1)) (cvec C j k) = cvec C j k := by
      have hc := s.cj j k (by omega) (by omega)
      have hn := B.nf (cv k a (by omega))
      have h3 := M.ph_skip (h := unit O) (x := nx (cvec C j k)) (d := O.length - (j + 1)) (k := j + 1 - (O.length - d)) (t := O.length - d) (fun t a b => by show (at_ _ t).toNat = 0; rw [hc.zero t (by omega)]; rfl) (fun t a b => un t (by omega) (by omega))
      rw [show j + 1 - (O.length - d) + (O.length - (j + 1)) = d by omega, show O.length - d + (j + 1 - (O.length - d)) = O.length - (O.length - (j + 1)) by omega] at h3
      show ph _ _ _ _ _ _ = _
      rw [← h3]; exact hn
    rw [nfc] at this; exact this⟩
  have pj : pw (mu O P C d) (zv O) (unit O j) (nx O j) = pvec P j := by
    rw [B.rel.pow j h1 h2]
    have hc := s.pw j h2
    have hn := B.nf hpv
    have h3 := M.ph_skip (h := unit O) (x := nx (pvec P j)) (d := O.length - (j + 1)) (k := j + 1 - (O.length - d)) (t := O.length - d) (fun t a b => by show (at_ _ t).toNat = 0; rw [hc.zero t (by omega)]; rfl) (fun t a b => un t (by omega) (by omega))
    rw [show j + 1 - (O.length - d) + (O.length - (j + 1)) = d by omega, show O.length - d + (j + 1 - (O.length - d)) = O.length - (O.length - (j + 1)) by omega] at h3
    show ph _ _ _ _ _ _ = _
    rw [← h3]; exact hn
  have pwj : ∀ k, TT O (O.length - d) (pw (mu O P C d) (zv O) (unit O j) k) := fun k => M.pw uj k
  -- both sides are H g^(e+1) R'
  have rhs : mu O P C d x (unit O j) = mu O P C d (mu O P C d H (pw (mu O P C d) (zv O) (unit O j) (nx x j + 1))) R' := by
    conv => lhs; rw [spl (fun _ _ => rfl) hx]
    rw [M.as hH (M.cl (pwj _) hR) uj, M.as (pwj _) hR uj, past, ← M.as (pwj _) uj hR', M.as hH (pwj (nx x j + 1)) hR']
    rfl
  have hd1 : ∀ {c : Int}, 0 ≤ c → c < at_ O j → (hdz x j).set j c = mu O P C d H (pw (mu O P C d) (zv O) (unit O j) c.toNat) := fun {c} c0 c1 => by
    have ht : TT O (O.length - d) ((hdz x j).set j c) := (hdz_tt hx fun k hk => s.pos hk).set h2 h1 ⟨c0, c1⟩
    have hs := spl (y := (hdz x j).set j c) (fun k hk => by rw [at_set jl, if_neg (by omega), hdz_at, if_pos (by omega)]) ht
    rw [rest0 fun k hk => by rw [at_set jl, if_neg (by omega), hdz_at, if_neg (by omega)], M.r1 (pwj _)] at hs
    rw [hs]
    congr 2
    show (at_ _ j).toNat = _
    rw [at_set jl, if_pos rfl]
  have lhs : (if at_ x j + 1 = at_ O j then mu O P C d ((hdz x j).set j 0) (pvec P j) else (hdz x j).set j (at_ x j + 1)) = mu O P C d H (pw (mu O P C d) (zv O) (unit O j) (nx x j + 1)) := by
    split
    · rename_i hc
      rw [hd1 (Int.le_refl _) hpos, ← pj, show nx O j = nx x j + 1 by show (at_ O j).toNat = (at_ x j).toNat + 1; omega]
      show mu O P C d (mu O P C d H (zv O)) _ = _
      rw [M.r1 hH]
    · rw [hd1 (by omega) (by omega), show (at_ x j + 1).toNat = nx x j + 1 by show _ = (at_ x j).toNat + 1; omega]
  rw [tstep, lhs, rhs]
  exact M.fo_eq (fun k a b => cv k a (by omega)) (M.cl hH (pwj _))
end Go.Grp
set_option linter.unusedSimpArgs false
set_option linter.unusedVariables false
namespace Go.Proofs
open Go.Ab Go.Lie Go.Grp
variable {σ : PHeap} {K : PV → PHeap → Prop} {O : List Int} {P : List (List Int)} {C : List (List (List Int))} {vO vP vC vx : PV} {s : Nat} {x : List Int}
/-- The values of a presentation. -/
structure IsPr (vO vP vC : PV) (O : List Int) (P : List (List Int)) (C : List (List (List Int))) : Prop where
  O : FI vO O
  P : FII vP P
  C : FIII vC C
/-- Sizes of a presentation. -/
structure SzP (O : List Int) (P : List (List Int)) (C : List (List (List Int))) : Prop where
  O : O.length ≤ 1048576
  P : SzL P
  C : SzM C
/-- A struct of three cells behind a pointer. -/
structure PtrG (σ : PHeap) (s : Nat) (vO vP vC : PV) : Prop where
  obj : σ.obj s = some [vO, vP, vC]
  lt : s < σ.next
theorem PtrG.new (h : PtrG σ s vO vP vC) (cs : List PV) : PtrG (σ.new cs) s vO vP vC := ⟨by have := h.lt; simp only [pwA, if_true, if_false, eq_self, nm_eq, reduceCtorEq, ↓reduceIte, Nat.reduceEqDiff, Nat.reduceLeDiff, Nat.reduceBEq, Nat.reduceAdd, Nat.reduceLT, Nat.reduceSub, Nat.reduceMul, Int.reduceEq, Int.reduceLT, Int.reduceLE, Int.reduceNeg, Int.reduceToNat, List.reduceReplicate, Int.ofNat_le, List.getElem?_drop, Nat.ne_of_lt this]; exact h.obj, by have := h.lt; simp only [pwA, if_true, if_false, eq_self, nm_eq, reduceCtorEq, ↓reduceIte, Nat.reduceEqDiff, Nat.reduceLeDiff, Nat.reduceBEq, Nat.reduceAdd, Nat.reduceLT, Nat.reduceSub, Nat.reduceMul, Int.reduceEq, Int.reduceLT, Int.reduceLE, Int.reduceNeg, Int.reduceToNat, List.reduceReplicate, Int.ofNat_le, List.getElem?_drop]; omega⟩
theorem PtrG.set (h : PtrG σ s vO vP vC) {t : Nat} (ht : s ≠ t) (cs : List PV) : PtrG (σ.set t cs) s vO vP vC := ⟨by simp only [pwA, if_true, if_false, eq_self, nm_eq, reduceCtorEq, ↓reduceIte, Nat.reduceEqDiff, Nat.reduceLeDiff, Nat.reduceBEq, Nat.reduceAdd, Nat.reduceLT, Nat.reduceSub, Nat.reduceMul, Int.reduceEq, Int.reduceLT, Int.reduceLE, Int.reduceNeg, Int.reduceToNat, List.reduceReplicate, Int.ofNat_le, List.getElem?_drop, ht]; exact h.obj, h.lt⟩
theorem PtrG.keep {h : PHeap} (hs : PtrG σ s vO vP vC) (hk : Keep σ h) : PtrG h s vO vP vC := ⟨by rw [hk.obj s hs.lt]; exact hs.obj, Nat.lt_of_lt_of_le hs.lt hk.next⟩
/-- Entries in the ranges of the orders. -/
def isExp (O x : List Int) : Prop := x.length = O.length ∧ ∀ j, j < x.length → 0 ≤ at_ x j ∧ at_ x j ≤ at_ O j - 1
def isTail (O : List Int) (t : Nat) (x : List Int) : Prop := isExp O x ∧ isZ (x.take t)
def prodL : List Int → Int
  | [] => 1
  | o :: O => o * prodL O
def rowPr (O : List Int) (P : List (List Int)) (C : List (List (List Int))) (i : Nat) : Prop := isTail O (i + 1) (P.getD i []) ∧ (C.getD i []).length = O.length - 1 - i ∧ ∀ k, k < (C.getD i []).length → isTail O (i + 1) ((C.getD i []).getD k [])
def isPres (O : List Int) (P : List (List Int)) (C : List (List (List Int))) : Prop :=
  O.length ≤ 6 ∧ P.length = O.length ∧ C.length = O.length ∧ (∀ o ∈ O, isP o) ∧ prodL O ≤ 729 ∧ ∀ i, i < O.length → rowPr O P C i
theorem isTail.tt {t : Nat} (h : isTail O t x) : TT O t x := by
  refine ⟨h.1.1, fun j hj => by have := h.1.2 j (by rw [h.1.1]; exact hj); omega, fun j hj => ?_⟩
  rcases Nat.lt_or_ge j x.length with e | e
  · rw [at_eq e]
    exact h.2 _ (by rw [List.mem_take_iff_getElem]; exact ⟨j, by omega, rfl⟩)
  · exact at_ge e
theorem isPres.shp (h : isPres O P C) : Shp O P C := by
  obtain ⟨h1, h2, h3, h4, h5, h6⟩ := h
  refine ⟨h1, fun j hj => ?_, h2, h3, fun i hi => (h6 i hi).1.tt, fun i hi => (h6 i hi).2.1, fun i j hij hj => ?_⟩
  · rw [at_eq hj]; exact (h4 _ (List.getElem_mem hj)).bd
  · have := (h6 i (by omega)).2.2 (j - i - 1) (by rw [(h6 i (by omega)).2.1]; omega)
    exact this.tt
theorem isExponents_ok (hs : PtrG σ s vO vP vC) (hO : FI vO O) (szO : O.length ≤ 1048576) (bO : ∀ o ∈ O, isP o) (hx : FI vx x) (hb : x.length ≤ 1048576) (hk : ∀ t : Bool, (t = true ↔ isExp O x) → K (.bool t) σ) : PCalls Try.prog 67 [.ptr s 0, vx] σ K := by
  have fl : ∀ {A : Prop}, ¬ A → ((false = true) ↔ A) := fun h => ⟨fun x => (by cases x), fun x => absurd x h⟩
  obtain ⟨wo, ao, rfl⟩ := hO
  obtain ⟨wx, ax, rfl⟩ := hx
  have e0 : σ.rd1 s 0 = some (.fz wo ao O.length (pis O)) := by rw [obj_rd1 hs.obj]; rfl
  refine pcalls_of_vp mix Try.func67 cf67 rfl ?_
  dsimp only [if67, qI, eI, nI, qD, eD]
  simp only [pwA, if_true, if_false, eq_self, nm_eq, reduceCtorEq, ↓reduceIte, Nat.reduceEqDiff, Nat.reduceLeDiff, Nat.reduceBEq, Nat.reduceAdd, Nat.reduceLT, Nat.reduceSub, Nat.reduceMul, Int.reduceEq, Int.reduceLT, Int.reduceLE, Int.reduceNeg, Int.reduceToNat, List.reduceReplicate, Int.ofNat_le, List.getElem?_drop, e0]
  refine iteI (fun hl => ?_) fun hl => ?_
  rotate_left
  · exact hk _ (fl fun h => hl (by rw [h.1]))
  have hl : x.length = O.length := by omega
  refine vp_loop (fun m vs h' => ∃ i : Nat, i ≤ x.length ∧ m = x.length - i ∧ vs = [.ptr s 0, .fz wx ax x.length (pis x), .int .i64 x.length, .int .i64 i] ∧ σ = h' ∧ ∀ j, j < i → 0 ≤ at_ x j ∧ at_ x j ≤ at_ O j - 1) x.length ?_ ?_
  · exact ⟨0, by omega, by omega, rfl, rfl, fun j hj => by omega⟩
  rintro m vs h' ⟨i, hi, rfl, rfl, rfl, hall⟩
  simp only [pwA, if_true, if_false, eq_self, nm_eq, reduceCtorEq, ↓reduceIte, Nat.reduceEqDiff, Nat.reduceLeDiff, Nat.reduceBEq, Nat.reduceAdd, Nat.reduceLT, Nat.reduceSub, Nat.reduceMul, Int.reduceEq, Int.reduceLT, Int.reduceLE, Int.reduceNeg, Int.reduceToNat, List.reduceReplicate, Int.ofNat_le, List.getElem?_drop]
  refine iteI (fun hlt => ?_) fun hge => ?_
  · have hO' : i < O.length := by omega
    have bo := (bO _ (List.getElem_mem hO')).bd
    simp only [pwA, if_true, if_false, eq_self, nm_eq, reduceCtorEq, ↓reduceIte, Nat.reduceEqDiff, Nat.reduceLeDiff, Nat.reduceBEq, Nat.reduceAdd, Nat.reduceLT, Nat.reduceSub, Nat.reduceMul, Int.reduceEq, Int.reduceLT, Int.reduceLE, Int.reduceNeg, Int.reduceToNat, List.reduceReplicate, Int.ofNat_le, List.getElem?_drop, hlt, hO', e0, gi hlt, gi hO', pis_get, List.getElem?_drop, wrap64 (n := O[i] - 1) (by omega) (by omega)]
    refine inside_ok ?_
    by_cases hin : 0 ≤ x[i] ∧ x[i] ≤ O[i] - 1
    · simp only [pwA, if_true, if_false, eq_self, nm_eq, reduceCtorEq, ↓reduceIte, Nat.reduceEqDiff, Nat.reduceLeDiff, Nat.reduceBEq, Nat.reduceAdd, Nat.reduceLT, Nat.reduceSub, Nat.reduceMul, Int.reduceEq, Int.reduceLT, Int.reduceLE, Int.reduceNeg, Int.reduceToNat, List.reduceReplicate, Int.ofNat_le, List.getElem?_drop, hin, wrapS hlt (by omega : x.length ≤ 4611686018427387904)]
      refine ⟨_, by omega, i + 1, by omega, rfl, rfl, fun j hj => ?_⟩
      by_cases e : j = i
      · subst e; rw [at_eq hlt, at_eq hO']; exact hin
      · exact hall j (by omega)
    · simp only [pwA, if_true, if_false, eq_self, nm_eq, reduceCtorEq, ↓reduceIte, Nat.reduceEqDiff, Nat.reduceLeDiff, Nat.reduceBEq, Nat.reduceAdd, Nat.reduceLT, Nat.reduceSub, Nat.reduceMul, Int.reduceEq, Int.reduceLT, Int.reduceLE, Int.reduceNeg, Int.reduceToNat, List.reduceReplicate, Int.ofNat_le, List.getElem?_drop, hin]
      exact hk _ (fl fun h => hin (by have := h.2 i hlt; rwa [at_eq hlt, at_eq hO'] at this))
  · exact hk _ ⟨fun _ => ⟨hl, fun j hj => hall j (by omega)⟩, fun _ => rfl⟩
theorem tailVector_ok {i : Nat} (hs : PtrG σ s vO vP vC) (hO : FI vO O) (szO : O.length ≤ 1048576) (bO : ∀ o ∈ O, isP o) (hx : FI vx x) (hb : x.length ≤ 1048576) (hi : i < O.length) (hk : ∀ t : Bool, (t = true ↔ isTail O (i + 1) x) → K (.bool t) σ) : PCalls Try.prog 135 [.ptr s 0, .int .i64 i, vx] σ K := by
  have fl : ∀ {A : Prop}, ¬ A → ((false = true) ↔ A) := fun h => ⟨fun x => (by cases x), fun x => absurd x h⟩
  refine pcalls_of_vp mix Try.func135 cf135 rfl ?_
  dsimp only [if135, qI, eI, nI, qD, eD]
  simp only [pwA, if_true, if_false, eq_self, nm_eq, reduceCtorEq, ↓reduceIte, Nat.reduceEqDiff, Nat.reduceLeDiff, Nat.reduceBEq, Nat.reduceAdd, Nat.reduceLT, Nat.reduceSub, Nat.reduceMul, Int.reduceEq, Int.reduceLT, Int.reduceLE, Int.reduceNeg, Int.reduceToNat, List.reduceReplicate, Int.ofNat_le, List.getElem?_drop]
  refine isExponents_ok hs hO szO bO hx hb fun t ht => ?_
  cases t with
  | false =>
    simp only [pwA, if_true, if_false, eq_self, nm_eq, reduceCtorEq, ↓reduceIte, Nat.reduceEqDiff, Nat.reduceLeDiff, Nat.reduceBEq, Nat.reduceAdd, Nat.reduceLT, Nat.reduceSub, Nat.reduceMul, Int.reduceEq, Int.reduceLT, Int.reduceLE, Int.reduceNeg, Int.reduceToNat, List.reduceReplicate, Int.ofNat_le, List.getElem?_drop]
    exact hk _ (fl fun h => by cases ht.2 h.1)
  | true =>
    have he := ht.1 rfl
    have hl := he.1
    obtain ⟨wx, ax, rfl⟩ := hx
    have hle2 : ((i + 1 : Nat) : Int) ≤ (x.length : Int) := by omega
    have hle3 : i + 1 ≤ x.length := by omega
    simp only [pwA, if_true, if_false, eq_self, nm_eq, reduceCtorEq, ↓reduceIte, Nat.reduceEqDiff, Nat.reduceLeDiff, Nat.reduceBEq, Nat.reduceAdd, Nat.reduceLT, Nat.reduceSub, Nat.reduceMul, Int.reduceEq, Int.reduceLT, Int.reduceLE, Int.reduceNeg, Int.reduceToNat, List.reduceReplicate, Int.ofNat_le, List.getElem?_drop, wrapS hi (by omega : O.length ≤ 4611686018427387904), hle2, hle3, pis_take, Nat.sub_zero]
    refine isZero_ok (by simp; omega) (by simp; omega) ?_
    by_cases hz : isZ (x.take (i + 1))
    · simp only [pwA, if_true, if_false, eq_self, nm_eq, reduceCtorEq, ↓reduceIte, Nat.reduceEqDiff, Nat.reduceLeDiff, Nat.reduceBEq, Nat.reduceAdd, Nat.reduceLT, Nat.reduceSub, Nat.reduceMul, Int.reduceEq, Int.reduceLT, Int.reduceLE, Int.reduceNeg, Int.reduceToNat, List.reduceReplicate, Int.ofNat_le, List.getElem?_drop, hz]
      exact hk _ ⟨fun _ => ⟨he, hz⟩, fun _ => rfl⟩
    · simp only [pwA, if_true, if_false, eq_self, nm_eq, reduceCtorEq, ↓reduceIte, Nat.reduceEqDiff, Nat.reduceLeDiff, Nat.reduceBEq, Nat.reduceAdd, Nat.reduceLT, Nat.reduceSub, Nat.reduceMul, Int.reduceEq, Int.reduceLT, Int.reduceLE, Int.reduceNeg, Int.reduceToNat, List.reduceReplicate, Int.ofNat_le, List.getElem?_drop, hz]
      exact hk _ (fl fun h => hz h.2)
theorem prodL_append : ∀ (a b : List Int), prodL (a ++ b) = prodL a * prodL b
  | [], b => by simp [prodL]
  | x :: a, b => by simp [prodL, prodL_append a b, Int.mul_assoc]
theorem prodL_snoc {i : Nat} (hi : i < O.length) : prodL (O.take (i + 1)) = prodL (O.take i) * O[i] := by
  rw [List.take_succ_eq_append_getElem hi, prodL_append]; simp [prodL]
theorem prodL_pos : ∀ {O : List Int}, (∀ o ∈ O, isP o) → 1 ≤ prodL O
  | [], _ => by simp [prodL]
  | o :: O, h => by
    have h1 := (h o (by simp)).bd
    have h2 := prodL_pos (O := O) fun q hq => h q (by simp [hq])
    simp only [prodL]
    have := Int.mul_le_mul h1.1 h2 (by omega) (by omega)
    omega
theorem prodL_take (h : ∀ o ∈ O, isP o) (i : Nat) : prodL (O.take i) ≤ prodL O := by
  have h1 := prodL_pos fun o ho => h o (List.mem_of_mem_take (i := i) ho)
  have h2 := prodL_pos fun o ho => h o (List.mem_of_mem_drop (i := i) ho)
  have : prodL O = prodL (O.take i) * prodL (O.drop i) := by rw [← prodL_append, List.take_append_drop]
  have h3 := Int.mul_le_mul (Int.le_refl (prodL (O.take i))) h2 (by omega) (by omega)
  omega
theorem IsPresentation_ok (hR : IsPr vO vP vC O P C) (sz : SzP O P C) (hk : ∀ t : Bool, (t = true ↔ isPres O P C) → K (.bool t) σ) : PCalls Try.prog 125 [.agg [vO, vP, vC]] σ K := by
  have hFO := hR.O
  have ho1 := hR.O.one
  have szP := sz.P
  have szC := sz.C
  obtain ⟨⟨w0, a0, rfl⟩, ⟨w1, a1, rP, rfl, hP⟩, ⟨w3, a3, rC, rfl, hC⟩⟩ := hR
  refine PCalls.gh ?_
  have fin : ∀ {t : Bool} {σ' : PHeap}, (t = true ↔ isPres O P C) → Keep σ σ' → Gh σ K (.bool t) σ' := fun h k => Gh.fin0 k trivial (hk _ h)
  have no : ∀ {σ' : PHeap}, ¬ isPres O P C → Keep σ σ' → Gh σ K (.bool false) σ' := fun h k => fin ⟨fun x => (by cases x), fun x => absurd x h⟩ k
  have hkp := keep_new σ [.fz w0 a0 O.length (pis O), .fz w1 a1 P.length rP, .fz w3 a3 C.length rC]
  have hpt : PtrG (σ.new [.fz w0 a0 O.length (pis O), .fz w1 a1 P.length rP, .fz w3 a3 C.length rC]) σ.next (.fz w0 a0 O.length (pis O)) (.fz w1 a1 P.length rP) (.fz w3 a3 C.length rC) := ⟨by simp only [pwA, if_true, if_false, eq_self, nm_eq, reduceCtorEq, ↓reduceIte, Nat.reduceEqDiff, Nat.reduceLeDiff, Nat.reduceBEq, Nat.reduceAdd, Nat.reduceLT, Nat.reduceSub, Nat.reduceMul, Int.reduceEq, Int.reduceLT, Int.reduceLE, Int.reduceNeg, Int.reduceToNat, List.reduceReplicate, Int.ofNat_le, List.getElem?_drop], by simp only [pwA, if_true, if_false, eq_self, nm_eq, reduceCtorEq, ↓reduceIte, Nat.reduceEqDiff, Nat.reduceLeDiff, Nat.reduceBEq, Nat.reduceAdd, Nat.reduceLT, Nat.reduceSub, Nat.reduceMul, Int.reduceEq, Int.reduceLT, Int.reduceLE, Int.reduceNeg, Int.reduceToNat, List.reduceReplicate, Int.ofNat_le, List.getElem?_drop]⟩
  refine pcalls_of_vp mix Try.func125 cf125 rfl ?_
  dsimp only [if125, qI, eI, nI, qD, eD]
  simp only [pwA, if_true, if_false, eq_self, nm_eq, reduceCtorEq, ↓reduceIte, Nat.reduceEqDiff, Nat.reduceLeDiff, Nat.reduceBEq, Nat.reduceAdd, Nat.reduceLT, Nat.reduceSub, Nat.reduceMul, Int.reduceEq, Int.reduceLT, Int.reduceLE, Int.reduceNeg, Int.reduceToNat, List.reduceReplicate, Int.ofNat_le, List.getElem?_drop]
  by_cases h6 : O.length ≤ 6
  rotate_left
  · have h6' : (6 : Int) < (O.length : Int) := by omega
    simp only [pwA, if_true, if_false, eq_self, nm_eq, reduceCtorEq, ↓reduceIte, Nat.reduceEqDiff, Nat.reduceLeDiff, Nat.reduceBEq, Nat.reduceAdd, Nat.reduceLT, Nat.reduceSub, Nat.reduceMul, Int.reduceEq, Int.reduceLT, Int.reduceLE, Int.reduceNeg, Int.reduceToNat, List.reduceReplicate, Int.ofNat_le, List.getElem?_drop, h6']
    exact no (fun h => h6 h.1) hkp
  have h6' : ¬ (6 : Int) < (O.length : Int) := by omega
  by_cases hPl : P.length = O.length
  rotate_left
  · have hPl' : ¬ (P.length : Int) = (O.length : Int) := by omega
    simp only [pwA, if_true, if_false, eq_self, nm_eq, reduceCtorEq, ↓reduceIte, Nat.reduceEqDiff, Nat.reduceLeDiff, Nat.reduceBEq, Nat.reduceAdd, Nat.reduceLT, Nat.reduceSub, Nat.reduceMul, Int.reduceEq, Int.reduceLT, Int.reduceLE, Int.reduceNeg, Int.reduceToNat, List.reduceReplicate, Int.ofNat_le, List.getElem?_drop, h6', hPl']
    exact no (fun h => hPl h.2.1) hkp
  have hPl' : (P.length : Int) = (O.length : Int) := by omega
  by_cases hCl : C.length = O.length
  rotate_left
  · have hCl' : ¬ (C.length : Int) = (O.length : Int) := by omega
    simp only [pwA, if_true, if_false, eq_self, nm_eq, reduceCtorEq, ↓reduceIte, Nat.reduceEqDiff, Nat.reduceLeDiff, Nat.reduceBEq, Nat.reduceAdd, Nat.reduceLT, Nat.reduceSub, Nat.reduceMul, Int.reduceEq, Int.reduceLT, Int.reduceLE, Int.reduceNeg, Int.reduceToNat, List.reduceReplicate, Int.ofNat_le, List.getElem?_drop, h6', eq_true hPl', hCl']
    exact no (fun h => hCl h.2.2.1) hkp
  have hCl' : (C.length : Int) = (O.length : Int) := by omega
  simp only [pwA, if_true, if_false, eq_self, nm_eq, reduceCtorEq, ↓reduceIte, Nat.reduceEqDiff, Nat.reduceLeDiff, Nat.reduceBEq, Nat.reduceAdd, Nat.reduceLT, Nat.reduceSub, Nat.reduceMul, Int.reduceEq, Int.reduceLT, Int.reduceLE, Int.reduceNeg, Int.reduceToNat, List.reduceReplicate, Int.ofNat_le, List.getElem?_drop, h6', eq_true hPl', eq_true hCl']
  refine vp_loop (fun m vs h' => ∃ i : Nat, i ≤ O.length ∧ m = O.length - i ∧ vs = [.ptr σ.next 0, .int .i64 O.length, .int .i64 (prodL (O.take i)), .fz w0 a0 O.length (pis O), .int .i64 O.length, .int .i64 i] ∧ h' = σ.new [.fz w0 a0 O.length (pis O), .fz w1 a1 P.length rP, .fz w3 a3 C.length rC] ∧ (∀ o ∈ O.take i, isP o) ∧ prodL (O.take i) ≤ 729) O.length ?_ ?_
  · exact ⟨0, by omega, by omega, rfl, rfl, by simp, by simp [prodL]⟩
  rintro m vs h' ⟨i, hi, rfl, rfl, rfl, hall, hpr⟩
  simp only [pwA, if_true, if_false, eq_self, nm_eq, reduceCtorEq, ↓reduceIte, Nat.reduceEqDiff, Nat.reduceLeDiff, Nat.reduceBEq, Nat.reduceAdd, Nat.reduceLT, Nat.reduceSub, Nat.reduceMul, Int.reduceEq, Int.reduceLT, Int.reduceLE, Int.reduceNeg, Int.reduceToNat, List.reduceReplicate, Int.ofNat_le, List.getElem?_drop]
  refine iteI (fun hlt => ?_) fun hge => ?_
  · simp only [pwA, if_true, if_false, eq_self, nm_eq, reduceCtorEq, ↓reduceIte, Nat.reduceEqDiff, Nat.reduceLeDiff, Nat.reduceBEq, Nat.reduceAdd, Nat.reduceLT, Nat.reduceSub, Nat.reduceMul, Int.reduceEq, Int.reduceLT, Int.reduceLE, Int.reduceNeg, Int.reduceToNat, List.reduceReplicate, Int.ofNat_le, List.getElem?_drop, hlt, gi hlt, pis_get, List.getElem?_drop]
    refine IsGroupPrime_ok ?_
    by_cases hp : isP O[i]
    rotate_left
    · simp only [pwA, if_true, if_false, eq_self, nm_eq, reduceCtorEq, ↓reduceIte, Nat.reduceEqDiff, Nat.reduceLeDiff, Nat.reduceBEq, Nat.reduceAdd, Nat.reduceLT, Nat.reduceSub, Nat.reduceMul, Int.reduceEq, Int.reduceLT, Int.reduceLE, Int.reduceNeg, Int.reduceToNat, List.reduceReplicate, Int.ofNat_le, List.getElem?_drop, hp]
      exact no (fun h => hp (h.2.2.2.1 _ (List.getElem_mem hlt))) hkp
    have hpb := hp.bd
    have h1 := prodL_pos hall
    have hm1 : 0 ≤ prodL (O.take i) * O[i] := Int.mul_nonneg (by omega) (by omega)
    have hm2 := Int.mul_le_mul hpr hpb.2 (by omega) (by omega)
    have hw : IntKind.i64.wrap (prodL (O.take i) * O[i]) = prodL (O.take i) * O[i] := wrap64 (by omega) (by omega)
    by_cases ho : prodL (O.take i) * O[i] ≤ 729
    · have ho' : ¬ (729 : Int) < prodL (O.take i) * O[i] := by omega
      simp only [pwA, if_true, if_false, eq_self, nm_eq, reduceCtorEq, ↓reduceIte, Nat.reduceEqDiff, Nat.reduceLeDiff, Nat.reduceBEq, Nat.reduceAdd, Nat.reduceLT, Nat.reduceSub, Nat.reduceMul, Int.reduceEq, Int.reduceLT, Int.reduceLE, Int.reduceNeg, Int.reduceToNat, List.reduceReplicate, Int.ofNat_le, List.getElem?_drop, hp, hw, ho', hlt, gi hlt, pis_get, List.getElem?_drop, wrapS hlt (by omega : O.length ≤ 4611686018427387904)]
      refine ⟨_, by omega, i + 1, by omega, rfl, ?_, forallA_snoc hlt hall hp, ?_⟩
      · rw [prodL_snoc hlt]
      · rw [prodL_snoc hlt]; exact ho
    · have ho' : (729 : Int) < prodL (O.take i) * O[i] := by omega
      simp only [pwA, if_true, if_false, eq_self, nm_eq, reduceCtorEq, ↓reduceIte, Nat.reduceEqDiff, Nat.reduceLeDiff, Nat.reduceBEq, Nat.reduceAdd, Nat.reduceLT, Nat.reduceSub, Nat.reduceMul, Int.reduceEq, Int.reduceLT, Int.reduceLE, Int.reduceNeg, Int.reduceToNat, List.reduceReplicate, Int.ofNat_le, List.getElem?_drop, hp, hw, ho']
      refine no (fun h => ?_) hkp
      have := prodL_take h.2.2.2.1 (i + 1)
      rw [prodL_snoc hlt] at this
      have := h.2.2.2.2.1
      omega
  have hie : i = O.length := by omega
  subst hie
  rw [List.take_length] at hall hpr
  refine vp_loop (fun m vs h' => ∃ i : Nat, i ≤ O.length ∧ m = O.length - i ∧ vs = [.ptr σ.next 0, .int .i64 O.length, .int .i64 O.length, .int .i64 i] ∧ h' = σ.new [.fz w0 a0 O.length (pis O), .fz w1 a1 P.length rP, .fz w3 a3 C.length rC] ∧ ∀ j, j < i → rowPr O P C j) O.length ?_ ?_
  · exact ⟨0, by omega, by omega, rfl, rfl, fun j hj => by omega⟩
  rintro m vs h' ⟨i, hi, rfl, rfl, rfl, hrow⟩
  simp only [pwA, if_true, if_false, eq_self, nm_eq, reduceCtorEq, ↓reduceIte, Nat.reduceEqDiff, Nat.reduceLeDiff, Nat.reduceBEq, Nat.reduceAdd, Nat.reduceLT, Nat.reduceSub, Nat.reduceMul, Int.reduceEq, Int.reduceLT, Int.reduceLE, Int.reduceNeg, Int.reduceToNat, List.reduceReplicate, Int.ofNat_le, List.getElem?_drop]
  refine iteI (fun hlt => ?_) fun hge => ?_
  rotate_left
  · exact fin ⟨fun _ => ⟨h6, hPl, hCl, hall, hpr, fun j hj => hrow j (by omega)⟩, fun _ => rfl⟩ hkp
  have hiP : i < P.length := by omega
  have hiC : i < C.length := by omega
  obtain ⟨w4, a4, hr⟩ := hP.rowI hiP
  obtain ⟨w5, a5, rs, hrb, hrs⟩ := hC.rowL hiC
  have hwl := szP.r _ (List.getElem_mem hiP)
  have hbl := (szC.r _ (List.getElem_mem hiC)).l
  have bad : (isTail O (i + 1) P[i] → C[i].length = O.length - 1 - i → (∀ k (h : k < C[i].length), isTail O (i + 1) C[i][k]) → False) → ¬ isPres O P C := fun hb hsh => by
    obtain ⟨q1, q3, q4⟩ := hsh.2.2.2.2.2 i hlt
    rw [getD_row hiP] at q1
    rw [getD_row' hiC] at q3
    refine hb q1 q3 fun k h => ?_
    have := q4 k (by rw [getD_row' hiC]; exact h)
    rwa [getD_row' hiC, getD_row' h] at this
  simp only [pwA, if_true, if_false, eq_self, nm_eq, reduceCtorEq, ↓reduceIte, Nat.reduceEqDiff, Nat.reduceLeDiff, Nat.reduceBEq, Nat.reduceAdd, Nat.reduceLT, Nat.reduceSub, Nat.reduceMul, Int.reduceEq, Int.reduceLT, Int.reduceLE, Int.reduceNeg, Int.reduceToNat, List.reduceReplicate, Int.ofNat_le, List.getElem?_drop, hiP, hr, List.getElem?_drop]
  refine tailVector_ok hpt hFO sz.O hall ⟨_, _, rfl⟩ hwl hlt fun t ht => ?_
  cases t with
  | false =>
    simp only [pwA, if_true, if_false, eq_self, nm_eq, reduceCtorEq, ↓reduceIte, Nat.reduceEqDiff, Nat.reduceLeDiff, Nat.reduceBEq, Nat.reduceAdd, Nat.reduceLT, Nat.reduceSub, Nat.reduceMul, Int.reduceEq, Int.reduceLT, Int.reduceLE, Int.reduceNeg, Int.reduceToNat, List.reduceReplicate, Int.ofNat_le, List.getElem?_drop]
    exact no (bad fun q _ _ => by cases ht.2 q) hkp
  | true =>
  have hv := ht.1 rfl
  have e1 : IntKind.i64.wrap ((O.length : Int) - 1) = (O.length : Int) - 1 := wrap64 (by omega) (by omega)
  have e2 : IntKind.i64.wrap ((O.length : Int) - 1 - (i : Int)) = (O.length : Int) - 1 - (i : Int) := wrap64 (by omega) (by omega)
  by_cases hlen : C[i].length = O.length - 1 - i
  rotate_left
  · have hlen' : ¬ (C[i].length : Int) = (O.length : Int) - 1 - (i : Int) := by omega
    simp only [pwA, if_true, if_false, eq_self, nm_eq, reduceCtorEq, ↓reduceIte, Nat.reduceEqDiff, Nat.reduceLeDiff, Nat.reduceBEq, Nat.reduceAdd, Nat.reduceLT, Nat.reduceSub, Nat.reduceMul, Int.reduceEq, Int.reduceLT, Int.reduceLE, Int.reduceNeg, Int.reduceToNat, List.reduceReplicate, Int.ofNat_le, List.getElem?_drop, hlt, hiC, hrb, List.getElem?_drop, e1, e2, hlen']
    exact no (bad fun _ q _ => hlen q) hkp
  have hlen' : (C[i].length : Int) = (O.length : Int) - 1 - (i : Int) := by omega
  simp only [pwA, if_true, if_false, eq_self, nm_eq, reduceCtorEq, ↓reduceIte, Nat.reduceEqDiff, Nat.reduceLeDiff, Nat.reduceBEq, Nat.reduceAdd, Nat.reduceLT, Nat.reduceSub, Nat.reduceMul, Int.reduceEq, Int.reduceLT, Int.reduceLE, Int.reduceNeg, Int.reduceToNat, List.reduceReplicate, Int.ofNat_le, List.getElem?_drop, hlt, hiC, hrb, List.getElem?_drop, e1, e2, eq_true hlen']
  refine vp_loop (fun m vs h' => ∃ k : Nat, k ≤ C[i].length ∧ m = C[i].length - k ∧ vs = [.ptr σ.next 0, .int .i64 O.length, .int .i64 i, .int .i64 O.length, .int .i64 i, .fz w5 a5 C[i].length rs, .int .i64 C[i].length, .int .i64 k] ∧
    h' = σ.new [.fz w0 a0 O.length (pis O), .fz w1 a1 P.length rP, .fz w3 a3 C.length rC] ∧ ∀ j (h : j < C[i].length), j < k → isTail O (i + 1) C[i][j]) C[i].length ?_ ?_
  · exact ⟨0, by omega, by omega, rfl, rfl, fun j h hj => by omega⟩
  rintro m vs h' ⟨k, hk', rfl, rfl, rfl, hall2⟩
  simp only [pwA, if_true, if_false, eq_self, nm_eq, reduceCtorEq, ↓reduceIte, Nat.reduceEqDiff, Nat.reduceLeDiff, Nat.reduceBEq, Nat.reduceAdd, Nat.reduceLT, Nat.reduceSub, Nat.reduceMul, Int.reduceEq, Int.reduceLT, Int.reduceLE, Int.reduceNeg, Int.reduceToNat, List.reduceReplicate, Int.ofNat_le, List.getElem?_drop]
  refine iteI (fun hlt2 => ?_) fun hge => ?_
  · obtain ⟨w6, a6, hrk⟩ := hrs.rowI hlt2
    have hcl := (szC.r _ (List.getElem_mem hiC)).r _ (List.getElem_mem hlt2)
    simp only [pwA, if_true, if_false, eq_self, nm_eq, reduceCtorEq, ↓reduceIte, Nat.reduceEqDiff, Nat.reduceLeDiff, Nat.reduceBEq, Nat.reduceAdd, Nat.reduceLT, Nat.reduceSub, Nat.reduceMul, Int.reduceEq, Int.reduceLT, Int.reduceLE, Int.reduceNeg, Int.reduceToNat, List.reduceReplicate, Int.ofNat_le, List.getElem?_drop, hlt2, hrk, List.getElem?_drop]
    refine tailVector_ok hpt hFO sz.O hall ⟨_, _, rfl⟩ hcl hlt fun t ht => ?_
    cases t with
    | false =>
      simp only [pwA, if_true, if_false, eq_self, nm_eq, reduceCtorEq, ↓reduceIte, Nat.reduceEqDiff, Nat.reduceLeDiff, Nat.reduceBEq, Nat.reduceAdd, Nat.reduceLT, Nat.reduceSub, Nat.reduceMul, Int.reduceEq, Int.reduceLT, Int.reduceLE, Int.reduceNeg, Int.reduceToNat, List.reduceReplicate, Int.ofNat_le, List.getElem?_drop]
      exact no (bad fun _ _ q => by cases ht.2 (q k hlt2)) hkp
    | true =>
      simp only [pwA, if_true, if_false, eq_self, nm_eq, reduceCtorEq, ↓reduceIte, Nat.reduceEqDiff, Nat.reduceLeDiff, Nat.reduceBEq, Nat.reduceAdd, Nat.reduceLT, Nat.reduceSub, Nat.reduceMul, Int.reduceEq, Int.reduceLT, Int.reduceLE, Int.reduceNeg, Int.reduceToNat, List.reduceReplicate, Int.ofNat_le, List.getElem?_drop, wrapS hlt2 (by omega : C[i].length ≤ 4611686018427387904)]
      refine ⟨_, by omega, k + 1, by omega, rfl, rfl, fun j h hj => ?_⟩
      by_cases e : j = k
      · subst e; exact ht.1 rfl
      · exact hall2 j h (by omega)
  · simp only [pwA, if_true, if_false, eq_self, nm_eq, reduceCtorEq, ↓reduceIte, Nat.reduceEqDiff, Nat.reduceLeDiff, Nat.reduceBEq, Nat.reduceAdd, Nat.reduceLT, Nat.reduceSub, Nat.reduceMul, Int.reduceEq, Int.reduceLT, Int.reduceLE, Int.reduceNeg, Int.reduceToNat, List.reduceReplicate, Int.ofNat_le, List.getElem?_drop, wrapS hlt (by omega : O.length ≤ 4611686018427387904)]
    refine ⟨_, by omega, i + 1, by omega, rfl, rfl, fun j hj => ?_⟩
    by_cases e : j = i
    · subst e
      refine ⟨by rw [getD_row hiP]; exact hv, by rw [getD_row' hiC]; exact hlen, fun t ht => ?_⟩
      rw [getD_row' hiC] at ht ⊢
      rw [getD_row' ht]
      exact hall2 t ht (by omega)
    · exact hrow j (by omega)
end Go.Proofs
set_option linter.unusedSimpArgs false
set_option linter.unusedVariables false
namespace Go.Proofs
open Go.Ab Go.Lie Go.Grp
variable {σ : PHeap} {K : PV → PHeap → Prop} {O : List Int} {P : List (List Int)} {C : List (List (List Int))} {vO vP vC vx : PV} {s : Nat} {x : List Int}
/-- zeros: t - 1. -/
theorem l07Exponents_ok {t : Nat} {z : Int} (hz : z = (t : Int) - 1) (ht : t ≤ O.length) (hO : FI vO O) (szO : O.length ≤ 1048576) (bO : ∀ o ∈ O, isP o) (hx : FI vx x) (hb : x.length ≤ 1048576) (hk : ∀ b : Bool, (b = true ↔ isTail O t x) → K (.bool b) σ) : PCalls Try.prog 109 [vO, vx, .int .i64 z] σ K := by
  have fl : ∀ {A : Prop}, ¬ A → ((false = true) ↔ A) := fun h => ⟨fun x => (by cases x), fun x => absurd x h⟩
  obtain ⟨wo, ao, rfl⟩ := hO
  obtain ⟨wx, ax, rfl⟩ := hx
  subst hz
  refine pcalls_of_vp mix Try.func109 cf109 rfl ?_
  dsimp only [if109, qI, eI, nI, qD, eD]
  simp only [pwA, if_true, if_false, eq_self, nm_eq, reduceCtorEq, ↓reduceIte, Nat.reduceEqDiff, Nat.reduceLeDiff, Nat.reduceBEq, Nat.reduceAdd, Nat.reduceLT, Nat.reduceSub, Nat.reduceMul, Int.reduceEq, Int.reduceLT, Int.reduceLE, Int.reduceNeg, Int.reduceToNat, List.reduceReplicate, Int.ofNat_le, List.getElem?_drop]
  refine iteI (fun hl => ?_) fun hl => ?_
  rotate_left
  · exact hk _ (fl fun h => hl (by rw [h.1.1]))
  have hl : x.length = O.length := by omega
  refine vp_loop (fun m vs h' => ∃ i : Nat, i ≤ x.length ∧ m = x.length - i ∧ vs = [.fz wo ao O.length (pis O), .fz wx ax x.length (pis x), .int .i64 ((t : Int) - 1), .int .i64 i] ∧ σ = h' ∧ ∀ j, j < i → (0 ≤ at_ x j ∧ at_ x j ≤ at_ O j - 1) ∧ (j < t → at_ x j = 0)) x.length ?_ ?_
  · exact ⟨0, by omega, by omega, rfl, rfl, fun j hj => by omega⟩
  rintro m vs h' ⟨i, hi, rfl, rfl, rfl, hall⟩
  simp only [pwA, if_true, if_false, eq_self, nm_eq, reduceCtorEq, ↓reduceIte, Nat.reduceEqDiff, Nat.reduceLeDiff, Nat.reduceBEq, Nat.reduceAdd, Nat.reduceLT, Nat.reduceSub, Nat.reduceMul, Int.reduceEq, Int.reduceLT, Int.reduceLE, Int.reduceNeg, Int.reduceToNat, List.reduceReplicate, Int.ofNat_le, List.getElem?_drop]
  refine iteI (fun hlt => ?_) fun hge => ?_
  rotate_left
  · refine hk _ ⟨fun _ => ⟨⟨hl, fun j hj => (hall j (by omega)).1⟩, fun y hy => ?_⟩, fun _ => rfl⟩
    rw [List.mem_take_iff_getElem] at hy
    obtain ⟨j, hj, rfl⟩ := hy
    have := (hall j (by omega)).2 (by omega)
    rwa [at_eq (by omega)] at this
  have hO' : i < O.length := by omega
  have bo := (bO _ (List.getElem_mem hO')).bd
  simp only [pwA, if_true, if_false, eq_self, nm_eq, reduceCtorEq, ↓reduceIte, Nat.reduceEqDiff, Nat.reduceLeDiff, Nat.reduceBEq, Nat.reduceAdd, Nat.reduceLT, Nat.reduceSub, Nat.reduceMul, Int.reduceEq, Int.reduceLT, Int.reduceLE, Int.reduceNeg, Int.reduceToNat, List.reduceReplicate, Int.ofNat_le, List.getElem?_drop, hlt, hO', gi hlt, gi hO', pis_get, List.getElem?_drop, wrap64 (n := O[i] - 1) (by omega) (by omega)]
  refine l01In_ok ?_
  by_cases hin : 0 ≤ x[i] ∧ x[i] ≤ O[i] - 1
  rotate_left
  · simp only [pwA, if_true, if_false, eq_self, nm_eq, reduceCtorEq, ↓reduceIte, Nat.reduceEqDiff, Nat.reduceLeDiff, Nat.reduceBEq, Nat.reduceAdd, Nat.reduceLT, Nat.reduceSub, Nat.reduceMul, Int.reduceEq, Int.reduceLT, Int.reduceLE, Int.reduceNeg, Int.reduceToNat, List.reduceReplicate, Int.ofNat_le, List.getElem?_drop, hin]
    exact hk _ (fl fun h => hin (by have := h.1.2 i hlt; rwa [at_eq hlt, at_eq hO'] at this))
  have next : (i < t → x[i] = 0) → ∃ n', n' < x.length - i ∧ ∃ i' : Nat, i' ≤ x.length ∧ n' = x.length - i' ∧ [PV.fz wo ao O.length (pis O), .fz wx ax x.length (pis x), .int .i64 ((t : Int) - 1), .int .i64 ((i + 1 : Nat) : Int)] = [.fz wo ao O.length (pis O), .fz wx ax x.length (pis x), .int .i64 ((t : Int) - 1), .int .i64 i'] ∧ ∀ j, j < i' → (0 ≤ at_ x j ∧ at_ x j ≤ at_ O j - 1) ∧ (j < t → at_ x j = 0) := fun h0 => by
    refine ⟨_, by omega, i + 1, by omega, rfl, rfl, fun j hj => ?_⟩
    by_cases e : j = i
    · subst e; rw [at_eq hlt, at_eq hO']; exact ⟨hin, h0⟩
    · exact hall j (by omega)
  by_cases hle : (i : Int) ≤ (t : Int) - 1
  · simp only [pwA, if_true, if_false, eq_self, nm_eq, reduceCtorEq, ↓reduceIte, Nat.reduceEqDiff, Nat.reduceLeDiff, Nat.reduceBEq, Nat.reduceAdd, Nat.reduceLT, Nat.reduceSub, Nat.reduceMul, Int.reduceEq, Int.reduceLT, Int.reduceLE, Int.reduceNeg, Int.reduceToNat, List.reduceReplicate, Int.ofNat_le, List.getElem?_drop, hin, hle, hlt, gi hlt, pis_get, List.getElem?_drop]
    refine iteI (fun h0 => ?_) fun h0 => ?_
    · simp only [pwA, if_true, if_false, eq_self, nm_eq, reduceCtorEq, ↓reduceIte, Nat.reduceEqDiff, Nat.reduceLeDiff, Nat.reduceBEq, Nat.reduceAdd, Nat.reduceLT, Nat.reduceSub, Nat.reduceMul, Int.reduceEq, Int.reduceLT, Int.reduceLE, Int.reduceNeg, Int.reduceToNat, List.reduceReplicate, Int.ofNat_le, List.getElem?_drop, wrapS hlt (by omega : x.length ≤ 4611686018427387904)]
      exact next fun _ => h0
    · refine hk _ (fl fun h => h0 ?_)
      exact h.2 _ (by rw [List.mem_take_iff_getElem]; exact ⟨i, by omega, rfl⟩)
  · simp only [pwA, if_true, if_false, eq_self, nm_eq, reduceCtorEq, ↓reduceIte, Nat.reduceEqDiff, Nat.reduceLeDiff, Nat.reduceBEq, Nat.reduceAdd, Nat.reduceLT, Nat.reduceSub, Nat.reduceMul, Int.reduceEq, Int.reduceLT, Int.reduceLE, Int.reduceNeg, Int.reduceToNat, List.reduceReplicate, Int.ofNat_le, List.getElem?_drop, hin, hle, hlt, wrapS hlt (by omega : x.length ≤ 4611686018427387904)]
    exact next fun h => absurd h (by omega)
theorem l07Product_ok (hO : FI vO O) (szO : O.length ≤ 6) (bO : ∀ o ∈ O, isP o) (hk : ∀ r : Int, (r ≤ 729 ↔ prodL O ≤ 729) → K (.int .i64 r) σ) : PCalls Try.prog 123 [vO] σ K := by
  obtain ⟨wo, ao, rfl⟩ := hO
  refine pcalls_of_vp mix Try.func123 cf123 rfl ?_
  dsimp only [if123, qI, eI, nI, qD, eD]
  simp only [pwA, if_true, if_false, eq_self, nm_eq, reduceCtorEq, ↓reduceIte, Nat.reduceEqDiff, Nat.reduceLeDiff, Nat.reduceBEq, Nat.reduceAdd, Nat.reduceLT, Nat.reduceSub, Nat.reduceMul, Int.reduceEq, Int.reduceLT, Int.reduceLE, Int.reduceNeg, Int.reduceToNat, List.reduceReplicate, Int.ofNat_le, List.getElem?_drop]
  refine vp_loop (fun m vs h' => ∃ (i : Nat) (r : Int), i ≤ O.length ∧ m = O.length - i ∧ vs = [.fz wo ao O.length (pis O), .int .i64 r, .int .i64 i] ∧ σ = h' ∧ (r = prodL (O.take i) ∨ (729 < r ∧ 729 < prodL (O.take i)))) O.length ?_ ?_
  · exact ⟨0, 1, by omega, by omega, rfl, rfl, .inl (by simp [prodL])⟩
  rintro m vs h' ⟨i, r, hi, rfl, rfl, rfl, hr⟩
  simp only [pwA, if_true, if_false, eq_self, nm_eq, reduceCtorEq, ↓reduceIte, Nat.reduceEqDiff, Nat.reduceLeDiff, Nat.reduceBEq, Nat.reduceAdd, Nat.reduceLT, Nat.reduceSub, Nat.reduceMul, Int.reduceEq, Int.reduceLT, Int.reduceLE, Int.reduceNeg, Int.reduceToNat, List.reduceReplicate, Int.ofNat_le, List.getElem?_drop]
  refine iteI (fun hlt => ?_) fun hge => ?_
  rotate_left
  · have hie : i = O.length := by omega
    subst hie
    rw [List.take_length] at hr
    exact hk _ (by omega)
  have bt : ∀ o ∈ O.take i, isP o := fun o ho => bO o (List.mem_of_mem_take ho)
  have h1 := prodL_pos bt
  have hp := bO _ (List.getElem_mem hlt)
  have hpb := hp.bd
  have hs := prodL_snoc hlt
  refine iteI (fun hle => ?_) fun hgt => ?_
  · have hre : r = prodL (O.take i) := by omega
    subst hre
    have hm1 : 0 ≤ prodL (O.take i) * O[i] := Int.mul_nonneg (by omega) (by omega)
    have hm2 := Int.mul_le_mul hle hpb.2 (by omega) (by omega)
    simp only [pwA, if_true, if_false, eq_self, nm_eq, reduceCtorEq, ↓reduceIte, Nat.reduceEqDiff, Nat.reduceLeDiff, Nat.reduceBEq, Nat.reduceAdd, Nat.reduceLT, Nat.reduceSub, Nat.reduceMul, Int.reduceEq, Int.reduceLT, Int.reduceLE, Int.reduceNeg, Int.reduceToNat, List.reduceReplicate, Int.ofNat_le, List.getElem?_drop, hlt, gi hlt, pis_get, List.getElem?_drop, wrap64 (n := prodL (O.take i) * O[i]) (by omega) (by omega), wrapS hlt (by omega : O.length ≤ 4611686018427387904)]
    exact ⟨_, by omega, i + 1, _, by omega, rfl, rfl, .inl hs.symm⟩
  · simp only [pwA, if_true, if_false, eq_self, nm_eq, reduceCtorEq, ↓reduceIte, Nat.reduceEqDiff, Nat.reduceLeDiff, Nat.reduceBEq, Nat.reduceAdd, Nat.reduceLT, Nat.reduceSub, Nat.reduceMul, Int.reduceEq, Int.reduceLT, Int.reduceLE, Int.reduceNeg, Int.reduceToNat, List.reduceReplicate, Int.ofNat_le, List.getElem?_drop, wrapS hlt (by omega : O.length ≤ 4611686018427387904)]
    refine ⟨_, by omega, i + 1, _, by omega, rfl, rfl, .inr ⟨by omega, ?_⟩⟩
    have hm2 := Int.mul_le_mul (Int.le_refl (prodL (O.take i))) hpb.1 (by omega) (by omega)
    omega
theorem l07IsPresentation_ok (hR : IsPr vO vP vC O P C) (sz : SzP O P C) (hk : ∀ t : Bool, (t = true ↔ isPres O P C) → K (.bool t) σ) : PCalls Try.prog 92 [.agg [vO, vP, vC]] σ K := by
  have hFO := hR.O
  have szP := sz.P
  have szC := sz.C
  obtain ⟨⟨w0, a0, rfl⟩, ⟨w1, a1, rP, rfl, hP⟩, ⟨w3, a3, rC, rfl, hC⟩⟩ := hR
  refine PCalls.gh ?_
  have fin : ∀ {t : Bool} {σ' : PHeap}, (t = true ↔ isPres O P C) → Keep σ σ' → Gh σ K (.bool t) σ' := fun h k => Gh.fin0 k trivial (hk _ h)
  have no : ∀ {σ' : PHeap}, ¬ isPres O P C → Keep σ σ' → Gh σ K (.bool false) σ' := fun h k => fin ⟨fun x => (by cases x), fun x => absurd x h⟩ k
  have hkp := keep_new σ [.fz w0 a0 O.length (pis O), .fz w1 a1 P.length rP, .fz w3 a3 C.length rC]
  refine pcalls_of_vp mix Try.func92 cf92 rfl ?_
  dsimp only [if92, qI, eI, nI, qD, eD]
  simp only [pwA, if_true, if_false, eq_self, nm_eq, reduceCtorEq, ↓reduceIte, Nat.reduceEqDiff, Nat.reduceLeDiff, Nat.reduceBEq, Nat.reduceAdd, Nat.reduceLT, Nat.reduceSub, Nat.reduceMul, Int.reduceEq, Int.reduceLT, Int.reduceLE, Int.reduceNeg, Int.reduceToNat, List.reduceReplicate, Int.ofNat_le, List.getElem?_drop]
  by_cases h6 : O.length ≤ 6
  rotate_left
  · have h6' : (6 : Int) < (O.length : Int) := by omega
    simp only [pwA, if_true, if_false, eq_self, nm_eq, reduceCtorEq, ↓reduceIte, Nat.reduceEqDiff, Nat.reduceLeDiff, Nat.reduceBEq, Nat.reduceAdd, Nat.reduceLT, Nat.reduceSub, Nat.reduceMul, Int.reduceEq, Int.reduceLT, Int.reduceLE, Int.reduceNeg, Int.reduceToNat, List.reduceReplicate, Int.ofNat_le, List.getElem?_drop, h6']
    exact no (fun h => h6 h.1) hkp
  have h6' : ¬ (6 : Int) < (O.length : Int) := by omega
  by_cases hPl : P.length = O.length
  rotate_left
  · have hPl' : ¬ (P.length : Int) = (O.length : Int) := by omega
    simp only [pwA, if_true, if_false, eq_self, nm_eq, reduceCtorEq, ↓reduceIte, Nat.reduceEqDiff, Nat.reduceLeDiff, Nat.reduceBEq, Nat.reduceAdd, Nat.reduceLT, Nat.reduceSub, Nat.reduceMul, Int.reduceEq, Int.reduceLT, Int.reduceLE, Int.reduceNeg, Int.reduceToNat, List.reduceReplicate, Int.ofNat_le, List.getElem?_drop, h6', hPl']
    exact no (fun h => hPl h.2.1) hkp
  have hPl' : (P.length : Int) = (O.length : Int) := by omega
  by_cases hCl : C.length = O.length
  rotate_left
  · have hCl' : ¬ (C.length : Int) = (O.length : Int) := by omega
    simp only [pwA, if_true, if_false, eq_self, nm_eq, reduceCtorEq, ↓reduceIte, Nat.reduceEqDiff, Nat.reduceLeDiff, Nat.reduceBEq, Nat.reduceAdd, Nat.reduceLT, Nat.reduceSub, Nat.reduceMul, Int.reduceEq, Int.reduceLT, Int.reduceLE, Int.reduceNeg, Int.reduceToNat, List.reduceReplicate, Int.ofNat_le, List.getElem?_drop, h6', eq_true hPl', hCl']
    exact no (fun h => hCl h.2.2.1) hkp
  have hCl' : (C.length : Int) = (O.length : Int) := by omega
  simp only [pwA, if_true, if_false, eq_self, nm_eq, reduceCtorEq, ↓reduceIte, Nat.reduceEqDiff, Nat.reduceLeDiff, Nat.reduceBEq, Nat.reduceAdd, Nat.reduceLT, Nat.reduceSub, Nat.reduceMul, Int.reduceEq, Int.reduceLT, Int.reduceLE, Int.reduceNeg, Int.reduceToNat, List.reduceReplicate, Int.ofNat_le, List.getElem?_drop, h6', eq_true hPl', eq_true hCl']
  refine vp_loop (fun m vs h' => ∃ i : Nat, i ≤ O.length ∧ m = O.length - i ∧ vs = [.ptr σ.next 0, .int .i64 O.length, .int .i64 i] ∧ h' = σ.new [.fz w0 a0 O.length (pis O), .fz w1 a1 P.length rP, .fz w3 a3 C.length rC] ∧ (∀ o ∈ O.take i, isP o)) O.length ?_ ?_
  · exact ⟨0, by omega, by omega, rfl, rfl, by simp⟩
  rintro m vs h' ⟨i, hi, rfl, rfl, rfl, hall⟩
  simp only [pwA, if_true, if_false, eq_self, nm_eq, reduceCtorEq, ↓reduceIte, Nat.reduceEqDiff, Nat.reduceLeDiff, Nat.reduceBEq, Nat.reduceAdd, Nat.reduceLT, Nat.reduceSub, Nat.reduceMul, Int.reduceEq, Int.reduceLT, Int.reduceLE, Int.reduceNeg, Int.reduceToNat, List.reduceReplicate, Int.ofNat_le, List.getElem?_drop]
  refine iteI (fun hlt => ?_) fun hge => ?_
  · simp only [pwA, if_true, if_false, eq_self, nm_eq, reduceCtorEq, ↓reduceIte, Nat.reduceEqDiff, Nat.reduceLeDiff, Nat.reduceBEq, Nat.reduceAdd, Nat.reduceLT, Nat.reduceSub, Nat.reduceMul, Int.reduceEq, Int.reduceLT, Int.reduceLE, Int.reduceNeg, Int.reduceToNat, List.reduceReplicate, Int.ofNat_le, List.getElem?_drop, hlt, gi hlt, pis_get, List.getElem?_drop]
    refine l01Prime_ok ?_
    by_cases hp : isP O[i]
    rotate_left
    · simp only [pwA, if_true, if_false, eq_self, nm_eq, reduceCtorEq, ↓reduceIte, Nat.reduceEqDiff, Nat.reduceLeDiff, Nat.reduceBEq, Nat.reduceAdd, Nat.reduceLT, Nat.reduceSub, Nat.reduceMul, Int.reduceEq, Int.reduceLT, Int.reduceLE, Int.reduceNeg, Int.reduceToNat, List.reduceReplicate, Int.ofNat_le, List.getElem?_drop, hp]
      exact no (fun h => hp (h.2.2.2.1 _ (List.getElem_mem hlt))) hkp
    simp only [pwA, if_true, if_false, eq_self, nm_eq, reduceCtorEq, ↓reduceIte, Nat.reduceEqDiff, Nat.reduceLeDiff, Nat.reduceBEq, Nat.reduceAdd, Nat.reduceLT, Nat.reduceSub, Nat.reduceMul, Int.reduceEq, Int.reduceLT, Int.reduceLE, Int.reduceNeg, Int.reduceToNat, List.reduceReplicate, Int.ofNat_le, List.getElem?_drop, hp, wrapS hlt (by omega : O.length ≤ 4611686018427387904)]
    exact ⟨_, by omega, i + 1, by omega, rfl, rfl, forallA_snoc hlt hall hp⟩
  have hie : i = O.length := by omega
  subst hie
  rw [List.take_length] at hall
  simp only [pwA, if_true, if_false, eq_self, nm_eq, reduceCtorEq, ↓reduceIte, Nat.reduceEqDiff, Nat.reduceLeDiff, Nat.reduceBEq, Nat.reduceAdd, Nat.reduceLT, Nat.reduceSub, Nat.reduceMul, Int.reduceEq, Int.reduceLT, Int.reduceLE, Int.reduceNeg, Int.reduceToNat, List.reduceReplicate, Int.ofNat_le, List.getElem?_drop]
  refine l07Product_ok hFO h6 hall fun r hr => ?_
  by_cases hpr : prodL O ≤ 729
  rotate_left
  · have : (729 : Int) < r := by omega
    simp only [pwA, if_true, if_false, eq_self, nm_eq, reduceCtorEq, ↓reduceIte, Nat.reduceEqDiff, Nat.reduceLeDiff, Nat.reduceBEq, Nat.reduceAdd, Nat.reduceLT, Nat.reduceSub, Nat.reduceMul, Int.reduceEq, Int.reduceLT, Int.reduceLE, Int.reduceNeg, Int.reduceToNat, List.reduceReplicate, Int.ofNat_le, List.getElem?_drop, this]
    exact no (fun h => hpr h.2.2.2.2.1) hkp
  have : ¬ (729 : Int) < r := by omega
  simp only [pwA, if_true, if_false, eq_self, nm_eq, reduceCtorEq, ↓reduceIte, Nat.reduceEqDiff, Nat.reduceLeDiff, Nat.reduceBEq, Nat.reduceAdd, Nat.reduceLT, Nat.reduceSub, Nat.reduceMul, Int.reduceEq, Int.reduceLT, Int.reduceLE, Int.reduceNeg, Int.reduceToNat, List.reduceReplicate, Int.ofNat_le, List.getElem?_drop, this]
  refine vp_loop (fun m vs h' => ∃ i : Nat, i ≤ O.length ∧ m = O.length - i ∧ vs = [.ptr σ.next 0, .int .i64 O.length, .int .i64 i] ∧ h' = σ.new [.fz w0 a0 O.length (pis O), .fz w1 a1 P.length rP, .fz w3 a3 C.length rC] ∧ ∀ j, j < i → rowPr O P C j) O.length ?_ ?_
  · exact ⟨0, by omega, by omega, rfl, rfl, fun j hj => by omega⟩
  rintro m vs h' ⟨i, hi, rfl, rfl, rfl, hrow⟩
  simp only [pwA, if_true, if_false, eq_self, nm_eq, reduceCtorEq, ↓reduceIte, Nat.reduceEqDiff, Nat.reduceLeDiff, Nat.reduceBEq, Nat.reduceAdd, Nat.reduceLT, Nat.reduceSub, Nat.reduceMul, Int.reduceEq, Int.reduceLT, Int.reduceLE, Int.reduceNeg, Int.reduceToNat, List.reduceReplicate, Int.ofNat_le, List.getElem?_drop]
  refine iteI (fun hlt => ?_) fun hge => ?_
  rotate_left
  · exact fin ⟨fun _ => ⟨h6, hPl, hCl, hall, hpr, fun j hj => hrow j (by omega)⟩, fun _ => rfl⟩ hkp
  have hiP : i < P.length := by omega
  have hiC : i < C.length := by omega
  obtain ⟨w4, a4, hr⟩ := hP.rowI hiP
  obtain ⟨w5, a5, rs, hrb, hrs⟩ := hC.rowL hiC
  have hwl := szP.r _ (List.getElem_mem hiP)
  have hbl := (szC.r _ (List.getElem_mem hiC)).l
  have bad : (isTail O (i + 1) P[i] → C[i].length = O.length - 1 - i → (∀ k (h : k < C[i].length), isTail O (i + 1) C[i][k]) → False) → ¬ isPres O P C := fun hb hsh => by
    obtain ⟨q1, q3, q4⟩ := hsh.2.2.2.2.2 i hlt
    rw [getD_row hiP] at q1
    rw [getD_row' hiC] at q3
    refine hb q1 q3 fun k h => ?_
    have := q4 k (by rw [getD_row' hiC]; exact h)
    rwa [getD_row' hiC, getD_row' h] at this
  simp only [pwA, if_true, if_false, eq_self, nm_eq, reduceCtorEq, ↓reduceIte, Nat.reduceEqDiff, Nat.reduceLeDiff, Nat.reduceBEq, Nat.reduceAdd, Nat.reduceLT, Nat.reduceSub, Nat.reduceMul, Int.reduceEq, Int.reduceLT, Int.reduceLE, Int.reduceNeg, Int.reduceToNat, List.reduceReplicate, Int.ofNat_le, List.getElem?_drop, hiP, hr, List.getElem?_drop]
  refine l07Exponents_ok (t := i + 1) (by omega) (by omega) hFO sz.O hall ⟨_, _, rfl⟩ hwl fun t ht => ?_
  cases t with
  | false =>
    simp only [pwA, if_true, if_false, eq_self, nm_eq, reduceCtorEq, ↓reduceIte, Nat.reduceEqDiff, Nat.reduceLeDiff, Nat.reduceBEq, Nat.reduceAdd, Nat.reduceLT, Nat.reduceSub, Nat.reduceMul, Int.reduceEq, Int.reduceLT, Int.reduceLE, Int.reduceNeg, Int.reduceToNat, List.reduceReplicate, Int.ofNat_le, List.getElem?_drop]
    exact no (bad fun q _ _ => by cases ht.2 q) hkp
  | true =>
  have hv := ht.1 rfl
  have e1 : IntKind.i64.wrap ((O.length : Int) - 1) = (O.length : Int) - 1 := wrap64 (by omega) (by omega)
  have e2 : IntKind.i64.wrap ((O.length : Int) - 1 - (i : Int)) = (O.length : Int) - 1 - (i : Int) := wrap64 (by omega) (by omega)
  by_cases hlen : C[i].length = O.length - 1 - i
  rotate_left
  · have hlen' : ¬ (C[i].length : Int) = (O.length : Int) - 1 - (i : Int) := by omega
    simp only [pwA, if_true, if_false, eq_self, nm_eq, reduceCtorEq, ↓reduceIte, Nat.reduceEqDiff, Nat.reduceLeDiff, Nat.reduceBEq, Nat.reduceAdd, Nat.reduceLT, Nat.reduceSub, Nat.reduceMul, Int.reduceEq, Int.reduceLT, Int.reduceLE, Int.reduceNeg, Int.reduceToNat, List.reduceReplicate, Int.ofNat_le, List.getElem?_drop, hlt, hiC, hrb, List.getElem?_drop, e1, e2, hlen']
    exact no (bad fun _ q _ => hlen q) hkp
  have hlen' : (C[i].length : Int) = (O.length : Int) - 1 - (i : Int) := by omega
  simp only [pwA, if_true, if_false, eq_self, nm_eq, reduceCtorEq, ↓reduceIte, Nat.reduceEqDiff, Nat.reduceLeDiff, Nat.reduceBEq, Nat.reduceAdd, Nat.reduceLT, Nat.reduceSub, Nat.reduceMul, Int.reduceEq, Int.reduceLT, Int.reduceLE, Int.reduceNeg, Int.reduceToNat, List.reduceReplicate, Int.ofNat_le, List.getElem?_drop, hlt, hiC, hrb, List.getElem?_drop, e1, e2, eq_true hlen']
  refine vp_loop (fun m vs h' => ∃ k : Nat, k ≤ C[i].length ∧ m = C[i].length - k ∧ vs = [.ptr σ.next 0, .int .i64 O.length, .int .i64 i, .int .i64 k] ∧
    h' = σ.new [.fz w0 a0 O.length (pis O), .fz w1 a1 P.length rP, .fz w3 a3 C.length rC] ∧ ∀ j (h : j < C[i].length), j < k → isTail O (i + 1) C[i][j]) C[i].length ?_ ?_
  · exact ⟨0, by omega, by omega, rfl, rfl, fun j h hj => by omega⟩
  rintro m vs h' ⟨k, hk', rfl, rfl, rfl, hall2⟩
  simp only [pwA, if_true, if_false, eq_self, nm_eq, reduceCtorEq, ↓reduceIte, Nat.reduceEqDiff, Nat.reduceLeDiff, Nat.reduceBEq, Nat.reduceAdd, Nat.reduceLT, Nat.reduceSub, Nat.reduceMul, Int.reduceEq, Int.reduceLT, Int.reduceLE, Int.reduceNeg, Int.reduceToNat, List.reduceReplicate, Int.ofNat_le, List.getElem?_drop, hiC, hrb, List.getElem?_drop]
  refine iteI (fun hlt2 => ?_) fun hge => ?_
  · obtain ⟨w6, a6, hrk⟩ := hrs.rowI hlt2
    have hcl := (szC.r _ (List.getElem_mem hiC)).r _ (List.getElem_mem hlt2)
    simp only [pwA, if_true, if_false, eq_self, nm_eq, reduceCtorEq, ↓reduceIte, Nat.reduceEqDiff, Nat.reduceLeDiff, Nat.reduceBEq, Nat.reduceAdd, Nat.reduceLT, Nat.reduceSub, Nat.reduceMul, Int.reduceEq, Int.reduceLT, Int.reduceLE, Int.reduceNeg, Int.reduceToNat, List.reduceReplicate, Int.ofNat_le, List.getElem?_drop, hiC, hrb, hlt2, hrk, List.getElem?_drop]
    refine l07Exponents_ok (t := i + 1) (by omega) (by omega) hFO sz.O hall ⟨_, _, rfl⟩ hcl fun t ht => ?_
    cases t with
    | false =>
      simp only [pwA, if_true, if_false, eq_self, nm_eq, reduceCtorEq, ↓reduceIte, Nat.reduceEqDiff, Nat.reduceLeDiff, Nat.reduceBEq, Nat.reduceAdd, Nat.reduceLT, Nat.reduceSub, Nat.reduceMul, Int.reduceEq, Int.reduceLT, Int.reduceLE, Int.reduceNeg, Int.reduceToNat, List.reduceReplicate, Int.ofNat_le, List.getElem?_drop]
      exact no (bad fun _ _ q => by cases ht.2 (q k hlt2)) hkp
    | true =>
      simp only [pwA, if_true, if_false, eq_self, nm_eq, reduceCtorEq, ↓reduceIte, Nat.reduceEqDiff, Nat.reduceLeDiff, Nat.reduceBEq, Nat.reduceAdd, Nat.reduceLT, Nat.reduceSub, Nat.reduceMul, Int.reduceEq, Int.reduceLT, Int.reduceLE, Int.reduceNeg, Int.reduceToNat, List.reduceReplicate, Int.ofNat_le, List.getElem?_drop, wrapS hlt2 (by omega : C[i].length ≤ 4611686018427387904)]
      refine ⟨_, by omega, k + 1, by omega, rfl, rfl, fun j h hj => ?_⟩
      by_cases e : j = k
      · subst e; exact ht.1 rfl
      · exact hall2 j h (by omega)
  · simp only [pwA, if_true, if_false, eq_self, nm_eq, reduceCtorEq, ↓reduceIte, Nat.reduceEqDiff, Nat.reduceLeDiff, Nat.reduceBEq, Nat.reduceAdd, Nat.reduceLT, Nat.reduceSub, Nat.reduceMul, Int.reduceEq, Int.reduceLT, Int.reduceLE, Int.reduceNeg, Int.reduceToNat, List.reduceReplicate, Int.ofNat_le, List.getElem?_drop, wrapS hlt (by omega : O.length ≤ 4611686018427387904)]
    refine ⟨_, by omega, i + 1, by omega, rfl, rfl, fun j hj => ?_⟩
    by_cases e : j = i
    · subst e
      refine ⟨by rw [getD_row hiP]; exact hv, by rw [getD_row' hiC]; exact hlen, fun t ht => ?_⟩
      rw [getD_row' hiC] at ht ⊢
      rw [getD_row' ht]
      exact hall2 t ht (by omega)
    · exact hrow j (by omega)
end Go.Proofs
