/- Numbers and lists of numbers. -/
import Derived.Test.YthgccplmmogcnaaCVIr
set_option linter.unusedSimpArgs false
set_option linter.unusedVariables false
namespace Go.Proofs
open Go.Ab
variable {σ : PHeap} {K : PV → PHeap → Prop}

theorem inside_ok {n lo hi : Int} (hk : K (.bool (decide (lo ≤ n ∧ n ≤ hi))) σ) : PCalls Try.prog 70 [.int .i64 n, .int .i64 lo, .int .i64 hi] σ K := by
  refine pcalls_of_vp mix Try.func70 cf70 rfl ?_
  dsimp only [if70, qI, eI, nI, qD, eD]
  by_cases h1 : lo ≤ n
  · simp only [pw0, pw1, pw2, pw3, pw4, pw5, pw6, pw7, pw8, pw9, if_true, if_false, eq_self, nm_eq, reduceCtorEq, ↓reduceIte, Nat.reduceEqDiff, Nat.reduceLeDiff, Nat.reduceBEq, Nat.reduceAdd, Nat.reduceLT, Nat.reduceSub, Nat.reduceMul, Int.reduceEq, Int.reduceLT, Int.reduceLE, Int.reduceNeg, Int.reduceToNat, h1]; exact pke hk ⟨fun x => x.2, fun x => ⟨h1, x⟩⟩
  · simp only [pw0, pw1, pw2, pw3, pw4, pw5, pw6, pw7, pw8, pw9, if_true, if_false, eq_self, nm_eq, reduceCtorEq, ↓reduceIte, Nat.reduceEqDiff, Nat.reduceLeDiff, Nat.reduceBEq, Nat.reduceAdd, Nat.reduceLT, Nat.reduceSub, Nat.reduceMul, Int.reduceEq, Int.reduceLT, Int.reduceLE, Int.reduceNeg, Int.reduceToNat, h1]; exact pkf hk (by omega)

theorem l01In_ok {n lo hi : Int} (hk : K (.bool (decide (lo ≤ n ∧ n ≤ hi))) σ) : PCalls Try.prog 66 [.int .i64 n, .int .i64 lo, .int .i64 hi] σ K := by
  refine pcalls_of_vp mix Try.func66 cf66 rfl ?_
  dsimp only [if66, qI, eI, nI, qD, eD]
  by_cases h1 : lo ≤ n
  · simp only [pw0, pw1, pw2, pw3, pw4, pw5, pw6, pw7, pw8, pw9, if_true, if_false, eq_self, nm_eq, reduceCtorEq, ↓reduceIte, Nat.reduceEqDiff, Nat.reduceLeDiff, Nat.reduceBEq, Nat.reduceAdd, Nat.reduceLT, Nat.reduceSub, Nat.reduceMul, Int.reduceEq, Int.reduceLT, Int.reduceLE, Int.reduceNeg, Int.reduceToNat, h1]; exact pke hk ⟨fun x => x.2, fun x => ⟨h1, x⟩⟩
  · simp only [pw0, pw1, pw2, pw3, pw4, pw5, pw6, pw7, pw8, pw9, if_true, if_false, eq_self, nm_eq, reduceCtorEq, ↓reduceIte, Nat.reduceEqDiff, Nat.reduceLeDiff, Nat.reduceBEq, Nat.reduceAdd, Nat.reduceLT, Nat.reduceSub, Nat.reduceMul, Int.reduceEq, Int.reduceLT, Int.reduceLE, Int.reduceNeg, Int.reduceToNat, h1]; exact pkf hk (by omega)

/-- A vector over p of n entries. -/
def isVec (xs : List Int) (p n : Int) : Prop := (xs.length : Int) = n ∧ ∀ x ∈ xs, 0 ≤ x ∧ x ≤ p - 1
instance (xs : List Int) (p n : Int) : Decidable (isVec xs p n) := by unfold isVec; infer_instance

theorem isVector_ok {w : Bool} {a : AV} {xs : List Int} {p n : Int} {l : Nat} (hl : l = xs.length) (hb : xs.length ≤ 4611686018427387904) (hp : 0 < p) (hp2 : p < 4611686018427387904) (hk : K (.bool (decide (isVec xs p n))) σ) :
    PCalls Try.prog 138 [.fz w a l (pis xs), .int .i64 p, .int .i64 n] σ K := by
  subst hl
  refine pcalls_of_vp mix Try.func138 cf138 rfl ?_
  dsimp only [if138, qI, eI, nI, qD, eD]
  simp only [pw0, pw1, pw2, pw3, pw4, pw5, pw6, pw7, pw8, pw9, if_true, if_false, eq_self, nm_eq, reduceCtorEq, ↓reduceIte, Nat.reduceEqDiff, Nat.reduceLeDiff, Nat.reduceBEq, Nat.reduceAdd, Nat.reduceLT, Nat.reduceSub, Nat.reduceMul, Int.reduceEq, Int.reduceLT, Int.reduceLE, Int.reduceNeg, Int.reduceToNat]
  split
  · refine vp_loop (fun m vs h' => ∃ i : Nat, i ≤ xs.length ∧ m = xs.length - i ∧ vs = [.int .i64 p, .fz w a xs.length (pis xs), .int .i64 xs.length, .int .i64 i] ∧ h' = σ ∧ ∀ x ∈ xs.take i, 0 ≤ x ∧ x ≤ p - 1) xs.length ?_ ?_
    · exact ⟨0, by omega, by omega, rfl, rfl, by simp⟩
    · rintro m vs h' ⟨i, hi, rfl, rfl, rfl, hall⟩
      simp only [pw0, pw1, pw2, pw3, pw4, pw5, pw6, pw7, pw8, pw9, if_true, if_false, eq_self, nm_eq, reduceCtorEq, ↓reduceIte, Nat.reduceEqDiff, Nat.reduceLeDiff, Nat.reduceBEq, Nat.reduceAdd, Nat.reduceLT, Nat.reduceSub, Nat.reduceMul, Int.reduceEq, Int.reduceLT, Int.reduceLE, Int.reduceNeg, Int.reduceToNat]
      split
      · rename_i hlt
        have hw1 : IntKind.i64.wrap (p - 1) = p - 1 := wrap64 (by omega) (by omega)
        simp only [pw0, pw1, pw2, pw3, pw4, pw5, pw6, pw7, pw8, pw9, if_true, if_false, eq_self, nm_eq, reduceCtorEq, ↓reduceIte, Nat.reduceEqDiff, Nat.reduceLeDiff, Nat.reduceBEq, Nat.reduceAdd, Nat.reduceLT, Nat.reduceSub, Nat.reduceMul, Int.reduceEq, Int.reduceLT, Int.reduceLE, Int.reduceNeg, Int.reduceToNat, hlt, List.getElem?_drop, pis_get, gi hlt, wrapS hlt hb, hw1]
        refine inside_ok ?_
        simp only [pw0, pw1, pw2, pw3, pw4, pw5, pw6, pw7, pw8, pw9, if_true, if_false, eq_self, nm_eq, reduceCtorEq, ↓reduceIte, Nat.reduceEqDiff, Nat.reduceLeDiff, Nat.reduceBEq, Nat.reduceAdd, Nat.reduceLT, Nat.reduceSub, Nat.reduceMul, Int.reduceEq, Int.reduceLT, Int.reduceLE, Int.reduceNeg, Int.reduceToNat, wrapS hlt hb]
        split
        · exact ⟨_, by omega, i + 1, by omega, rfl, rfl, forall_snoc hlt hall (by assumption)⟩
        · rename_i hn
          exact pkf hk fun hv => hn (hv.2 _ (List.getElem_mem hlt))
      · refine pkt hk ⟨by assumption, forall_all (by omega) hall⟩
  · rename_i hne
    exact pkf hk fun hv => hne hv.1

theorem l31Is_ok {w : Bool} {a : AV} {xs : List Int} {p : Int} {n : Nat} {l : Nat} (hl : l = xs.length) (hb : xs.length ≤ 4611686018427387904) (hp : 0 < p) (hp2 : p < 4611686018427387904) (hk : K (.bool (decide (isVec xs p n))) σ) :
    PCalls Try.prog 120 [.fz w a l (pis xs), .int .i64 p, .int .i64 n] σ K := by
  subst hl
  refine pcalls_of_vp mix Try.func120 cf120 rfl ?_
  dsimp only [if120, qI, eI, nI, qD, eD]
  simp only [pw0, pw1, pw2, pw3, pw4, pw5, pw6, pw7, pw8, pw9, if_true, if_false, eq_self, nm_eq, reduceCtorEq, ↓reduceIte, Nat.reduceEqDiff, Nat.reduceLeDiff, Nat.reduceBEq, Nat.reduceAdd, Nat.reduceLT, Nat.reduceSub, Nat.reduceMul, Int.reduceEq, Int.reduceLT, Int.reduceLE, Int.reduceNeg, Int.reduceToNat]
  split
  · rename_i hl
    have hl : xs.length = n := by omega
    subst hl
    refine vp_loop (fun m vs h' => ∃ i : Nat, i ≤ xs.length ∧ m = xs.length - i ∧ vs = [.fz w a xs.length (pis xs), .int .i64 p, .int .i64 xs.length, .int .i64 i] ∧ h' = σ ∧ ∀ x ∈ xs.take i, 0 ≤ x ∧ x ≤ p - 1) xs.length ?_ ?_
    · exact ⟨0, by omega, by omega, rfl, rfl, by simp⟩
    · rintro m vs h' ⟨i, hi, rfl, rfl, rfl, hall⟩
      simp only [pw0, pw1, pw2, pw3, pw4, pw5, pw6, pw7, pw8, pw9, if_true, if_false, eq_self, nm_eq, reduceCtorEq, ↓reduceIte, Nat.reduceEqDiff, Nat.reduceLeDiff, Nat.reduceBEq, Nat.reduceAdd, Nat.reduceLT, Nat.reduceSub, Nat.reduceMul, Int.reduceEq, Int.reduceLT, Int.reduceLE, Int.reduceNeg, Int.reduceToNat]
      split
      · rename_i hlt
        have hw1 : IntKind.i64.wrap (p - 1) = p - 1 := wrap64 (by omega) (by omega)
        simp only [pw0, pw1, pw2, pw3, pw4, pw5, pw6, pw7, pw8, pw9, if_true, if_false, eq_self, nm_eq, reduceCtorEq, ↓reduceIte, Nat.reduceEqDiff, Nat.reduceLeDiff, Nat.reduceBEq, Nat.reduceAdd, Nat.reduceLT, Nat.reduceSub, Nat.reduceMul, Int.reduceEq, Int.reduceLT, Int.reduceLE, Int.reduceNeg, Int.reduceToNat, hlt, List.getElem?_drop, pis_get, gi hlt, wrapS hlt hb, hw1]
        refine l01In_ok ?_
        simp only [pw0, pw1, pw2, pw3, pw4, pw5, pw6, pw7, pw8, pw9, if_true, if_false, eq_self, nm_eq, reduceCtorEq, ↓reduceIte, Nat.reduceEqDiff, Nat.reduceLeDiff, Nat.reduceBEq, Nat.reduceAdd, Nat.reduceLT, Nat.reduceSub, Nat.reduceMul, Int.reduceEq, Int.reduceLT, Int.reduceLE, Int.reduceNeg, Int.reduceToNat, wrapS hlt hb]
        split
        · exact ⟨_, by omega, i + 1, by omega, rfl, rfl, forall_snoc hlt hall (by assumption)⟩
        · rename_i hn
          exact pkf hk fun hv => hn (hv.2 _ (List.getElem_mem hlt))
      · refine pkt hk ⟨rfl, forall_all (by omega) hall⟩
  · rename_i hne
    exact pkf hk fun hv => hne hv.1

/-- All entries are 0. -/
def isZ (xs : List Int) : Prop := ∀ x ∈ xs, x = 0
instance (xs : List Int) : Decidable (isZ xs) := by unfold isZ; infer_instance

theorem isZero_ok {w : Bool} {a : AV} {xs : List Int} {l : Nat} (hl : l = xs.length) (hb : xs.length ≤ 4611686018427387904) (hk : K (.bool (decide (isZ xs))) σ) : PCalls Try.prog 77 [.fz w a l (pis xs)] σ K := by
  subst hl
  refine pcalls_of_vp mix Try.func77 cf77 rfl ?_
  dsimp only [if77, qI, eI, nI, qD, eD]
  simp only [pw0, pw1, pw2, pw3, pw4, pw5, pw6, pw7, pw8, pw9, if_true, if_false, eq_self, nm_eq, reduceCtorEq, ↓reduceIte, Nat.reduceEqDiff, Nat.reduceLeDiff, Nat.reduceBEq, Nat.reduceAdd, Nat.reduceLT, Nat.reduceSub, Nat.reduceMul, Int.reduceEq, Int.reduceLT, Int.reduceLE, Int.reduceNeg, Int.reduceToNat]
  refine vp_loop (fun m vs h' => ∃ i : Nat, i ≤ xs.length ∧ m = xs.length - i ∧ vs = [.fz w a xs.length (pis xs), .int .i64 xs.length, .int .i64 i] ∧ h' = σ ∧ ∀ x ∈ xs.take i, x = 0) xs.length ?_ ?_
  · exact ⟨0, by omega, by omega, rfl, rfl, by simp⟩
  · rintro m vs h' ⟨i, hi, rfl, rfl, rfl, hall⟩
    simp only [pw0, pw1, pw2, pw3, pw4, pw5, pw6, pw7, pw8, pw9, if_true, if_false, eq_self, nm_eq, reduceCtorEq, ↓reduceIte, Nat.reduceEqDiff, Nat.reduceLeDiff, Nat.reduceBEq, Nat.reduceAdd, Nat.reduceLT, Nat.reduceSub, Nat.reduceMul, Int.reduceEq, Int.reduceLT, Int.reduceLE, Int.reduceNeg, Int.reduceToNat]
    split
    · rename_i hlt
      simp only [pw0, pw1, pw2, pw3, pw4, pw5, pw6, pw7, pw8, pw9, if_true, if_false, eq_self, nm_eq, reduceCtorEq, ↓reduceIte, Nat.reduceEqDiff, Nat.reduceLeDiff, Nat.reduceBEq, Nat.reduceAdd, Nat.reduceLT, Nat.reduceSub, Nat.reduceMul, Int.reduceEq, Int.reduceLT, Int.reduceLE, Int.reduceNeg, Int.reduceToNat, hlt, List.getElem?_drop, pis_get, gi hlt]
      split
      · rename_i h0
        simp only [pw0, pw1, pw2, pw3, pw4, pw5, pw6, pw7, pw8, pw9, if_true, if_false, eq_self, nm_eq, reduceCtorEq, ↓reduceIte, Nat.reduceEqDiff, Nat.reduceLeDiff, Nat.reduceBEq, Nat.reduceAdd, Nat.reduceLT, Nat.reduceSub, Nat.reduceMul, Int.reduceEq, Int.reduceLT, Int.reduceLE, Int.reduceNeg, Int.reduceToNat, wrapS hlt hb]
        exact ⟨_, by omega, i + 1, by omega, rfl, rfl, forall_snoc hlt hall h0⟩
      · rename_i hn
        exact pkf hk fun hv => hn (hv _ (List.getElem_mem hlt))
    · refine pkt hk (forall_all (by omega) hall)

theorem l01Zero_ok {w : Bool} {a : AV} {xs : List Int} {l : Nat} (hl : l = xs.length) (hb : xs.length ≤ 4611686018427387904) (hk : K (.bool (decide (isZ xs))) σ) : PCalls Try.prog 75 [.fz w a l (pis xs)] σ K := by
  subst hl
  refine pcalls_of_vp mix Try.func75 cf75 rfl ?_
  dsimp only [if75, qI, eI, nI, qD, eD]
  simp only [pw0, pw1, pw2, pw3, pw4, pw5, pw6, pw7, pw8, pw9, if_true, if_false, eq_self, nm_eq, reduceCtorEq, ↓reduceIte, Nat.reduceEqDiff, Nat.reduceLeDiff, Nat.reduceBEq, Nat.reduceAdd, Nat.reduceLT, Nat.reduceSub, Nat.reduceMul, Int.reduceEq, Int.reduceLT, Int.reduceLE, Int.reduceNeg, Int.reduceToNat]
  refine vp_loop (fun m vs h' => ∃ i : Nat, i ≤ xs.length ∧ m = xs.length - i ∧ vs = [.fz w a xs.length (pis xs), .int .i64 i] ∧ h' = σ ∧ ∀ x ∈ xs.take i, x = 0) xs.length ?_ ?_
  · exact ⟨0, by omega, by omega, rfl, rfl, by simp⟩
  · rintro m vs h' ⟨i, hi, rfl, rfl, rfl, hall⟩
    simp only [pw0, pw1, pw2, pw3, pw4, pw5, pw6, pw7, pw8, pw9, if_true, if_false, eq_self, nm_eq, reduceCtorEq, ↓reduceIte, Nat.reduceEqDiff, Nat.reduceLeDiff, Nat.reduceBEq, Nat.reduceAdd, Nat.reduceLT, Nat.reduceSub, Nat.reduceMul, Int.reduceEq, Int.reduceLT, Int.reduceLE, Int.reduceNeg, Int.reduceToNat]
    split
    · rename_i hlt
      simp only [pw0, pw1, pw2, pw3, pw4, pw5, pw6, pw7, pw8, pw9, if_true, if_false, eq_self, nm_eq, reduceCtorEq, ↓reduceIte, Nat.reduceEqDiff, Nat.reduceLeDiff, Nat.reduceBEq, Nat.reduceAdd, Nat.reduceLT, Nat.reduceSub, Nat.reduceMul, Int.reduceEq, Int.reduceLT, Int.reduceLE, Int.reduceNeg, Int.reduceToNat, hlt, List.getElem?_drop, pis_get, gi hlt]
      split
      · rename_i h0
        simp only [pw0, pw1, pw2, pw3, pw4, pw5, pw6, pw7, pw8, pw9, if_true, if_false, eq_self, nm_eq, reduceCtorEq, ↓reduceIte, Nat.reduceEqDiff, Nat.reduceLeDiff, Nat.reduceBEq, Nat.reduceAdd, Nat.reduceLT, Nat.reduceSub, Nat.reduceMul, Int.reduceEq, Int.reduceLT, Int.reduceLE, Int.reduceNeg, Int.reduceToNat, wrapS hlt hb]
        exact ⟨_, by omega, i + 1, by omega, rfl, rfl, forall_snoc hlt hall h0⟩
      · rename_i hn
        exact pkf hk fun hv => hn (hv _ (List.getElem_mem hlt))
    · refine pkt hk (forall_all (by omega) hall)

theorem l31Blank_ok {w : Bool} {a : AV} {xs : List Int} {k : Nat} {l : Nat} (hl : l = xs.length) (hb : xs.length ≤ 4611686018427387904) (hkl : k < xs.length) (hk : K (.bool (decide (isZ (xs.take (k + 1))))) σ) : PCalls Try.prog 121 [.fz w a l (pis xs), .int .i64 k] σ K := by
  subst hl
  refine pcalls_of_vp mix Try.func121 cf121 rfl ?_
  dsimp only [if121, qI, eI, nI, qD, eD]
  simp only [pw0, pw1, pw2, pw3, pw4, pw5, pw6, pw7, pw8, pw9, if_true, if_false, eq_self, nm_eq, reduceCtorEq, ↓reduceIte, Nat.reduceEqDiff, Nat.reduceLeDiff, Nat.reduceBEq, Nat.reduceAdd, Nat.reduceLT, Nat.reduceSub, Nat.reduceMul, Int.reduceEq, Int.reduceLT, Int.reduceLE, Int.reduceNeg, Int.reduceToNat]
  refine vp_loop (fun m vs h' => ∃ i : Nat, i ≤ k + 1 ∧ m = k + 1 - i ∧ vs = [.fz w a xs.length (pis xs), .int .i64 k, .int .i64 i] ∧ h' = σ ∧ ∀ x ∈ xs.take i, x = 0) (k + 1) ?_ ?_
  · exact ⟨0, by omega, by omega, rfl, rfl, by simp⟩
  · rintro m vs h' ⟨i, hi, rfl, rfl, rfl, hall⟩
    simp only [pw0, pw1, pw2, pw3, pw4, pw5, pw6, pw7, pw8, pw9, if_true, if_false, eq_self, nm_eq, reduceCtorEq, ↓reduceIte, Nat.reduceEqDiff, Nat.reduceLeDiff, Nat.reduceBEq, Nat.reduceAdd, Nat.reduceLT, Nat.reduceSub, Nat.reduceMul, Int.reduceEq, Int.reduceLT, Int.reduceLE, Int.reduceNeg, Int.reduceToNat]
    split
    · rename_i hlt
      have hlt : i < xs.length := by omega
      simp only [pw0, pw1, pw2, pw3, pw4, pw5, pw6, pw7, pw8, pw9, if_true, if_false, eq_self, nm_eq, reduceCtorEq, ↓reduceIte, Nat.reduceEqDiff, Nat.reduceLeDiff, Nat.reduceBEq, Nat.reduceAdd, Nat.reduceLT, Nat.reduceSub, Nat.reduceMul, Int.reduceEq, Int.reduceLT, Int.reduceLE, Int.reduceNeg, Int.reduceToNat, hlt, List.getElem?_drop, pis_get, gi hlt]
      split
      · rename_i h0
        simp only [pw0, pw1, pw2, pw3, pw4, pw5, pw6, pw7, pw8, pw9, if_true, if_false, eq_self, nm_eq, reduceCtorEq, ↓reduceIte, Nat.reduceEqDiff, Nat.reduceLeDiff, Nat.reduceBEq, Nat.reduceAdd, Nat.reduceLT, Nat.reduceSub, Nat.reduceMul, Int.reduceEq, Int.reduceLT, Int.reduceLE, Int.reduceNeg, Int.reduceToNat, wrapS hlt hb]
        exact ⟨_, by omega, i + 1, by omega, rfl, rfl, forall_snoc hlt hall h0⟩
      · rename_i hn
        refine pkf hk fun hv => hn (hv _ ?_)
        rw [List.mem_take_iff_getElem]
        exact ⟨i, by omega, rfl⟩
    · have : i = k + 1 := by omega
      subst this
      exact pkt hk hall

theorem eqList {xs ys : List Int} (hl : xs.length = ys.length) {i : Nat} (hi : i < xs.length) (h : xs.take i = ys.take i) (he : xs[i] = ys[i]'(by omega)) : xs.take (i + 1) = ys.take (i + 1) := by
  rw [List.take_succ_eq_append_getElem hi, List.take_succ_eq_append_getElem (by omega : i < ys.length), h, he]

theorem l01Same_ok {w w' : Bool} {a a' : AV} {xs ys : List Int} {l : Nat} {l' : Nat} (hl : l = xs.length) (hl' : l' = ys.length) (hb : xs.length ≤ 4611686018427387904) (hk : K (.bool (decide (xs = ys))) σ) : PCalls Try.prog 92 [.fz w a l (pis xs), .fz w' a' l' (pis ys)] σ K := by
  subst hl
  subst hl'
  refine pcalls_of_vp mix Try.func92 cf92 rfl ?_
  dsimp only [if92, qI, eI, nI, qD, eD]
  simp only [pw0, pw1, pw2, pw3, pw4, pw5, pw6, pw7, pw8, pw9, if_true, if_false, eq_self, nm_eq, reduceCtorEq, ↓reduceIte, Nat.reduceEqDiff, Nat.reduceLeDiff, Nat.reduceBEq, Nat.reduceAdd, Nat.reduceLT, Nat.reduceSub, Nat.reduceMul, Int.reduceEq, Int.reduceLT, Int.reduceLE, Int.reduceNeg, Int.reduceToNat]
  split
  · rename_i hl
    have hl : xs.length = ys.length := by omega
    refine vp_loop (fun m vs h' => ∃ i : Nat, i ≤ xs.length ∧ m = xs.length - i ∧ vs = [.fz w a xs.length (pis xs), .fz w' a' ys.length (pis ys), .int .i64 i] ∧ h' = σ ∧ xs.take i = ys.take i) xs.length ?_ ?_
    · exact ⟨0, by omega, by omega, rfl, rfl, by simp⟩
    · rintro m vs h' ⟨i, hi, rfl, rfl, rfl, hall⟩
      simp only [pw0, pw1, pw2, pw3, pw4, pw5, pw6, pw7, pw8, pw9, if_true, if_false, eq_self, nm_eq, reduceCtorEq, ↓reduceIte, Nat.reduceEqDiff, Nat.reduceLeDiff, Nat.reduceBEq, Nat.reduceAdd, Nat.reduceLT, Nat.reduceSub, Nat.reduceMul, Int.reduceEq, Int.reduceLT, Int.reduceLE, Int.reduceNeg, Int.reduceToNat]
      split
      · rename_i hlt
        have hlt2 : i < ys.length := by omega
        simp only [pw0, pw1, pw2, pw3, pw4, pw5, pw6, pw7, pw8, pw9, if_true, if_false, eq_self, nm_eq, reduceCtorEq, ↓reduceIte, Nat.reduceEqDiff, Nat.reduceLeDiff, Nat.reduceBEq, Nat.reduceAdd, Nat.reduceLT, Nat.reduceSub, Nat.reduceMul, Int.reduceEq, Int.reduceLT, Int.reduceLE, Int.reduceNeg, Int.reduceToNat, hlt, hlt2, List.getElem?_drop, pis_get, gi hlt, gi hlt2]
        split
        · rename_i h0
          simp only [pw0, pw1, pw2, pw3, pw4, pw5, pw6, pw7, pw8, pw9, if_true, if_false, eq_self, nm_eq, reduceCtorEq, ↓reduceIte, Nat.reduceEqDiff, Nat.reduceLeDiff, Nat.reduceBEq, Nat.reduceAdd, Nat.reduceLT, Nat.reduceSub, Nat.reduceMul, Int.reduceEq, Int.reduceLT, Int.reduceLE, Int.reduceNeg, Int.reduceToNat, wrapS hlt hb]
          exact ⟨_, by omega, i + 1, by omega, rfl, rfl, eqList hl hlt hall h0⟩
        · rename_i hn
          refine pkf hk fun hv => hn (by subst hv; rfl)
      · refine pkt hk ?_
        rwa [List.take_of_length_le (by omega), List.take_of_length_le (by omega)] at hall
  · rename_i hl
    exact pkf hk fun hv => hl (by rw [hv])

theorem Equal_ok {w w' : Bool} {a a' : AV} {xs ys : List Int} {l : Nat} {l' : Nat} (hl : l = xs.length) (hl' : l' = ys.length) (hb : xs.length ≤ 4611686018427387904) (hk : K (.bool (decide (xs = ys))) σ) : PCalls Try.prog 125 [.fz w a l (pis xs), .fz w' a' l' (pis ys)] σ K := by
  subst hl
  subst hl'
  refine pcalls_of_vp mix Try.func125 cf125 rfl ?_
  dsimp only [if125, qI, eI, nI, qD, eD]
  simp only [pw0, pw1, pw2, pw3, pw4, pw5, pw6, pw7, pw8, pw9, if_true, if_false, eq_self, nm_eq, reduceCtorEq, ↓reduceIte, Nat.reduceEqDiff, Nat.reduceLeDiff, Nat.reduceBEq, Nat.reduceAdd, Nat.reduceLT, Nat.reduceSub, Nat.reduceMul, Int.reduceEq, Int.reduceLT, Int.reduceLE, Int.reduceNeg, Int.reduceToNat]
  split
  · rename_i hl
    have hl : xs.length = ys.length := by omega
    refine vp_loop (fun m vs h' => ∃ i : Nat, i ≤ xs.length ∧ m = xs.length - i ∧ vs = [.fz w a xs.length (pis xs), .fz w' a' ys.length (pis ys), .int .i64 xs.length, .int .i64 i] ∧ h' = σ ∧ xs.take i = ys.take i) xs.length ?_ ?_
    · exact ⟨0, by omega, by omega, rfl, rfl, by simp⟩
    · rintro m vs h' ⟨i, hi, rfl, rfl, rfl, hall⟩
      simp only [pw0, pw1, pw2, pw3, pw4, pw5, pw6, pw7, pw8, pw9, if_true, if_false, eq_self, nm_eq, reduceCtorEq, ↓reduceIte, Nat.reduceEqDiff, Nat.reduceLeDiff, Nat.reduceBEq, Nat.reduceAdd, Nat.reduceLT, Nat.reduceSub, Nat.reduceMul, Int.reduceEq, Int.reduceLT, Int.reduceLE, Int.reduceNeg, Int.reduceToNat]
      split
      · rename_i hlt
        have hlt2 : i < ys.length := by omega
        simp only [pw0, pw1, pw2, pw3, pw4, pw5, pw6, pw7, pw8, pw9, if_true, if_false, eq_self, nm_eq, reduceCtorEq, ↓reduceIte, Nat.reduceEqDiff, Nat.reduceLeDiff, Nat.reduceBEq, Nat.reduceAdd, Nat.reduceLT, Nat.reduceSub, Nat.reduceMul, Int.reduceEq, Int.reduceLT, Int.reduceLE, Int.reduceNeg, Int.reduceToNat, hlt, hlt2, List.getElem?_drop, pis_get, gi hlt, gi hlt2]
        split
        · rename_i h0
          simp only [pw0, pw1, pw2, pw3, pw4, pw5, pw6, pw7, pw8, pw9, if_true, if_false, eq_self, nm_eq, reduceCtorEq, ↓reduceIte, Nat.reduceEqDiff, Nat.reduceLeDiff, Nat.reduceBEq, Nat.reduceAdd, Nat.reduceLT, Nat.reduceSub, Nat.reduceMul, Int.reduceEq, Int.reduceLT, Int.reduceLE, Int.reduceNeg, Int.reduceToNat, wrapS hlt hb]
          exact ⟨_, by omega, i + 1, by omega, rfl, rfl, eqList hl hlt hall h0⟩
        · rename_i hn
          refine pkf hk fun hv => hn (by subst hv; rfl)
      · refine pkt hk ?_
        rwa [List.take_of_length_le (by omega), List.take_of_length_le (by omega)] at hall
  · rename_i hl
    exact pkf hk fun hv => hl (by rw [hv])

def isP (n : Int) : Prop := n = 2 ∨ n = 3 ∨ n = 5 ∨ n = 7
instance (n : Int) : Decidable (isP n) := by unfold isP; infer_instance
theorem isP.bd {n : Int} (hp : isP n) : 2 ≤ n ∧ n ≤ 7 := by unfold isP at hp; omega

theorem l01Prime_ok {n : Int} (hk : K (.bool (decide (isP n))) σ) : PCalls Try.prog 118 [.int .i64 n] σ K := by
  refine pcalls_of_vp mix Try.func118 cf118 rfl ?_
  dsimp only [if118, qI, eI, nI, qD, eD]
  by_cases h2 : n = 2
  · simp only [pw0, pw1, pw2, pw3, pw4, pw5, pw6, pw7, pw8, pw9, if_true, if_false, eq_self, nm_eq, reduceCtorEq, ↓reduceIte, Nat.reduceEqDiff, Nat.reduceLeDiff, Nat.reduceBEq, Nat.reduceAdd, Nat.reduceLT, Nat.reduceSub, Nat.reduceMul, Int.reduceEq, Int.reduceLT, Int.reduceLE, Int.reduceNeg, Int.reduceToNat, h2]; exact pkt hk (by unfold isP; omega)
  by_cases h3 : n = 3
  · simp only [pw0, pw1, pw2, pw3, pw4, pw5, pw6, pw7, pw8, pw9, if_true, if_false, eq_self, nm_eq, reduceCtorEq, ↓reduceIte, Nat.reduceEqDiff, Nat.reduceLeDiff, Nat.reduceBEq, Nat.reduceAdd, Nat.reduceLT, Nat.reduceSub, Nat.reduceMul, Int.reduceEq, Int.reduceLT, Int.reduceLE, Int.reduceNeg, Int.reduceToNat, h3]; exact pkt hk (by unfold isP; omega)
  by_cases h5 : n = 5
  · simp only [pw0, pw1, pw2, pw3, pw4, pw5, pw6, pw7, pw8, pw9, if_true, if_false, eq_self, nm_eq, reduceCtorEq, ↓reduceIte, Nat.reduceEqDiff, Nat.reduceLeDiff, Nat.reduceBEq, Nat.reduceAdd, Nat.reduceLT, Nat.reduceSub, Nat.reduceMul, Int.reduceEq, Int.reduceLT, Int.reduceLE, Int.reduceNeg, Int.reduceToNat, h5]; exact pkt hk (by unfold isP; omega)
  by_cases h7 : n = 7
  · simp only [pw0, pw1, pw2, pw3, pw4, pw5, pw6, pw7, pw8, pw9, if_true, if_false, eq_self, nm_eq, reduceCtorEq, ↓reduceIte, Nat.reduceEqDiff, Nat.reduceLeDiff, Nat.reduceBEq, Nat.reduceAdd, Nat.reduceLT, Nat.reduceSub, Nat.reduceMul, Int.reduceEq, Int.reduceLT, Int.reduceLE, Int.reduceNeg, Int.reduceToNat, h7]; exact pkt hk (by unfold isP; omega)
  simp only [pw0, pw1, pw2, pw3, pw4, pw5, pw6, pw7, pw8, pw9, if_true, if_false, eq_self, nm_eq, reduceCtorEq, ↓reduceIte, Nat.reduceEqDiff, Nat.reduceLeDiff, Nat.reduceBEq, Nat.reduceAdd, Nat.reduceLT, Nat.reduceSub, Nat.reduceMul, Int.reduceEq, Int.reduceLT, Int.reduceLE, Int.reduceNeg, Int.reduceToNat, h2, h3, h5, h7]
  exact pkf hk (by unfold isP; omega)

theorem IsGroupPrime_ok {n : Int} (hk : K (.bool (decide (isP n))) σ) : PCalls Try.prog 128 [.int .i64 n] σ K := by
  refine pcalls_of_vp mix Try.func128 cf128 rfl ?_
  dsimp only [if128, qI, eI, nI, qD, eD]
  by_cases h2 : n = 2
  · simp only [pw0, pw1, pw2, pw3, pw4, pw5, pw6, pw7, pw8, pw9, if_true, if_false, eq_self, nm_eq, reduceCtorEq, ↓reduceIte, Nat.reduceEqDiff, Nat.reduceLeDiff, Nat.reduceBEq, Nat.reduceAdd, Nat.reduceLT, Nat.reduceSub, Nat.reduceMul, Int.reduceEq, Int.reduceLT, Int.reduceLE, Int.reduceNeg, Int.reduceToNat, h2]; exact pkt hk (by unfold isP; omega)
  by_cases h3 : n = 3
  · simp only [pw0, pw1, pw2, pw3, pw4, pw5, pw6, pw7, pw8, pw9, if_true, if_false, eq_self, nm_eq, reduceCtorEq, ↓reduceIte, Nat.reduceEqDiff, Nat.reduceLeDiff, Nat.reduceBEq, Nat.reduceAdd, Nat.reduceLT, Nat.reduceSub, Nat.reduceMul, Int.reduceEq, Int.reduceLT, Int.reduceLE, Int.reduceNeg, Int.reduceToNat, h3]; exact pkt hk (by unfold isP; omega)
  by_cases h5 : n = 5
  · simp only [pw0, pw1, pw2, pw3, pw4, pw5, pw6, pw7, pw8, pw9, if_true, if_false, eq_self, nm_eq, reduceCtorEq, ↓reduceIte, Nat.reduceEqDiff, Nat.reduceLeDiff, Nat.reduceBEq, Nat.reduceAdd, Nat.reduceLT, Nat.reduceSub, Nat.reduceMul, Int.reduceEq, Int.reduceLT, Int.reduceLE, Int.reduceNeg, Int.reduceToNat, h5]; exact pkt hk (by unfold isP; omega)
  by_cases h7 : n = 7
  · simp only [pw0, pw1, pw2, pw3, pw4, pw5, pw6, pw7, pw8, pw9, if_true, if_false, eq_self, nm_eq, reduceCtorEq, ↓reduceIte, Nat.reduceEqDiff, Nat.reduceLeDiff, Nat.reduceBEq, Nat.reduceAdd, Nat.reduceLT, Nat.reduceSub, Nat.reduceMul, Int.reduceEq, Int.reduceLT, Int.reduceLE, Int.reduceNeg, Int.reduceToNat, h7]; exact pkt hk (by unfold isP; omega)
  simp only [pw0, pw1, pw2, pw3, pw4, pw5, pw6, pw7, pw8, pw9, if_true, if_false, eq_self, nm_eq, reduceCtorEq, ↓reduceIte, Nat.reduceEqDiff, Nat.reduceLeDiff, Nat.reduceBEq, Nat.reduceAdd, Nat.reduceLT, Nat.reduceSub, Nat.reduceMul, Int.reduceEq, Int.reduceLT, Int.reduceLE, Int.reduceNeg, Int.reduceToNat, h2, h3, h5, h7]
  exact pkf hk (by unfold isP; omega)

theorem tdiv_floor (a b : Int) (hb : 0 < b) : (if a.tmod b < 0 then a.tdiv b - 1 else a.tdiv b) = a / b := by
  have h1 := Int.tmod_add_mul_tdiv a b
  have h2 := Int.emod_add_mul_ediv a b
  have h3 := Int.emod_nonneg a (by omega : b ≠ 0)
  have h4 := Int.emod_lt_of_pos a hb
  have h5 := Int.tmod_lt_of_pos a hb
  have h6 := Int.lt_tmod_of_pos a hb
  split
  · have e1 : b * (a / b - a.tdiv b + 1) = a.tmod b - a % b + b := by rw [Int.mul_add, Int.mul_sub]; omega
    have : a / b - a.tdiv b + 1 = 0 := by
      rcases Int.lt_trichotomy (a / b - a.tdiv b + 1) 0 with x | x | x
      · have := Int.mul_le_mul_of_nonneg_left (show a / b - a.tdiv b + 1 ≤ -1 by omega) (show 0 ≤ b by omega)
        rw [e1] at this; omega
      · exact x
      · have := Int.mul_le_mul_of_nonneg_left (show 1 ≤ a / b - a.tdiv b + 1 by omega) (show 0 ≤ b by omega)
        rw [e1] at this; omega
    omega
  · have e1 : b * (a / b - a.tdiv b) = a.tmod b - a % b := by rw [Int.mul_sub]; omega
    have : a / b - a.tdiv b = 0 := by
      rcases Int.lt_trichotomy (a / b - a.tdiv b) 0 with x | x | x
      · have := Int.mul_le_mul_of_nonneg_left (show a / b - a.tdiv b ≤ -1 by omega) (show 0 ≤ b by omega)
        rw [e1] at this; omega
      · exact x
      · have := Int.mul_le_mul_of_nonneg_left (show 1 ≤ a / b - a.tdiv b by omega) (show 0 ≤ b by omega)
        rw [e1] at this; omega
    omega
theorem tdiv_sm {a b : Int} (hb : 0 < b) (ha : sm a) : sm (a.tdiv b) := by
  have h1 : (a.tdiv b).natAbs = a.natAbs / b.natAbs := Int.natAbs_tdiv a b
  have h2 : a.natAbs / b.natAbs ≤ a.natAbs := Nat.div_le_self _ _
  unfold sm at *
  omega

theorem floorQuotient_ok {a b : Int} (hb : 0 < b) (ha : sm a) (hk : K (.int .i64 (a / b)) σ) : PCalls Try.prog 136 [.int .i64 a, .int .i64 b] σ K := by
  refine pcalls_of_vp mix Try.func136 cf136 rfl ?_
  dsimp only [if136, qI, eI, nI, qD, eD]
  have h0 : b ≠ 0 := by omega
  have hf := tdiv_floor a b hb
  have hs := tdiv_sm hb ha
  unfold sm at hs
  rw [← hf] at hk
  simp only [pw0, pw1, pw2, pw3, pw4, pw5, pw6, pw7, pw8, pw9, if_true, if_false, eq_self, nm_eq, reduceCtorEq, ↓reduceIte, Nat.reduceEqDiff, Nat.reduceLeDiff, Nat.reduceBEq, Nat.reduceAdd, Nat.reduceLT, Nat.reduceSub, Nat.reduceMul, Int.reduceEq, Int.reduceLT, Int.reduceLE, Int.reduceNeg, Int.reduceToNat, h0, wrap64 (n := a.tdiv b) (by omega) (by omega)]
  split
  · rename_i hc
    rw [if_pos hc] at hk
    simp only [pw0, pw1, pw2, pw3, pw4, pw5, pw6, pw7, pw8, pw9, if_true, if_false, eq_self, nm_eq, reduceCtorEq, ↓reduceIte, Nat.reduceEqDiff, Nat.reduceLeDiff, Nat.reduceBEq, Nat.reduceAdd, Nat.reduceLT, Nat.reduceSub, Nat.reduceMul, Int.reduceEq, Int.reduceLT, Int.reduceLE, Int.reduceNeg, Int.reduceToNat, wrap64 (n := a.tdiv b - 1) (by omega) (by omega)]
    exact hk
  · rename_i hc
    rw [if_neg hc] at hk
    exact hk

theorem l04Floor_ok {a b : Int} (hb : 0 < b) (ha : sm a) (hk : K (.int .i64 (a / b)) σ) : PCalls Try.prog 137 [.int .i64 a, .int .i64 b] σ K := by
  refine pcalls_of_vp mix Try.func137 cf137 rfl ?_
  dsimp only [if137, qI, eI, nI, qD, eD]
  have h0 : b ≠ 0 := by omega
  have hf := tdiv_floor a b hb
  have hs := tdiv_sm hb ha
  unfold sm at hs
  rw [← hf] at hk
  simp only [pw0, pw1, pw2, pw3, pw4, pw5, pw6, pw7, pw8, pw9, if_true, if_false, eq_self, nm_eq, reduceCtorEq, ↓reduceIte, Nat.reduceEqDiff, Nat.reduceLeDiff, Nat.reduceBEq, Nat.reduceAdd, Nat.reduceLT, Nat.reduceSub, Nat.reduceMul, Int.reduceEq, Int.reduceLT, Int.reduceLE, Int.reduceNeg, Int.reduceToNat, h0, wrap64 (n := a.tdiv b) (by omega) (by omega)]
  split
  · rename_i hc
    rw [if_pos hc] at hk
    simp only [pw0, pw1, pw2, pw3, pw4, pw5, pw6, pw7, pw8, pw9, if_true, if_false, eq_self, nm_eq, reduceCtorEq, ↓reduceIte, Nat.reduceEqDiff, Nat.reduceLeDiff, Nat.reduceBEq, Nat.reduceAdd, Nat.reduceLT, Nat.reduceSub, Nat.reduceMul, Int.reduceEq, Int.reduceLT, Int.reduceLE, Int.reduceNeg, Int.reduceToNat, wrap64 (n := a.tdiv b - 1) (by omega) (by omega)]
    exact hk
  · rename_i hc
    rw [if_neg hc] at hk
    exact hk

theorem emod_tmod (x p : Int) (hp : 0 < p) : (x.tmod p + p).tmod p = x % p := by
  have h1 := Int.tmod_lt_of_pos x hp
  have h2 := Int.lt_tmod_of_pos x hp
  rw [Int.tmod_eq_emod_of_nonneg (by omega), Int.add_emod_right]
  rcases Int.le_total 0 x with h0 | h0
  · rw [Int.tmod_eq_emod_of_nonneg h0, Int.emod_emod_of_dvd _ (Int.dvd_refl p)]
  · obtain ⟨y, rfl⟩ : ∃ y, x = -y := ⟨-x, by omega⟩
    rw [Int.neg_tmod, Int.tmod_eq_emod_of_nonneg (by omega)]
    have e := Int.emod_add_mul_ediv y p
    have : -y = -(y % p) + p * (-(y / p)) := by rw [Int.mul_neg]; omega
    rw [this, Int.add_mul_emod_self_left]

theorem residue_ok {x p : Int} (hp : 0 < p) (hp2 : p < 4611686018427387904) (hk : K (.int .i64 (x % p)) σ) : PCalls Try.prog 114 [.int .i64 x, .int .i64 p] σ K := by
  refine pcalls_of_vp mix Try.func114 cf114 rfl ?_
  dsimp only [if114, qI, eI, nI, qD, eD]
  have hp0 : p ≠ 0 := by omega
  have h1 := Int.tmod_lt_of_pos x hp
  have h2 := Int.lt_tmod_of_pos x hp
  have hw : IntKind.i64.wrap (x.tmod p + p) = x.tmod p + p := wrap64 (by omega) (by omega)
  have he := emod_tmod x p hp
  simp only [pw0, pw1, pw2, pw3, pw4, pw5, pw6, pw7, pw8, pw9, if_true, if_false, eq_self, nm_eq, reduceCtorEq, ↓reduceIte, Nat.reduceEqDiff, Nat.reduceLeDiff, Nat.reduceBEq, Nat.reduceAdd, Nat.reduceLT, Nat.reduceSub, Nat.reduceMul, Int.reduceEq, Int.reduceLT, Int.reduceLE, Int.reduceNeg, Int.reduceToNat, hp0, hw, he]
  exact hk

theorem l01Mod_ok {x p : Int} (hp : 0 < p) (hp2 : p < 4611686018427387904) (hk : K (.int .i64 (x % p)) σ) : PCalls Try.prog 111 [.int .i64 x, .int .i64 p] σ K := by
  refine pcalls_of_vp mix Try.func111 cf111 rfl ?_
  dsimp only [if111, qI, eI, nI, qD, eD]
  have hp0 : p ≠ 0 := by omega
  have h1 := Int.tmod_lt_of_pos x hp
  have h2 := Int.lt_tmod_of_pos x hp
  have he := emod_tmod x p hp
  simp only [pw0, pw1, pw2, pw3, pw4, pw5, pw6, pw7, pw8, pw9, if_true, if_false, eq_self, nm_eq, reduceCtorEq, ↓reduceIte, Nat.reduceEqDiff, Nat.reduceLeDiff, Nat.reduceBEq, Nat.reduceAdd, Nat.reduceLT, Nat.reduceSub, Nat.reduceMul, Int.reduceEq, Int.reduceLT, Int.reduceLE, Int.reduceNeg, Int.reduceToNat, hp0]
  split
  · rw [Int.tmod_eq_emod_of_nonneg (by omega), Int.emod_eq_of_lt (by omega) (by omega)] at he
    simp only [pw0, pw1, pw2, pw3, pw4, pw5, pw6, pw7, pw8, pw9, if_true, if_false, eq_self, nm_eq, reduceCtorEq, ↓reduceIte, Nat.reduceEqDiff, Nat.reduceLeDiff, Nat.reduceBEq, Nat.reduceAdd, Nat.reduceLT, Nat.reduceSub, Nat.reduceMul, Int.reduceEq, Int.reduceLT, Int.reduceLE, Int.reduceNeg, Int.reduceToNat, he, wrap64 (n := x % p) (by omega) (by omega)]
    exact hk
  · rw [Int.tmod_eq_emod_of_nonneg (by omega), Int.add_emod_right, Int.emod_eq_of_lt (by omega) (by omega)] at he
    rw [he]; exact hk

/-- p to the n. -/
def ipow (p : Int) : Nat → Int
  | 0 => 1
  | n + 1 => ipow p n * p
theorem ipow_bd {p : Int} (hp : 2 ≤ p ∧ p ≤ 7) : ∀ {n : Nat}, n ≤ 6 → 1 ≤ ipow p n ∧ ipow p n ≤ 7 ^ n
  | 0, _ => by simp [ipow]
  | n + 1, hn => by
    obtain ⟨h1, h2⟩ := ipow_bd hp (n := n) (by omega)
    simp only [ipow]
    have a1 := Int.mul_le_mul_of_nonneg_left hp.1 (show 0 ≤ ipow p n by omega)
    have a2 := Int.mul_le_mul_of_nonneg_left hp.2 (show 0 ≤ ipow p n by omega)
    rw [Int.pow_succ]
    omega
theorem ipow_le {p : Int} (hp : 2 ≤ p ∧ p ≤ 7) {n : Nat} (hn : n ≤ 6) : 1 ≤ ipow p n ∧ ipow p n ≤ 117649 := by
  obtain ⟨h1, h2⟩ := ipow_bd hp hn
  refine ⟨h1, ?_⟩
  have : (7 : Int) ^ n ≤ 7 ^ 6 := by
    obtain rfl | rfl | rfl | rfl | rfl | rfl | rfl : n = 0 ∨ n = 1 ∨ n = 2 ∨ n = 3 ∨ n = 4 ∨ n = 5 ∨ n = 6 := by omega
    all_goals decide
  have e : (7 : Int) ^ 6 = 117649 := by decide
  omega

theorem integerPower_ok {p : Int} {n : Nat} (hp : 2 ≤ p ∧ p ≤ 7) (hn : n ≤ 6) (hk : K (.int .i64 (ipow p n)) σ) : PCalls Try.prog 113 [.int .i64 p, .int .i64 n] σ K := by
  refine pcalls_of_vp mix Try.func113 cf113 rfl ?_
  dsimp only [if113, qI, eI, nI, qD, eD]
  simp only [pw0, pw1, pw2, pw3, pw4, pw5, pw6, pw7, pw8, pw9, if_true, if_false, eq_self, nm_eq, reduceCtorEq, ↓reduceIte, Nat.reduceEqDiff, Nat.reduceLeDiff, Nat.reduceBEq, Nat.reduceAdd, Nat.reduceLT, Nat.reduceSub, Nat.reduceMul, Int.reduceEq, Int.reduceLT, Int.reduceLE, Int.reduceNeg, Int.reduceToNat]
  refine vp_loop (fun m vs h' => ∃ i : Nat, i ≤ n ∧ m = n - i ∧ vs = [.int .i64 p, .int .i64 (ipow p i), .int .i64 n, .int .i64 i] ∧ h' = σ) n ?_ ?_
  · exact ⟨0, by omega, by omega, rfl, rfl⟩
  · rintro m vs h' ⟨i, hi, rfl, rfl, rfl⟩
    simp only [pw0, pw1, pw2, pw3, pw4, pw5, pw6, pw7, pw8, pw9, if_true, if_false, eq_self, nm_eq, reduceCtorEq, ↓reduceIte, Nat.reduceEqDiff, Nat.reduceLeDiff, Nat.reduceBEq, Nat.reduceAdd, Nat.reduceLT, Nat.reduceSub, Nat.reduceMul, Int.reduceEq, Int.reduceLT, Int.reduceLE, Int.reduceNeg, Int.reduceToNat]
    split
    · rename_i hlt
      have := ipow_le hp (n := i + 1) (by omega)
      simp only [ipow] at this
      simp only [pw0, pw1, pw2, pw3, pw4, pw5, pw6, pw7, pw8, pw9, if_true, if_false, eq_self, nm_eq, reduceCtorEq, ↓reduceIte, Nat.reduceEqDiff, Nat.reduceLeDiff, Nat.reduceBEq, Nat.reduceAdd, Nat.reduceLT, Nat.reduceSub, Nat.reduceMul, Int.reduceEq, Int.reduceLT, Int.reduceLE, Int.reduceNeg, Int.reduceToNat, wrapS (n := n) (by omega) (by omega), wrap64 (n := ipow p i * p) (by omega) (by omega)]
      exact ⟨_, by omega, i + 1, by omega, rfl, rfl⟩
    · have : i = n := by omega
      subst this
      exact hk

/-- The order, cut where it exceeds what is allowed. -/
theorem l31Size_ok {p : Int} {n : Nat} (hp : 2 ≤ p ∧ p ≤ 7) (hn : n ≤ 6) (hk : ∀ k, (k ≤ 729 ↔ ipow p n ≤ 729) → (k ≤ 729 → k = ipow p n) → 1 ≤ k → k ≤ 117649 → K (.int .i64 k) σ) : PCalls Try.prog 119 [.int .i64 p, .int .i64 n] σ K := by
  refine pcalls_of_vp mix Try.func119 cf119 rfl ?_
  dsimp only [if119, qI, eI, nI, qD, eD]
  simp only [pw0, pw1, pw2, pw3, pw4, pw5, pw6, pw7, pw8, pw9, if_true, if_false, eq_self, nm_eq, reduceCtorEq, ↓reduceIte, Nat.reduceEqDiff, Nat.reduceLeDiff, Nat.reduceBEq, Nat.reduceAdd, Nat.reduceLT, Nat.reduceSub, Nat.reduceMul, Int.reduceEq, Int.reduceLT, Int.reduceLE, Int.reduceNeg, Int.reduceToNat]
  refine vp_loop (fun m vs h' => ∃ i : Nat, i ≤ n ∧ m = n - i ∧ vs = [.int .i64 p, .int .i64 n, .int .i64 (ipow p i), .int .i64 i] ∧ h' = σ) n ?_ ?_
  · exact ⟨0, by omega, by omega, rfl, rfl⟩
  · rintro m vs h' ⟨i, hi, rfl, rfl, rfl⟩
    have hbi := ipow_le hp (n := i) (by omega)
    have mono : ∀ j, i ≤ j → j ≤ 6 → ipow p i ≤ ipow p j := by
      intro j hj hj6
      induction j with
      | zero => have : i = 0 := by omega
                subst this; exact Int.le_refl _
      | succ j ih =>
        rcases Nat.lt_or_ge i (j + 1) with x | x
        · have := ih (by omega) (by omega)
          have hbj := ipow_le hp (n := j) (by omega)
          have := Int.mul_le_mul_of_nonneg_left hp.1 (show 0 ≤ ipow p j by omega)
          simp only [ipow]; omega
        · have : i = j + 1 := by omega
          subst this; exact Int.le_refl _
    by_cases hlt : i < n
    · by_cases hle : ipow p i ≤ 729
      · have := ipow_le hp (n := i + 1) (by omega)
        simp only [ipow] at this
        simp only [pw0, pw1, pw2, pw3, pw4, pw5, pw6, pw7, pw8, pw9, if_true, if_false, eq_self, nm_eq, reduceCtorEq, ↓reduceIte, Nat.reduceEqDiff, Nat.reduceLeDiff, Nat.reduceBEq, Nat.reduceAdd, Nat.reduceLT, Nat.reduceSub, Nat.reduceMul, Int.reduceEq, Int.reduceLT, Int.reduceLE, Int.reduceNeg, Int.reduceToNat, hlt, hle, wrapS (n := n) hlt (by omega), wrap64 (n := ipow p i * p) (by omega) (by omega)]
        exact ⟨_, by omega, i + 1, by omega, rfl, rfl⟩
      · simp only [pw0, pw1, pw2, pw3, pw4, pw5, pw6, pw7, pw8, pw9, if_true, if_false, eq_self, nm_eq, reduceCtorEq, ↓reduceIte, Nat.reduceEqDiff, Nat.reduceLeDiff, Nat.reduceBEq, Nat.reduceAdd, Nat.reduceLT, Nat.reduceSub, Nat.reduceMul, Int.reduceEq, Int.reduceLT, Int.reduceLE, Int.reduceNeg, Int.reduceToNat, hlt, hle]
        have := mono n (by omega) hn
        exact hk _ ⟨fun x => by omega, fun x => by omega⟩ (fun x => by omega) hbi.1 hbi.2
    · have : i = n := by omega
      subst this
      simp only [pw0, pw1, pw2, pw3, pw4, pw5, pw6, pw7, pw8, pw9, if_true, if_false, eq_self, nm_eq, reduceCtorEq, ↓reduceIte, Nat.reduceEqDiff, Nat.reduceLeDiff, Nat.reduceBEq, Nat.reduceAdd, Nat.reduceLT, Nat.reduceSub, Nat.reduceMul, Int.reduceEq, Int.reduceLT, Int.reduceLE, Int.reduceNeg, Int.reduceToNat, hlt]
      exact hk _ Iff.rfl (fun _ => rfl) hbi.1 hbi.2

/-- A copy in new memory. -/
theorem l01Own_ok {w : Bool} {a : AV} {xs : List Int} {l : Nat} (hl : l = xs.length) (hb : xs.length ≤ 4294967296) (hk : ∀ cap, full 1 cap xs.length → K (.sl σ.next 0 xs.length cap) (σ.new (pis xs))) : PCalls Try.prog 67 [.fz w a l (pis xs)] σ K := by
  subst hl
  refine PCalls.gh ?_
  refine pcalls_of_vp mix Try.func67 cf67 rfl ?_
  dsimp only [if67, qI, eI, nI, qD, eD]
  simp only [pw0, pw1, pw2, pw3, pw4, pw5, pw6, pw7, pw8, pw9, if_true, if_false, eq_self, nm_eq, reduceCtorEq, ↓reduceIte, Nat.reduceEqDiff, Nat.reduceLeDiff, Nat.reduceBEq, Nat.reduceAdd, Nat.reduceLT, Nat.reduceSub, Nat.reduceMul, Int.reduceEq, Int.reduceLT, Int.reduceLE, Int.reduceNeg, Int.reduceToNat]
  refine PSl.cat (bytes := 8) (σb := σ) (n := 0) (cs := []) (keep_new σ _) (PSl.new _ 1 rfl (Nat.le_refl _)) (pis_length xs) (by omega) (by omega) fun v' h' hk' ha => ?_
  simp only [pw0, pw1, pw2, pw3, pw4, pw5, pw6, pw7, pw8, pw9, if_true, if_false, eq_self, nm_eq, reduceCtorEq, ↓reduceIte, Nat.reduceEqDiff, Nat.reduceLeDiff, Nat.reduceBEq, Nat.reduceAdd, Nat.reduceLT, Nat.reduceSub, Nat.reduceMul, Int.reduceEq, Int.reduceLT, Int.reduceLE, Int.reduceNeg, Int.reduceToNat] at ha ⊢
  exact ha.out hk' (pis_bel _ _) hk

theorem Clone_ok {w : Bool} {a : AV} {xs : List Int} {l : Nat} (hl : l = xs.length) (hb : xs.length ≤ 4294967296) (hk : ResI σ K xs) : PCalls Try.prog 112 [.fz w a l (pis xs)] σ K := by
  subst hl
  refine PCalls.nil0 fun hnil => PCalls.gh ?_
  refine pcalls_of_vp mix Try.func112 cf112 rfl ?_
  dsimp only [if112, qI, eI, nI, qD, eD]
  simp only [pw0, pw1, pw2, pw3, pw4, pw5, pw6, pw7, pw8, pw9, if_true, if_false, eq_self, nm_eq, reduceCtorEq, ↓reduceIte, Nat.reduceEqDiff, Nat.reduceLeDiff, Nat.reduceBEq, Nat.reduceAdd, Nat.reduceLT, Nat.reduceSub, Nat.reduceMul, Int.reduceEq, Int.reduceLT, Int.reduceLE, Int.reduceNeg, Int.reduceToNat]
  cases hn : isNils a
  · simp only [pw0, pw1, pw2, pw3, pw4, pw5, pw6, pw7, pw8, pw9, if_true, if_false, eq_self, nm_eq, reduceCtorEq, ↓reduceIte, Nat.reduceEqDiff, Nat.reduceLeDiff, Nat.reduceBEq, Nat.reduceAdd, Nat.reduceLT, Nat.reduceSub, Nat.reduceMul, Int.reduceEq, Int.reduceLT, Int.reduceLE, Int.reduceNeg, Int.reduceToNat]
    refine PSl.cat (bytes := 8) (σb := σ) (n := 0) (cs := []) (keep_new σ _) (PSl.new _ 1 rfl (Nat.le_refl _)) (pis_length xs) (by omega) (by omega) fun v' h' hk' ha => ?_
    simp only [pw0, pw1, pw2, pw3, pw4, pw5, pw6, pw7, pw8, pw9, if_true, if_false, eq_self, nm_eq, reduceCtorEq, ↓reduceIte, Nat.reduceEqDiff, Nat.reduceLeDiff, Nat.reduceBEq, Nat.reduceAdd, Nat.reduceLT, Nat.reduceSub, Nat.reduceMul, Int.reduceEq, Int.reduceLT, Int.reduceLE, Int.reduceNeg, Int.reduceToNat] at ha ⊢
    exact ha.out hk' (pis_bel _ _) hk.2
  · simp only [pw0, pw1, pw2, pw3, pw4, pw5, pw6, pw7, pw8, pw9, if_true, if_false, eq_self, nm_eq, reduceCtorEq, ↓reduceIte, Nat.reduceEqDiff, Nat.reduceLeDiff, Nat.reduceBEq, Nat.reduceAdd, Nat.reduceLT, Nat.reduceSub, Nat.reduceMul, Int.reduceEq, Int.reduceLT, Int.reduceLE, Int.reduceNeg, Int.reduceToNat]
    exact Gh.ret (hk.1 (List.eq_nil_of_length_eq_zero (hnil hn).1))

/-- A vector with one entry 1. -/
def unitL (n k : Nat) : List Int := (List.replicate n 0).set k 1
theorem unitL_length (n k : Nat) : (unitL n k).length = n := by simp [unitL]

theorem unitVector_ok {n k : Nat} (hn : n ≤ 1048576) (hkn : k < n) (hk : ∀ cap, full 1 cap n → K (.sl σ.next 0 n cap) (σ.new (pis (unitL n k)))) : PCalls Try.prog 129 [.int .i64 n, .int .i64 k] σ K := by
  refine pcalls_of_vp mix Try.func129 cf129 rfl ?_
  dsimp only [if129, qI, eI, nI, qD, eD]
  simp only [pw0, pw1, pw2, pw3, pw4, pw5, pw6, pw7, pw8, pw9, if_true, if_false, eq_self, nm_eq, reduceCtorEq, ↓reduceIte, Nat.reduceEqDiff, Nat.reduceLeDiff, Nat.reduceBEq, Nat.reduceAdd, Nat.reduceLT, Nat.reduceSub, Nat.reduceMul, Int.reduceEq, Int.reduceLT, Int.reduceLE, Int.reduceNeg, Int.reduceToNat, hkn, List.length_replicate, pis_rep, pis_length, mk8 (n := n) (by omega), mkL (n := n) (by omega), Nat.succ_le_of_lt hkn]
  rw [pis_set_at (by simpa using hkn)]
  exact hk _ (.inr rfl)

theorem subtractMultiple_ok {s : Nat} {cap : Cap} {w : Bool} {a : AV} {xs ys : List Int} {k : Int} {l' : Nat} (hl' : l' = ys.length) (hs : σ.obj s = some (pis xs)) (hl : xs.length ≤ ys.length) (hb : xs.length ≤ 4294967296)
    (hsm : ∀ i (h1 : i < xs.length) (h2 : i < ys.length), sm (k * ys[i]) ∧ sm (xs[i] - k * ys[i])) (hk : K (.tup []) (σ.set s (pis (subm k xs ys)))) :
    PCalls Try.prog 116 [.sl s 0 xs.length cap, .fz w a l' (pis ys), .int .i64 k] σ K := by
  subst hl'
  refine pcalls_of_vp mix Try.func116 cf116 rfl ?_
  dsimp only [if116, qI, eI, nI, qD, eD]
  simp only [pw0, pw1, pw2, pw3, pw4, pw5, pw6, pw7, pw8, pw9, if_true, if_false, eq_self, nm_eq, reduceCtorEq, ↓reduceIte, Nat.reduceEqDiff, Nat.reduceLeDiff, Nat.reduceBEq, Nat.reduceAdd, Nat.reduceLT, Nat.reduceSub, Nat.reduceMul, Int.reduceEq, Int.reduceLT, Int.reduceLE, Int.reduceNeg, Int.reduceToNat]
  refine vp_loop (fun m vs h' => ∃ i : Nat, i ≤ xs.length ∧ m = xs.length - i ∧ vs = [.sl s 0 xs.length cap, .fz w a ys.length (pis ys), .int .i64 k, .int .i64 xs.length, .int .i64 i] ∧ h' = σ.set s (pis ((subm k xs ys).take i ++ xs.drop i))) xs.length ?_ ?_
  · exact ⟨0, by omega, by omega, rfl, by rw [List.take_zero, List.drop_zero, List.nil_append, set_same hs]⟩
  · rintro m vs h' ⟨i, hi, rfl, rfl, rfl⟩
    simp only [pw0, pw1, pw2, pw3, pw4, pw5, pw6, pw7, pw8, pw9, if_true, if_false, eq_self, nm_eq, reduceCtorEq, ↓reduceIte, Nat.reduceEqDiff, Nat.reduceLeDiff, Nat.reduceBEq, Nat.reduceAdd, Nat.reduceLT, Nat.reduceSub, Nat.reduceMul, Int.reduceEq, Int.reduceLT, Int.reduceLE, Int.reduceNeg, Int.reduceToNat]
    split
    · rename_i hlt
      have hlt2 : i < ys.length := by omega
      have hsl := subm_length (k := k) hl
      have e1 : ((subm k xs ys).take i ++ xs.drop i)[i]? = some xs[i] := by
        rw [List.getElem?_append_right (by rw [List.length_take]; omega), List.length_take, List.getElem?_drop]
        have : i + (i - min i (subm k xs ys).length) = i := by omega
        rw [this, gi hlt]
      obtain ⟨b1, b2⟩ := hsm i hlt hlt2
      have hlen : i + 1 ≤ ((subm k xs ys).take i ++ xs.drop i).length := by simp; omega
      simp only [pw0, pw1, pw2, pw3, pw4, pw5, pw6, pw7, pw8, pw9, if_true, if_false, eq_self, nm_eq, reduceCtorEq, ↓reduceIte, Nat.reduceEqDiff, Nat.reduceLeDiff, Nat.reduceBEq, Nat.reduceAdd, Nat.reduceLT, Nat.reduceSub, Nat.reduceMul, Int.reduceEq, Int.reduceLT, Int.reduceLE, Int.reduceNeg, Int.reduceToNat, hlt, hlt2, List.getElem?_drop, pis_get, pis_length, gi hlt2, e1, hlen, wrapS hlt (by omega : xs.length ≤ 4611686018427387904), b1.w, b2.w]
      refine ⟨_, by omega, i + 1, by omega, rfl, rfl, ?_⟩
      rw [pis_set_at (by simp; omega)]
      congr 2
      apply List.ext_getElem?
      intro j
      rcases Nat.lt_trichotomy j i with x | x | x
      · rw [List.getElem?_set_ne (by omega), List.getElem?_append_left (by simp; omega), List.getElem?_append_left (by simp; omega), List.getElem?_take, List.getElem?_take, if_pos x, if_pos (by omega)]
      · subst x
        rw [List.getElem?_set_self (by omega), List.getElem?_append_left (by simp; omega), List.getElem?_take, if_pos (by omega), subm_get hlt hlt2]
      · rw [List.getElem?_set_ne (by omega), List.getElem?_append_right (by simp; omega), List.getElem?_append_right (by simp; omega), List.getElem?_drop, List.getElem?_drop, List.length_take, List.length_take]
        congr 1; omega
    · have : i = xs.length := by omega
      subst this
      rw [List.drop_length, List.append_nil, List.take_of_length_le (by rw [subm_length hl]; exact Nat.le_refl _)]
      exact hk
theorem subtractMultiple_ok' {s l l' : Nat} {cap : Cap} {w : Bool} {a : AV} {xs ys : List Int} {k : Int} (hl : l = xs.length) (hl' : l' = ys.length) (hs : σ.obj s = some (pis xs)) (hle : xs.length ≤ ys.length) (hb : xs.length ≤ 4294967296)
    (hsm : ∀ i (h1 : i < xs.length) (h2 : i < ys.length), sm (k * ys[i]) ∧ sm (xs[i] - k * ys[i])) (hk : K (.tup []) (σ.set s (pis (subm k xs ys)))) :
    PCalls Try.prog 116 [.sl s 0 l cap, .fz w a l' (pis ys), .int .i64 k] σ K := by
  subst hl
  exact subtractMultiple_ok hl' hs hle hb hsm hk
theorem subtractMultiple_nil {w w' : Bool} {a : AV} {cs : List PV} {n : Nat} {k : Int} (hk : K (.tup []) σ) :
    PCalls Try.prog 116 [.fz w' .nils 0 [], .fz w a n cs, .int .i64 k] σ K := by
  refine pcalls_of_vp mix Try.func116 cf116 rfl ?_
  dsimp only [if116, qI, eI, nI, qD, eD]
  simp only [pw0, pw1, pw2, pw3, pw4, pw5, pw6, pw7, pw8, pw9, if_true, if_false, eq_self, nm_eq, reduceCtorEq, ↓reduceIte, Nat.reduceEqDiff, Nat.reduceLeDiff, Nat.reduceBEq, Nat.reduceAdd, Nat.reduceLT, Nat.reduceSub, Nat.reduceMul, Int.reduceEq, Int.reduceLT, Int.reduceLE, Int.reduceNeg, Int.reduceToNat]
  refine vp_loop (fun m vs h' => m = 0 ∧ vs = [.fz w' .nils 0 [], .fz w a n cs, .int .i64 k, .int .i64 (0 : Nat), .int .i64 (0 : Nat)] ∧ h' = σ) 0 ?_ ?_
  · exact ⟨rfl, rfl, rfl⟩
  · rintro m vs h' ⟨rfl, rfl, rfl⟩
    simp only [pw0, pw1, pw2, pw3, pw4, pw5, pw6, pw7, pw8, pw9, if_true, if_false, eq_self, nm_eq, reduceCtorEq, ↓reduceIte, Nat.reduceEqDiff, Nat.reduceLeDiff, Nat.reduceBEq, Nat.reduceAdd, Nat.reduceLT, Nat.reduceSub, Nat.reduceMul, Int.reduceEq, Int.reduceLT, Int.reduceLE, Int.reduceNeg, Int.reduceToNat]
    exact hk
end Go.Proofs
