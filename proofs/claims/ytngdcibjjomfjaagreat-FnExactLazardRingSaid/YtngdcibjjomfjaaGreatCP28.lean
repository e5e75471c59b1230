/- Inverses modulo a number, the program's side, in general. -/
import Derived.Test.YtngdcibjjomfjaaGreatCP27
import Derived.Test.YtngdcibjjomfjaaGreatCAbPy
open Nat renaming reduceLeDiff → nQ7, reduceEqDiff → nQ10, reduceBEq → nQ11, reduceAdd → nQ12, reduceLT → nQ16, reduceSub → nQ17, reduceMul → nQ18
open Int renaming reduceEq → iQ2, reduceLT → iQ3, reduceLE → iQ4, reduceNeg → iQ5, reduceToNat → iQ6, ofNat_le → iQ7
open List renaming reduceReplicate → lQ19, getElem?_drop → lQ20
set_option linter.unusedSimpArgs false
set_option linter.unusedVariables false
namespace Go.Proofs
open Go.Ab
variable {σ : PHeap} {K : PV → PHeap → Prop}
theorem inside_ok {n lo hi : Int} (hk : K (.bool (decide (lo ≤ n ∧ n ≤ hi))) σ) : PCalls Tryz.prog 175 [.int .i64 n, .int .i64 lo, .int .i64 hi] σ K := by
  refine pcalls_of_vp mix Tryz.func175 cf175 rfl ?_
  dsimp only [if175, qI, eI, nI, qD, eD]
  by_cases h1 : lo ≤ n
  · simp only [pwA, if_true, if_false, eq_self, nm_eq, reduceCtorEq, ↓reduceIte, nQ10, nQ7, nQ11, nQ12, nQ16, nQ17, nQ18, iQ2, iQ3, iQ4, iQ5, iQ6, lQ19, iQ7, lQ20, h1]; exact pke hk ⟨fun x => x.2, fun x => ⟨h1, x⟩⟩
  · simp only [pwA, if_true, if_false, eq_self, nm_eq, reduceCtorEq, ↓reduceIte, nQ10, nQ7, nQ11, nQ12, nQ16, nQ17, nQ18, iQ2, iQ3, iQ4, iQ5, iQ6, lQ19, iQ7, lQ20, h1]; exact pkf hk (by omega)
theorem l01In_ok {n lo hi : Int} (hk : K (.bool (decide (lo ≤ n ∧ n ≤ hi))) σ) : PCalls Tryz.prog 138 [.int .i64 n, .int .i64 lo, .int .i64 hi] σ K := by
  refine pcalls_of_vp mix Tryz.func138 cf138 rfl ?_
  dsimp only [if138, qI, eI, nI, qD, eD]
  by_cases h1 : lo ≤ n
  · simp only [pwA, if_true, if_false, eq_self, nm_eq, reduceCtorEq, ↓reduceIte, nQ10, nQ7, nQ11, nQ12, nQ16, nQ17, nQ18, iQ2, iQ3, iQ4, iQ5, iQ6, lQ19, iQ7, lQ20, h1]; exact pke hk ⟨fun x => x.2, fun x => ⟨h1, x⟩⟩
  · simp only [pwA, if_true, if_false, eq_self, nm_eq, reduceCtorEq, ↓reduceIte, nQ10, nQ7, nQ11, nQ12, nQ16, nQ17, nQ18, iQ2, iQ3, iQ4, iQ5, iQ6, lQ19, iQ7, lQ20, h1]; exact pkf hk (by omega)
def isVec (xs : List Int) (p n : Int) : Prop := (xs.length : Int) = n ∧ ∀ x ∈ xs, 0 ≤ x ∧ x ≤ p - 1
instance (xs : List Int) (p n : Int) : Decidable (isVec xs p n) := by unfold isVec; infer_instance
def isZ (xs : List Int) : Prop := ∀ x ∈ xs, x = 0
instance (xs : List Int) : Decidable (isZ xs) := by unfold isZ; infer_instance
theorem isZero_ok {w : Bool} {a : AV} {xs : List Int} {l : Nat} (hl : l = xs.length) (hb : xs.length ≤ 4611686018427387904) (hk : K (.bool (decide (isZ xs))) σ) : PCalls Tryz.prog 109 [.fz w a l (pis xs)] σ K := by
  subst hl
  refine pcalls_of_vp mix Tryz.func109 cf109 rfl ?_
  dsimp only [if109, qI, eI, nI, qD, eD]
  simp only [pwA, if_true, if_false, eq_self, nm_eq, reduceCtorEq, ↓reduceIte, nQ10, nQ7, nQ11, nQ12, nQ16, nQ17, nQ18, iQ2, iQ3, iQ4, iQ5, iQ6, lQ19, iQ7, lQ20]
  refine vp_loop (fun m vs h' => ∃ i : Nat, i ≤ xs.length ∧ m = xs.length - i ∧ vs = [.fz w a xs.length (pis xs), .int .i64 xs.length, .int .i64 i] ∧ h' = σ ∧ ∀ x ∈ xs.take i, x = 0) xs.length ?_ ?_
  · exact ⟨0, by omega, by omega, rfl, rfl, by simp⟩
  · rintro m vs h' ⟨i, hi, rfl, rfl, rfl, hall⟩
    simp only [pwA, if_true, if_false, eq_self, nm_eq, reduceCtorEq, ↓reduceIte, nQ10, nQ7, nQ11, nQ12, nQ16, nQ17, nQ18, iQ2, iQ3, iQ4, iQ5, iQ6, lQ19, iQ7, lQ20]
    split
    · rename_i hlt
      simp only [pwA, if_true, if_false, eq_self, nm_eq, reduceCtorEq, ↓reduceIte, nQ10, nQ7, nQ11, nQ12, nQ16, nQ17, nQ18, iQ2, iQ3, iQ4, iQ5, iQ6, lQ19, iQ7, lQ20, hlt, pis_get, gi hlt]
      split
      · rename_i h0
        simp only [pwA, if_true, if_false, eq_self, nm_eq, reduceCtorEq, ↓reduceIte, nQ10, nQ7, nQ11, nQ12, nQ16, nQ17, nQ18, iQ2, iQ3, iQ4, iQ5, iQ6, lQ19, iQ7, lQ20, wrapS hlt hb]
        exact ⟨_, by omega, i + 1, by omega, rfl, rfl, forall_snoc hlt hall h0⟩
      · rename_i hn
        exact pkf hk fun hv => hn (hv _ (List.getElem_mem hlt))
    · refine pkt hk (forall_all (by omega) hall)
theorem l01Zero_ok {w : Bool} {a : AV} {xs : List Int} {l : Nat} (hl : l = xs.length) (hb : xs.length ≤ 4611686018427387904) (hk : K (.bool (decide (isZ xs))) σ) : PCalls Tryz.prog 117 [.fz w a l (pis xs)] σ K := by
  subst hl
  refine pcalls_of_vp mix Tryz.func117 cf117 rfl ?_
  dsimp only [if117, qI, eI, nI, qD, eD]
  simp only [pwA, if_true, if_false, eq_self, nm_eq, reduceCtorEq, ↓reduceIte, nQ10, nQ7, nQ11, nQ12, nQ16, nQ17, nQ18, iQ2, iQ3, iQ4, iQ5, iQ6, lQ19, iQ7, lQ20]
  refine vp_loop (fun m vs h' => ∃ i : Nat, i ≤ xs.length ∧ m = xs.length - i ∧ vs = [.fz w a xs.length (pis xs), .int .i64 i] ∧ h' = σ ∧ ∀ x ∈ xs.take i, x = 0) xs.length ?_ ?_
  · exact ⟨0, by omega, by omega, rfl, rfl, by simp⟩
  · rintro m vs h' ⟨i, hi, rfl, rfl, rfl, hall⟩
    simp only [pwA, if_true, if_false, eq_self, nm_eq, reduceCtorEq, ↓reduceIte, nQ10, nQ7, nQ11, nQ12, nQ16, nQ17, nQ18, iQ2, iQ3, iQ4, iQ5, iQ6, lQ19, iQ7, lQ20]
    split
    · rename_i hlt
      simp only [pwA, if_true, if_false, eq_self, nm_eq, reduceCtorEq, ↓reduceIte, nQ10, nQ7, nQ11, nQ12, nQ16, nQ17, nQ18, iQ2, iQ3, iQ4, iQ5, iQ6, lQ19, iQ7, lQ20, hlt, pis_get, gi hlt]
      split
      · rename_i h0
        simp only [pwA, if_true, if_false, eq_self, nm_eq, reduceCtorEq, ↓reduceIte, nQ10, nQ7, nQ11, nQ12, nQ16, nQ17, nQ18, iQ2, iQ3, iQ4, iQ5, iQ6, lQ19, iQ7, lQ20, wrapS hlt hb]
        exact ⟨_, by omega, i + 1, by omega, rfl, rfl, forall_snoc hlt hall h0⟩
      · rename_i hn
        exact pkf hk fun hv => hn (hv _ (List.getElem_mem hlt))
    · refine pkt hk (forall_all (by omega) hall)
theorem eqList {xs ys : List Int} (hl : xs.length = ys.length) {i : Nat} (hi : i < xs.length) (h : xs.take i = ys.take i) (he : xs[i] = ys[i]'(by omega)) : xs.take (i + 1) = ys.take (i + 1) := by
  rw [List.take_succ_eq_append_getElem hi, List.take_succ_eq_append_getElem (by omega : i < ys.length), h, he]
theorem l01Same_ok {w w' : Bool} {a a' : AV} {xs ys : List Int} {l : Nat} {l' : Nat} (hl : l = xs.length) (hl' : l' = ys.length) (hb : xs.length ≤ 4611686018427387904) (hk : K (.bool (decide (xs = ys))) σ) : PCalls Tryz.prog 151 [.fz w a l (pis xs), .fz w' a' l' (pis ys)] σ K := by
  subst hl
  subst hl'
  refine pcalls_of_vp mix Tryz.func151 cf151 rfl ?_
  dsimp only [if151, qI, eI, nI, qD, eD]
  simp only [pwA, if_true, if_false, eq_self, nm_eq, reduceCtorEq, ↓reduceIte, nQ10, nQ7, nQ11, nQ12, nQ16, nQ17, nQ18, iQ2, iQ3, iQ4, iQ5, iQ6, lQ19, iQ7, lQ20]
  split
  · rename_i hl
    have hl : xs.length = ys.length := by omega
    refine vp_loop (fun m vs h' => ∃ i : Nat, i ≤ xs.length ∧ m = xs.length - i ∧ vs = [.fz w a xs.length (pis xs), .fz w' a' ys.length (pis ys), .int .i64 i] ∧ h' = σ ∧ xs.take i = ys.take i) xs.length ?_ ?_
    · exact ⟨0, by omega, by omega, rfl, rfl, by simp⟩
    · rintro m vs h' ⟨i, hi, rfl, rfl, rfl, hall⟩
      simp only [pwA, if_true, if_false, eq_self, nm_eq, reduceCtorEq, ↓reduceIte, nQ10, nQ7, nQ11, nQ12, nQ16, nQ17, nQ18, iQ2, iQ3, iQ4, iQ5, iQ6, lQ19, iQ7, lQ20]
      split
      · rename_i hlt
        have hlt2 : i < ys.length := by omega
        simp only [pwA, if_true, if_false, eq_self, nm_eq, reduceCtorEq, ↓reduceIte, nQ10, nQ7, nQ11, nQ12, nQ16, nQ17, nQ18, iQ2, iQ3, iQ4, iQ5, iQ6, lQ19, iQ7, lQ20, hlt, hlt2, pis_get, gi hlt, gi hlt2]
        split
        · rename_i h0
          simp only [pwA, if_true, if_false, eq_self, nm_eq, reduceCtorEq, ↓reduceIte, nQ10, nQ7, nQ11, nQ12, nQ16, nQ17, nQ18, iQ2, iQ3, iQ4, iQ5, iQ6, lQ19, iQ7, lQ20, wrapS hlt hb]
          exact ⟨_, by omega, i + 1, by omega, rfl, rfl, eqList hl hlt hall h0⟩
        · rename_i hn
          refine pkf hk fun hv => hn (by subst hv; rfl)
      · refine pkt hk ?_
        rwa [List.take_of_length_le (by omega), List.take_of_length_le (by omega)] at hall
  · rename_i hl
    exact pkf hk fun hv => hl (by rw [hv])
theorem Equal_ok {w w' : Bool} {a a' : AV} {xs ys : List Int} {l : Nat} {l' : Nat} (hl : l = xs.length) (hl' : l' = ys.length) (hb : xs.length ≤ 4611686018427387904) (hk : K (.bool (decide (xs = ys))) σ) : PCalls Tryz.prog 160 [.fz w a l (pis xs), .fz w' a' l' (pis ys)] σ K := by
  subst hl
  subst hl'
  refine pcalls_of_vp mix Tryz.func160 cf160 rfl ?_
  dsimp only [if160, qI, eI, nI, qD, eD]
  simp only [pwA, if_true, if_false, eq_self, nm_eq, reduceCtorEq, ↓reduceIte, nQ10, nQ7, nQ11, nQ12, nQ16, nQ17, nQ18, iQ2, iQ3, iQ4, iQ5, iQ6, lQ19, iQ7, lQ20]
  split
  · rename_i hl
    have hl : xs.length = ys.length := by omega
    refine vp_loop (fun m vs h' => ∃ i : Nat, i ≤ xs.length ∧ m = xs.length - i ∧ vs = [.fz w a xs.length (pis xs), .fz w' a' ys.length (pis ys), .int .i64 xs.length, .int .i64 i] ∧ h' = σ ∧ xs.take i = ys.take i) xs.length ?_ ?_
    · exact ⟨0, by omega, by omega, rfl, rfl, by simp⟩
    · rintro m vs h' ⟨i, hi, rfl, rfl, rfl, hall⟩
      simp only [pwA, if_true, if_false, eq_self, nm_eq, reduceCtorEq, ↓reduceIte, nQ10, nQ7, nQ11, nQ12, nQ16, nQ17, nQ18, iQ2, iQ3, iQ4, iQ5, iQ6, lQ19, iQ7, lQ20]
      split
      · rename_i hlt
        have hlt2 : i < ys.length := by omega
        simp only [pwA, if_true, if_false, eq_self, nm_eq, reduceCtorEq, ↓reduceIte, nQ10, nQ7, nQ11, nQ12, nQ16, nQ17, nQ18, iQ2, iQ3, iQ4, iQ5, iQ6, lQ19, iQ7, lQ20, hlt, hlt2, pis_get, gi hlt, gi hlt2]
        split
        · rename_i h0
          simp only [pwA, if_true, if_false, eq_self, nm_eq, reduceCtorEq, ↓reduceIte, nQ10, nQ7, nQ11, nQ12, nQ16, nQ17, nQ18, iQ2, iQ3, iQ4, iQ5, iQ6, lQ19, iQ7, lQ20, wrapS hlt hb]
          exact ⟨_, by omega, i + 1, by omega, rfl, rfl, eqList hl hlt hall h0⟩
        · rename_i hn
          refine pkf hk fun hv => hn (by subst hv; rfl)
      · refine pkt hk ?_
        rwa [List.take_of_length_le (by omega), List.take_of_length_le (by omega)] at hall
  · rename_i hl
    exact pkf hk fun hv => hl (by rw [hv])
def isP (n : Int) : Prop := n = 2 ∨ n = 3 ∨ n = 5 ∨ n = 7
instance (n : Int) : Decidable (isP n) := by unfold isP; infer_instance
theorem isP.bd {n : Int} (hp : isP n) : 2 ≤ n ∧ n ≤ 7 := by unfold isP at hp; omega
theorem l01Prime_ok {n : Int} (hk : K (.bool (decide (isP n))) σ) : PCalls Tryz.prog 176 [.int .i64 n] σ K := by
  refine pcalls_of_vp mix Tryz.func176 cf176 rfl ?_
  dsimp only [if176, qI, eI, nI, qD, eD]
  by_cases h2 : n = 2
  · simp only [pwA, if_true, if_false, eq_self, nm_eq, reduceCtorEq, ↓reduceIte, nQ10, nQ7, nQ11, nQ12, nQ16, nQ17, nQ18, iQ2, iQ3, iQ4, iQ5, iQ6, lQ19, iQ7, lQ20, h2]; exact pkt hk (by unfold isP; omega)
  by_cases h3 : n = 3
  · simp only [pwA, if_true, if_false, eq_self, nm_eq, reduceCtorEq, ↓reduceIte, nQ10, nQ7, nQ11, nQ12, nQ16, nQ17, nQ18, iQ2, iQ3, iQ4, iQ5, iQ6, lQ19, iQ7, lQ20, h3]; exact pkt hk (by unfold isP; omega)
  by_cases h5 : n = 5
  · simp only [pwA, if_true, if_false, eq_self, nm_eq, reduceCtorEq, ↓reduceIte, nQ10, nQ7, nQ11, nQ12, nQ16, nQ17, nQ18, iQ2, iQ3, iQ4, iQ5, iQ6, lQ19, iQ7, lQ20, h5]; exact pkt hk (by unfold isP; omega)
  by_cases h7 : n = 7
  · simp only [pwA, if_true, if_false, eq_self, nm_eq, reduceCtorEq, ↓reduceIte, nQ10, nQ7, nQ11, nQ12, nQ16, nQ17, nQ18, iQ2, iQ3, iQ4, iQ5, iQ6, lQ19, iQ7, lQ20, h7]; exact pkt hk (by unfold isP; omega)
  simp only [pwA, if_true, if_false, eq_self, nm_eq, reduceCtorEq, ↓reduceIte, nQ10, nQ7, nQ11, nQ12, nQ16, nQ17, nQ18, iQ2, iQ3, iQ4, iQ5, iQ6, lQ19, iQ7, lQ20, h2, h3, h5, h7]
  exact pkf hk (by unfold isP; omega)
theorem IsGroupPrime_ok {n : Int} (hk : K (.bool (decide (isP n))) σ) : PCalls Tryz.prog 195 [.int .i64 n] σ K := by
  refine pcalls_of_vp mix Tryz.func195 cf195 rfl ?_
  dsimp only [if195, qI, eI, nI, qD, eD]
  by_cases h2 : n = 2
  · simp only [pwA, if_true, if_false, eq_self, nm_eq, reduceCtorEq, ↓reduceIte, nQ10, nQ7, nQ11, nQ12, nQ16, nQ17, nQ18, iQ2, iQ3, iQ4, iQ5, iQ6, lQ19, iQ7, lQ20, h2]; exact pkt hk (by unfold isP; omega)
  by_cases h3 : n = 3
  · simp only [pwA, if_true, if_false, eq_self, nm_eq, reduceCtorEq, ↓reduceIte, nQ10, nQ7, nQ11, nQ12, nQ16, nQ17, nQ18, iQ2, iQ3, iQ4, iQ5, iQ6, lQ19, iQ7, lQ20, h3]; exact pkt hk (by unfold isP; omega)
  by_cases h5 : n = 5
  · simp only [pwA, if_true, if_false, eq_self, nm_eq, reduceCtorEq, ↓reduceIte, nQ10, nQ7, nQ11, nQ12, nQ16, nQ17, nQ18, iQ2, iQ3, iQ4, iQ5, iQ6, lQ19, iQ7, lQ20, h5]; exact pkt hk (by unfold isP; omega)
  by_cases h7 : n = 7
  · simp only [pwA, if_true, if_false, eq_self, nm_eq, reduceCtorEq, ↓reduceIte, nQ10, nQ7, nQ11, nQ12, nQ16, nQ17, nQ18, iQ2, iQ3, iQ4, iQ5, iQ6, lQ19, iQ7, lQ20, h7]; exact pkt hk (by unfold isP; omega)
  simp only [pwA, if_true, if_false, eq_self, nm_eq, reduceCtorEq, ↓reduceIte, nQ10, nQ7, nQ11, nQ12, nQ16, nQ17, nQ18, iQ2, iQ3, iQ4, iQ5, iQ6, lQ19, iQ7, lQ20, h2, h3, h5, h7]
  exact pkf hk (by unfold isP; omega)
theorem emod_tmod (x p : Int) (hp : 0 < p) : (x.tmod p + p).tmod p = x % p := by
  have h1 := Int.tmod_lt_of_pos x hp
  have h2 := Int.lt_tmod_of_pos x hp
  rw [Int.tmod_eq_emod_of_nonneg (by omega), Int.add_emod_right]
  rcases Int.le_total 0 x with h0 | h0
  · rw [Int.tmod_eq_emod_of_nonneg h0, Int.emod_emod_of_dvd _ (Int.dvd_refl p)]
  · obtain ⟨y, rfl⟩ : ∃ y, x = -y := ⟨-x, by omega⟩
    rw [Int.neg_tmod, Int.tmod_eq_emod_of_nonneg (by omega)]
    have e := Int.emod_add_mul_ediv y p
    have : -y = -(y % p) + p * (-(y / p)) := by rw [Int.mul_neg]; omega
    rw [this, Int.add_mul_emod_self_left]
theorem residue_ok {x p : Int} (hp : 0 < p) (hp2 : p < 4611686018427387904) (hk : K (.int .i64 (x % p)) σ) : PCalls Tryz.prog 150 [.int .i64 x, .int .i64 p] σ K := by
  refine pcalls_of_vp mix Tryz.func150 cf150 rfl ?_
  dsimp only [if150, qI, eI, nI, qD, eD]
  have hp0 : p ≠ 0 := by omega
  have h1 := Int.tmod_lt_of_pos x hp
  have h2 := Int.lt_tmod_of_pos x hp
  have hw : IntKind.i64.wrap (x.tmod p + p) = x.tmod p + p := wrap64 (by omega) (by omega)
  have he := emod_tmod x p hp
  simp only [pwA, if_true, if_false, eq_self, nm_eq, reduceCtorEq, ↓reduceIte, nQ10, nQ7, nQ11, nQ12, nQ16, nQ17, nQ18, iQ2, iQ3, iQ4, iQ5, iQ6, lQ19, iQ7, lQ20, hp0, hw, he]
  exact hk
theorem l01Mod_ok {x p : Int} (hp : 0 < p) (hp2 : p < 4611686018427387904) (hk : K (.int .i64 (x % p)) σ) : PCalls Tryz.prog 158 [.int .i64 x, .int .i64 p] σ K := by
  refine pcalls_of_vp mix Tryz.func158 cf158 rfl ?_
  dsimp only [if158, qI, eI, nI, qD, eD]
  have hp0 : p ≠ 0 := by omega
  have h1 := Int.tmod_lt_of_pos x hp
  have h2 := Int.lt_tmod_of_pos x hp
  have he := emod_tmod x p hp
  simp only [pwA, if_true, if_false, eq_self, nm_eq, reduceCtorEq, ↓reduceIte, nQ10, nQ7, nQ11, nQ12, nQ16, nQ17, nQ18, iQ2, iQ3, iQ4, iQ5, iQ6, lQ19, iQ7, lQ20, hp0]
  split
  · rw [Int.tmod_eq_emod_of_nonneg (by omega), Int.emod_eq_of_lt (by omega) (by omega)] at he
    simp only [pwA, if_true, if_false, eq_self, nm_eq, reduceCtorEq, ↓reduceIte, nQ10, nQ7, nQ11, nQ12, nQ16, nQ17, nQ18, iQ2, iQ3, iQ4, iQ5, iQ6, lQ19, iQ7, lQ20, he, wrap64 (n := x % p) (by omega) (by omega)]
    exact hk
  · rw [Int.tmod_eq_emod_of_nonneg (by omega), Int.add_emod_right, Int.emod_eq_of_lt (by omega) (by omega)] at he
    rw [he]; exact hk
theorem l01Own_ok {w : Bool} {a : AV} {xs : List Int} {l : Nat} (hl : l = xs.length) (hb : xs.length ≤ 4294967296) (hk : ∀ cap, full 1 cap xs.length → K (.sl σ.next 0 xs.length cap) (σ.new (pis xs))) : PCalls Tryz.prog 155 [.fz w a l (pis xs)] σ K := by
  subst hl
  refine PCalls.gh ?_
  refine pcalls_of_vp mix Tryz.func155 cf155 rfl ?_
  dsimp only [if155, qI, eI, nI, qD, eD]
  simp only [pwA, if_true, if_false, eq_self, nm_eq, reduceCtorEq, ↓reduceIte, nQ10, nQ7, nQ11, nQ12, nQ16, nQ17, nQ18, iQ2, iQ3, iQ4, iQ5, iQ6, lQ19, iQ7, lQ20]
  refine PSl.cat (bytes := 8) (σb := σ) (n := 0) (cs := []) (keep_new σ _) (PSl.new _ 1 rfl (Nat.le_refl _)) (pis_length xs) (by omega) (by omega) fun v' h' hk' ha => ?_
  simp only [pwA, if_true, if_false, eq_self, nm_eq, reduceCtorEq, ↓reduceIte, nQ10, nQ7, nQ11, nQ12, nQ16, nQ17, nQ18, iQ2, iQ3, iQ4, iQ5, iQ6, lQ19, iQ7, lQ20] at ha ⊢
  exact ha.out hk' (pis_bel _ _) hk
theorem Clone_ok {w : Bool} {a : AV} {xs : List Int} {l : Nat} (hl : l = xs.length) (hb : xs.length ≤ 4294967296) (hk : ResI σ K xs) : PCalls Tryz.prog 132 [.fz w a l (pis xs)] σ K := by
  subst hl
  refine PCalls.nil0 fun hnil => PCalls.gh ?_
  refine pcalls_of_vp mix Tryz.func132 cf132 rfl ?_
  dsimp only [if132, qI, eI, nI, qD, eD]
  simp only [pwA, if_true, if_false, eq_self, nm_eq, reduceCtorEq, ↓reduceIte, nQ10, nQ7, nQ11, nQ12, nQ16, nQ17, nQ18, iQ2, iQ3, iQ4, iQ5, iQ6, lQ19, iQ7, lQ20]
  cases hn : isNils a
  · simp only [pwA, if_true, if_false, eq_self, nm_eq, reduceCtorEq, ↓reduceIte, nQ10, nQ7, nQ11, nQ12, nQ16, nQ17, nQ18, iQ2, iQ3, iQ4, iQ5, iQ6, lQ19, iQ7, lQ20]
    refine PSl.cat (bytes := 8) (σb := σ) (n := 0) (cs := []) (keep_new σ _) (PSl.new _ 1 rfl (Nat.le_refl _)) (pis_length xs) (by omega) (by omega) fun v' h' hk' ha => ?_
    simp only [pwA, if_true, if_false, eq_self, nm_eq, reduceCtorEq, ↓reduceIte, nQ10, nQ7, nQ11, nQ12, nQ16, nQ17, nQ18, iQ2, iQ3, iQ4, iQ5, iQ6, lQ19, iQ7, lQ20] at ha ⊢
    exact ha.out hk' (pis_bel _ _) hk.2
  · simp only [pwA, if_true, if_false, eq_self, nm_eq, reduceCtorEq, ↓reduceIte, nQ10, nQ7, nQ11, nQ12, nQ16, nQ17, nQ18, iQ2, iQ3, iQ4, iQ5, iQ6, lQ19, iQ7, lQ20]
    exact Gh.ret (hk.1 (List.eq_nil_of_length_eq_zero (hnil hn).1))
def unitL (n k : Nat) : List Int := (List.replicate n 0).set k 1
theorem unitL_length (n k : Nat) : (unitL n k).length = n := by simp [unitL]
theorem unitVector_ok {n k : Nat} (hn : n ≤ 1048576) (hkn : k < n) (hk : ∀ cap, full 1 cap n → K (.sl σ.next 0 n cap) (σ.new (pis (unitL n k)))) : PCalls Tryz.prog 50 [.int .i64 n, .int .i64 k] σ K := by
  refine pcalls_of_vp mix Tryz.func50 cf50 rfl ?_
  dsimp only [if50, qI, eI, nI, qD, eD]
  simp only [pwA, if_true, if_false, eq_self, nm_eq, reduceCtorEq, ↓reduceIte, nQ10, nQ7, nQ11, nQ12, nQ16, nQ17, nQ18, iQ2, iQ3, iQ4, iQ5, iQ6, lQ19, iQ7, lQ20, hkn, List.length_replicate, pis_rep, pis_length, mk8 (n := n) (by omega), mkL (n := n) (by omega), Nat.succ_le_of_lt hkn]
  rw [pis_set_at (by simpa using hkn)]
  exact hk _ (.inr rfl)
end Go.Proofs
namespace Go.Lie
open Go.Ab
abbrev at_ (v : List Int) (j : Nat) : Int := v.getD j 0
theorem at_eq {v : List Int} {j : Nat} (h : j < v.length) : at_ v j = v[j] := by simp [at_, List.getD_eq_getElem?_getD, List.getElem?_eq_getElem h]
theorem at_ge {v : List Int} {j : Nat} (h : v.length ≤ j) : at_ v j = 0 := by simp [at_, List.getD_eq_getElem?_getD, List.getElem?_eq_none h]
theorem ext_at {a b : List Int} (hl : a.length = b.length) (h : ∀ j, j < a.length → at_ a j = at_ b j) : a = b := by
  apply List.ext_getElem hl
  intro j h1 h2
  have := h j h1
  rwa [at_eq h1, at_eq h2] at this
theorem at_set {v : List Int} {i : Nat} (hi : i < v.length) (x : Int) (j : Nat) : at_ (v.set i x) j = if j = i then x else at_ v j := by
  simp only [at_, List.getD_eq_getElem?_getD, List.getElem?_set]
  by_cases h : i = j
  · subst h; simp [hi]
  · rw [if_neg h, if_neg (fun e => h e.symm)]
theorem at_rep (n : Nat) (j : Nat) : at_ (List.replicate n 0) j = 0 := by
  simp only [at_, List.getD_eq_getElem?_getD, List.getElem?_replicate]
  split <;> rfl
variable {p : Int} {n : Nat} {W : List (List Int)}
theorem getD_row {i : Nat} (h : i < W.length) : W.getD i [] = W[i] := by simp [List.getD_eq_getElem?_getD, List.getElem?_eq_getElem h]
end Go.Lie
namespace Go.Proofs
open Go.Ab Go.Lie
variable {σ : PHeap} {K : PV → PHeap → Prop}
structure IsR (vP vB : PV) (W : List (List Int)) (B : List (List (List Int))) : Prop where
  P : FII vP W
  B : FIII vB B
end Go.Proofs
namespace Go.Proofs
open Go.Ab Go.Lie
variable {σ : PHeap} {K : PV → PHeap → Prop} {p : Int} {n : Nat} {W : List (List Int)} {B : List (List (List Int))} {vP vB : PV} {s : Nat}
theorem getD_row' {α : Type} {B : List (List α)} {i : Nat} (h : i < B.length) : B.getD i [] = B[i] := by simp [List.getD_eq_getElem?_getD, List.getElem?_eq_getElem h]
end Go.Proofs
namespace Go.Proofs
open Go.Ab Go.Lie
variable {σ : PHeap} {K : PV → PHeap → Prop} {p : Int} {n : Nat} {W : List (List Int)} {B : List (List (List Int))} {vP vB : PV} {s : Nat}
structure SzR (W : List (List Int)) (B : List (List (List Int))) : Prop where
  Wl : W.length ≤ 1048576
  w : ∀ r ∈ W, r.length ≤ 1048576
  Bl : B.length ≤ 1048576
  b : ∀ q ∈ B, q.length ≤ 1048576
  c : ∀ q ∈ B, ∀ r ∈ q, r.length ≤ 1048576
end Go.Proofs
namespace Go.Proofs
open Go.Ab Go.Lie
variable {σ : PHeap} {K : PV → PHeap → Prop} {p : Int} {n : Nat} {W : List (List Int)} {B : List (List (List Int))} {vP vB : PV} {s : Nat}
theorem unitVector_fz {k : Nat} (hn : n ≤ 1048576) (hkn : k < n) (hk : ∀ a, K (.fz true a n (pis (unitL n k))) σ) : PCalls Tryz.prog 50 [.int .i64 n, .int .i64 k] σ K :=
  PCalls.fz (fun K' => unitVector_ok hn hkn) (pis_bel _ _) fun o cap => hk _
end Go.Proofs
namespace Go.Proofs
open Go.Ab Go.Lie
variable {σ : PHeap} {K : PV → PHeap → Prop} {p : Int} {n : Nat} {W : List (List Int)} {B : List (List (List Int))} {vP vB vL : PV} {s : Nat}
structure SzL (xs : List (List Int)) : Prop where
  l : xs.length ≤ 1048576
  r : ∀ x ∈ xs, x.length ≤ 1048576
end Go.Proofs
namespace Go.Proofs
open Go.Ab Go.Lie
variable {σ : PHeap} {K : PV → PHeap → Prop} {p p' : Int} {n : Nat} {W W' : List (List Int)} {B B' : List (List (List Int))} {vP vB vP' vB' vL vL' : PV}
def left_ (l : Int) : Prop := 0 ≤ l ∧ l ≤ 1048576
theorem szInt64S_ok {l : Int} {xs : List Int} {v : PV} (hI : FI v xs) (hb : xs.length ≤ 9223372036854775807) (hl : left_ l) (hk : ∀ r : Int, (r = -1 ∨ (left_ r ∧ xs.length ≤ 1048576)) → K (.int .i64 r) σ) : PCalls Tryz.prog 42 [v, .int .i64 l] σ K := by
  obtain ⟨w, a, rfl⟩ := hI
  unfold left_ at hl
  refine pcalls_of_vp mix Tryz.func42 cf42 rfl ?_
  dsimp only [if42, qI, eI, nI, qD, eD]
  simp only [pwA, if_true, if_false, eq_self, nm_eq, reduceCtorEq, ↓reduceIte, nQ10, nQ7, nQ11, nQ12, nQ16, nQ17, nQ18, iQ2, iQ3, iQ4, iQ5, iQ6, lQ19, iQ7, lQ20, wrap64 (n := l - (xs.length : Int)) (by omega) (by omega)]
  refine iteI (fun h => ?_) fun h => ?_
  · exact hk _ (.inl rfl)
  · exact hk _ (.inr ⟨by unfold left_; omega, by omega⟩)
theorem szInt64SS_ok {l : Int} {xs : List (List Int)} {v : PV} (hI : FII v xs) (hb : xs.length ≤ 9223372036854775807) (hb2 : ∀ x ∈ xs, x.length ≤ 9223372036854775807) (hl : left_ l) (hk : ∀ r : Int, (r = -1 ∨ (left_ r ∧ SzL xs)) → K (.int .i64 r) σ) : PCalls Tryz.prog 21 [v, .int .i64 l] σ K := by
  obtain ⟨w, a, rs, rfl, hr⟩ := hI
  have hl' := hl
  unfold left_ at hl
  refine pcalls_of_vp mix Tryz.func21 cf21 rfl ?_
  dsimp only [if21, qI, eI, nI, qD, eD]
  simp only [pwA, if_true, if_false, eq_self, nm_eq, reduceCtorEq, ↓reduceIte, nQ10, nQ7, nQ11, nQ12, nQ16, nQ17, nQ18, iQ2, iQ3, iQ4, iQ5, iQ6, lQ19, iQ7, lQ20, wrap64 (n := l - (xs.length : Int)) (by omega) (by omega)]
  refine iteI (fun h => ?_) fun h => ?_
  · exact hk _ (.inl rfl)
  refine vp_loop (fun m vs h' => ∃ i : Nat, i ≤ xs.length ∧ m = xs.length - i ∧ ∃ r : Int, left_ r ∧ vs = [.fz w a xs.length rs, .int .i64 r, .int .i64 i] ∧ σ = h' ∧ ∀ x ∈ xs.take i, x.length ≤ 1048576) xs.length ?_ ?_
  · exact ⟨0, by omega, by omega, _, (by unfold left_; omega), rfl, rfl, by simp⟩
  rintro m vs h' ⟨i, hi, rfl, r, hr', rfl, rfl, hall⟩
  simp only [pwA, if_true, if_false, eq_self, nm_eq, reduceCtorEq, ↓reduceIte, nQ10, nQ7, nQ11, nQ12, nQ16, nQ17, nQ18, iQ2, iQ3, iQ4, iQ5, iQ6, lQ19, iQ7, lQ20]
  refine iteI (fun hlt => ?_) fun hge => ?_
  rotate_left
  · exact hk _ (.inr ⟨hr', by omega, forall_all (by omega) hall⟩)
  obtain ⟨w4, a4, hrk⟩ := hr.rowI hlt
  simp only [pwA, if_true, if_false, eq_self, nm_eq, reduceCtorEq, ↓reduceIte, nQ10, nQ7, nQ11, nQ12, nQ16, nQ17, nQ18, iQ2, iQ3, iQ4, iQ5, iQ6, lQ19, iQ7, lQ20, hlt, hrk]
  refine szInt64S_ok ⟨_, _, rfl⟩ (hb2 _ (List.getElem_mem hlt)) hr' fun r' h => ?_
  rcases h with rfl | ⟨h1, h2⟩
  · simp only [pwA, if_true, if_false, eq_self, nm_eq, reduceCtorEq, ↓reduceIte, nQ10, nQ7, nQ11, nQ12, nQ16, nQ17, nQ18, iQ2, iQ3, iQ4, iQ5, iQ6, lQ19, iQ7, lQ20]
    exact hk _ (.inl rfl)
  · have : ¬ r' < 0 := by unfold left_ at h1; omega
    simp only [pwA, if_true, if_false, eq_self, nm_eq, reduceCtorEq, ↓reduceIte, nQ10, nQ7, nQ11, nQ12, nQ16, nQ17, nQ18, iQ2, iQ3, iQ4, iQ5, iQ6, lQ19, iQ7, lQ20, this, wrapS hlt (by omega : xs.length ≤ 4611686018427387904)]
    exact ⟨_, by omega, i + 1, by omega, rfl, _, h1, rfl, forallA_snoc hlt hall h2⟩
structure SzM (B : List (List (List Int))) : Prop where
  l : B.length ≤ 1048576
  r : ∀ q ∈ B, SzL q
theorem szInt64SSS_ok {l : Int} {xs : List (List (List Int))} {v : PV} (hI : FIII v xs) (hb : xs.length ≤ 9223372036854775807) (hb2 : ∀ q ∈ xs, q.length ≤ 9223372036854775807 ∧ ∀ x ∈ q, x.length ≤ 9223372036854775807) (hl : left_ l) (hk : ∀ r : Int, (r = -1 ∨ (left_ r ∧ SzM xs)) → K (.int .i64 r) σ) : PCalls Tryz.prog 30 [v, .int .i64 l] σ K := by
  obtain ⟨w, a, rs, rfl, hr⟩ := hI
  have hl' := hl
  unfold left_ at hl
  refine pcalls_of_vp mix Tryz.func30 cf30 rfl ?_
  dsimp only [if30, qI, eI, nI, qD, eD]
  simp only [pwA, if_true, if_false, eq_self, nm_eq, reduceCtorEq, ↓reduceIte, nQ10, nQ7, nQ11, nQ12, nQ16, nQ17, nQ18, iQ2, iQ3, iQ4, iQ5, iQ6, lQ19, iQ7, lQ20, wrap64 (n := l - (xs.length : Int)) (by omega) (by omega)]
  refine iteI (fun h => ?_) fun h => ?_
  · exact hk _ (.inl rfl)
  refine vp_loop (fun m vs h' => ∃ i : Nat, i ≤ xs.length ∧ m = xs.length - i ∧ ∃ r : Int, left_ r ∧ vs = [.fz w a xs.length rs, .int .i64 r, .int .i64 i] ∧ σ = h' ∧ ∀ x ∈ xs.take i, SzL x) xs.length ?_ ?_
  · exact ⟨0, by omega, by omega, _, (by unfold left_; omega), rfl, rfl, by simp⟩
  rintro m vs h' ⟨i, hi, rfl, r, hr', rfl, rfl, hall⟩
  simp only [pwA, if_true, if_false, eq_self, nm_eq, reduceCtorEq, ↓reduceIte, nQ10, nQ7, nQ11, nQ12, nQ16, nQ17, nQ18, iQ2, iQ3, iQ4, iQ5, iQ6, lQ19, iQ7, lQ20]
  refine iteI (fun hlt => ?_) fun hge => ?_
  rotate_left
  · exact hk _ (.inr ⟨hr', by omega, forall_all (by omega) hall⟩)
  obtain ⟨w4, a4, rk, hrk, hrs⟩ := hr.rowL hlt
  have hbi := hb2 _ (List.getElem_mem hlt)
  simp only [pwA, if_true, if_false, eq_self, nm_eq, reduceCtorEq, ↓reduceIte, nQ10, nQ7, nQ11, nQ12, nQ16, nQ17, nQ18, iQ2, iQ3, iQ4, iQ5, iQ6, lQ19, iQ7, lQ20, hlt, hrk]
  refine szInt64SS_ok ⟨_, _, _, rfl, hrs⟩ hbi.1 hbi.2 hr' fun r' h => ?_
  rcases h with rfl | ⟨h1, h2⟩
  · simp only [pwA, if_true, if_false, eq_self, nm_eq, reduceCtorEq, ↓reduceIte, nQ10, nQ7, nQ11, nQ12, nQ16, nQ17, nQ18, iQ2, iQ3, iQ4, iQ5, iQ6, lQ19, iQ7, lQ20]
    exact hk _ (.inl rfl)
  · have : ¬ r' < 0 := by unfold left_ at h1; omega
    simp only [pwA, if_true, if_false, eq_self, nm_eq, reduceCtorEq, ↓reduceIte, nQ10, nQ7, nQ11, nQ12, nQ16, nQ17, nQ18, iQ2, iQ3, iQ4, iQ5, iQ6, lQ19, iQ7, lQ20, this, wrapS hlt (by omega : xs.length ≤ 4611686018427387904)]
    exact ⟨_, by omega, i + 1, by omega, rfl, _, h1, rfl, forallA_snoc hlt hall h2⟩
theorem toInt64S_ok {v : PV} {xs : List Int} (hI : FI v xs) (hb : xs.length ≤ 1048576) (hk : ∀ cap, full 1 cap xs.length → K (.sl σ.next 0 xs.length cap) (σ.new (pis xs))) : PCalls Tryz.prog 45 [v] σ K := by
  obtain ⟨w, a, rfl⟩ := hI
  refine pcalls_of_vp mix Tryz.func45 cf45 rfl ?_
  dsimp only [if45, qI, eI, nI, qD, eD]
  simp only [pwA, if_true, if_false, eq_self, nm_eq, reduceCtorEq, ↓reduceIte, nQ10, nQ7, nQ11, nQ12, nQ16, nQ17, nQ18, iQ2, iQ3, iQ4, iQ5, iQ6, lQ19, iQ7, lQ20, pis_rep, mk8 (n := xs.length) (by omega), mkL (n := xs.length) (by omega)]
  refine vp_loop (fun m vs h' => ∃ i : Nat, i ≤ xs.length ∧ m = xs.length - i ∧ vs = [.fz w a xs.length (pis xs), .sl σ.next 0 xs.length (.known xs.length), .int .i64 i] ∧ h' = σ.new (pis (xs.take i ++ List.replicate (xs.length - i) 0))) xs.length ?_ ?_
  · exact ⟨0, by omega, by omega, rfl, by rw [List.take_zero, List.nil_append, Nat.sub_zero]⟩
  rintro m vs h' ⟨i, hi, rfl, rfl, rfl⟩
  simp only [pwA, if_true, if_false, eq_self, nm_eq, reduceCtorEq, ↓reduceIte, nQ10, nQ7, nQ11, nQ12, nQ16, nQ17, nQ18, iQ2, iQ3, iQ4, iQ5, iQ6, lQ19, iQ7, lQ20]
  refine iteI (fun hlt => ?_) fun hge => ?_
  · have hlen : i + 1 ≤ (xs.take i ++ List.replicate (xs.length - i) 0).length := by simp; omega
    simp only [pwA, if_true, if_false, eq_self, nm_eq, reduceCtorEq, ↓reduceIte, nQ10, nQ7, nQ11, nQ12, nQ16, nQ17, nQ18, iQ2, iQ3, iQ4, iQ5, iQ6, lQ19, iQ7, lQ20, hlt, gi hlt, pis_get, pis_length, hlen, wrapS hlt (by omega : xs.length ≤ 4611686018427387904)]
    refine ⟨_, by omega, i + 1, by omega, rfl, rfl, ?_⟩
    rw [pis_set_at (by omega), take_set_rep xs 0 hlt]
  · have hie : i = xs.length := by omega
    subst hie
    rw [List.take_length, Nat.sub_self, List.replicate_zero, List.append_nil]
    exact hk _ (.inr rfl)
theorem toInt64S_fz {v : PV} {xs : List Int} (hI : FI v xs) (hb : xs.length ≤ 1048576) (hk : ∀ v, FI v xs → K v σ) : PCalls Tryz.prog 45 [v] σ K :=
  PCalls.fz (fun K' => toInt64S_ok hI hb) (pis_bel _ _) fun o cap => hk _ ⟨_, _, rfl⟩
theorem rows_set {rows : List PV} {z r : PV} {n i : Nat} (hl : rows.length = i) (hi : i < n) : (rows ++ List.replicate (n - i) z).take i ++ [r] ++ (rows ++ List.replicate (n - i) z).drop (i + 1) = (rows ++ [r]) ++ List.replicate (n - (i + 1)) z := by
  rw [List.take_append_of_le_length (by omega), List.take_of_length_le (by omega), List.drop_append, List.drop_eq_nil_of_le (by omega), List.nil_append, hl]
  congr 1
  obtain ⟨k, hk⟩ : ∃ k, n - i = k + 1 := ⟨n - i - 1, by omega⟩
  rw [hk, show i + 1 - i = 1 by omega, List.replicate_succ, List.drop_succ_cons, List.drop_zero]
  congr 1; omega
theorem toInt64SS_fz {v : PV} {xs : List (List Int)} (hI : FII v xs) (sz : SzL xs) (hk : ∀ v, FII v xs → K v σ) : PCalls Tryz.prog 23 [v] σ K := by
  obtain ⟨w, a, rs, rfl, hr⟩ := hI
  have hb := sz.l
  refine PCalls.gh ?_
  refine pcalls_of_vp mix Tryz.func23 cf23 rfl ?_
  dsimp only [if23, qI, eI, nI, qD, eD]
  simp only [pwA, if_true, if_false, eq_self, nm_eq, reduceCtorEq, ↓reduceIte, nQ10, nQ7, nQ11, nQ12, nQ16, nQ17, nQ18, iQ2, iQ3, iQ4, iQ5, iQ6, lQ19, iQ7, lQ20, mk24 (n := xs.length) (by omega), mkL (n := xs.length) (by omega)]
  refine vp_loop (fun m vs h' => ∃ i : Nat, i ≤ xs.length ∧ m = xs.length - i ∧ vs = [.fz w a xs.length rs, .sl σ.next 0 xs.length (.known xs.length), .int .i64 i] ∧ ∃ rows : List PV, rows.length = i ∧ All2 FI rows (xs.take i) ∧ h' = σ.new (rows ++ List.replicate (xs.length - i) (.fz true .nils 0 []))) xs.length ?_ ?_
  · exact ⟨0, by omega, by omega, rfl, [], rfl, by simpa using All2.nil _, by simp⟩
  rintro m vs h' ⟨i, hi, rfl, rfl, rows, hrl, hra, rfl⟩
  simp only [pwA, if_true, if_false, eq_self, nm_eq, reduceCtorEq, ↓reduceIte, nQ10, nQ7, nQ11, nQ12, nQ16, nQ17, nQ18, iQ2, iQ3, iQ4, iQ5, iQ6, lQ19, iQ7, lQ20]
  refine iteI (fun hlt => ?_) fun hge => ?_
  · obtain ⟨w4, a4, hrk⟩ := hr.rowI hlt
    simp only [pwA, if_true, if_false, eq_self, nm_eq, reduceCtorEq, ↓reduceIte, nQ10, nQ7, nQ11, nQ12, nQ16, nQ17, nQ18, iQ2, iQ3, iQ4, iQ5, iQ6, lQ19, iQ7, lQ20, hlt, hrk]
    refine toInt64S_fz ⟨_, _, rfl⟩ (sz.r _ (List.getElem_mem hlt)) fun r hr' => ?_
    have hlen : i + 1 ≤ (rows ++ List.replicate (xs.length - i) (PV.fz true .nils 0 [])).length := by simp; omega
    simp only [pwA, if_true, if_false, eq_self, nm_eq, reduceCtorEq, ↓reduceIte, nQ10, nQ7, nQ11, nQ12, nQ16, nQ17, nQ18, iQ2, iQ3, iQ4, iQ5, iQ6, lQ19, iQ7, lQ20, hlt, hlen, hr'.cells, hr'.one, wrapS hlt (by omega : xs.length ≤ 4611686018427387904)]
    refine ⟨_, by omega, i + 1, by omega, rfl, rfl, rows ++ [r], by simp [hrl], ?_, ?_⟩
    · rw [List.take_succ_eq_append_getElem hlt]; exact hra.snoc hr'
    · rw [rows_set hrl hlt]
  · have hie : i = xs.length := by omega
    subst hie
    rw [List.take_length] at hra
    rw [Nat.sub_self, List.replicate_zero, List.append_nil]
    exact Gh.finF (keep_new σ _) (by simp only [pwA, if_true, if_false, eq_self, nm_eq, reduceCtorEq, ↓reduceIte, nQ10, nQ7, nQ11, nQ12, nQ16, nQ17, nQ18, iQ2, iQ3, iQ4, iQ5, iQ6, lQ19, iQ7, lQ20]) (Nat.le_refl _) (hra.bI 0) (by simp [capOK]) fun o => hk _ ⟨_, _, _, rfl, hra⟩
theorem toInt64SSS_fz {v : PV} {xs : List (List (List Int))} (hI : FIII v xs) (sz : SzM xs) (hk : ∀ v, FIII v xs → K v σ) : PCalls Tryz.prog 33 [v] σ K := by
  obtain ⟨w, a, rs, rfl, hr⟩ := hI
  have hb := sz.l
  refine PCalls.gh ?_
  refine pcalls_of_vp mix Tryz.func33 cf33 rfl ?_
  dsimp only [if33, qI, eI, nI, qD, eD]
  simp only [pwA, if_true, if_false, eq_self, nm_eq, reduceCtorEq, ↓reduceIte, nQ10, nQ7, nQ11, nQ12, nQ16, nQ17, nQ18, iQ2, iQ3, iQ4, iQ5, iQ6, lQ19, iQ7, lQ20, mk24 (n := xs.length) (by omega), mkL (n := xs.length) (by omega)]
  refine vp_loop (fun m vs h' => ∃ i : Nat, i ≤ xs.length ∧ m = xs.length - i ∧ vs = [.fz w a xs.length rs, .sl σ.next 0 xs.length (.known xs.length), .int .i64 i] ∧ ∃ rows : List PV, rows.length = i ∧ All2 FII rows (xs.take i) ∧ h' = σ.new (rows ++ List.replicate (xs.length - i) (.fz true .nils 0 []))) xs.length ?_ ?_
  · exact ⟨0, by omega, by omega, rfl, [], rfl, by simpa using All2.nil _, by simp⟩
  rintro m vs h' ⟨i, hi, rfl, rfl, rows, hrl, hra, rfl⟩
  simp only [pwA, if_true, if_false, eq_self, nm_eq, reduceCtorEq, ↓reduceIte, nQ10, nQ7, nQ11, nQ12, nQ16, nQ17, nQ18, iQ2, iQ3, iQ4, iQ5, iQ6, lQ19, iQ7, lQ20]
  refine iteI (fun hlt => ?_) fun hge => ?_
  · obtain ⟨w4, a4, rk, hrk, hrs⟩ := hr.rowL hlt
    simp only [pwA, if_true, if_false, eq_self, nm_eq, reduceCtorEq, ↓reduceIte, nQ10, nQ7, nQ11, nQ12, nQ16, nQ17, nQ18, iQ2, iQ3, iQ4, iQ5, iQ6, lQ19, iQ7, lQ20, hlt, hrk]
    refine toInt64SS_fz ⟨_, _, _, rfl, hrs⟩ (sz.r _ (List.getElem_mem hlt)) fun r hr' => ?_
    have hlen : i + 1 ≤ (rows ++ List.replicate (xs.length - i) (PV.fz true .nils 0 [])).length := by simp; omega
    simp only [pwA, if_true, if_false, eq_self, nm_eq, reduceCtorEq, ↓reduceIte, nQ10, nQ7, nQ11, nQ12, nQ16, nQ17, nQ18, iQ2, iQ3, iQ4, iQ5, iQ6, lQ19, iQ7, lQ20, hlt, hlen, hr'.cells, hr'.one, wrapS hlt (by omega : xs.length ≤ 4611686018427387904)]
    refine ⟨_, by omega, i + 1, by omega, rfl, rfl, rows ++ [r], by simp [hrl], ?_, ?_⟩
    · rw [List.take_succ_eq_append_getElem hlt]; exact hra.snoc hr'
    · rw [rows_set hrl hlt]
  · have hie : i = xs.length := by omega
    subst hie
    rw [List.take_length] at hra
    rw [Nat.sub_self, List.replicate_zero, List.append_nil]
    exact Gh.finF (keep_new σ _) (by simp only [pwA, if_true, if_false, eq_self, nm_eq, reduceCtorEq, ↓reduceIte, nQ10, nQ7, nQ11, nQ12, nQ16, nQ17, nQ18, iQ2, iQ3, iQ4, iQ5, iQ6, lQ19, iQ7, lQ20]) (Nat.le_refl _) (hra.bL 0) (by simp [capOK]) fun o => hk _ ⟨_, _, _, rfl, hra⟩
theorem SzR.L (sz : SzR W B) : SzL W := ⟨sz.Wl, sz.w⟩
theorem SzR.M (sz : SzR W B) : SzM B := ⟨sz.Bl, fun q hq => ⟨sz.b q hq, sz.c q hq⟩⟩
theorem eqInt64S_ok {v v' : PV} {xs ys : List Int} (hI : FI v xs) (hI' : FI v' ys) (hb : xs.length ≤ 4611686018427387904) (hk : K (.bool (decide (xs = ys))) σ) : PCalls Tryz.prog 36 [v, v'] σ K := by
  obtain ⟨w, a, rfl⟩ := hI
  obtain ⟨w', a', rfl⟩ := hI'
  refine pcalls_of_vp mix Tryz.func36 cf36 rfl ?_
  dsimp only [if36, qI, eI, nI, qD, eD]
  simp only [pwA, if_true, if_false, eq_self, nm_eq, reduceCtorEq, ↓reduceIte, nQ10, nQ7, nQ11, nQ12, nQ16, nQ17, nQ18, iQ2, iQ3, iQ4, iQ5, iQ6, lQ19, iQ7, lQ20]
  refine iteI (fun hl => ?_) fun hl => ?_
  rotate_left
  · exact pkf hk fun hv => hl (by rw [hv])
  have hl : xs.length = ys.length := by omega
  refine vp_loop (fun m vs h' => ∃ i : Nat, i ≤ xs.length ∧ m = xs.length - i ∧ vs = [.fz w a xs.length (pis xs), .fz w' a' ys.length (pis ys), .int .i64 i] ∧ σ = h' ∧ xs.take i = ys.take i) xs.length ?_ ?_
  · exact ⟨0, by omega, by omega, rfl, rfl, by simp⟩
  rintro m vs h' ⟨i, hi, rfl, rfl, rfl, hall⟩
  simp only [pwA, if_true, if_false, eq_self, nm_eq, reduceCtorEq, ↓reduceIte, nQ10, nQ7, nQ11, nQ12, nQ16, nQ17, nQ18, iQ2, iQ3, iQ4, iQ5, iQ6, lQ19, iQ7, lQ20]
  refine iteI (fun hlt => ?_) fun hge => ?_
  · have hlt2 : i < ys.length := by omega
    simp only [pwA, if_true, if_false, eq_self, nm_eq, reduceCtorEq, ↓reduceIte, nQ10, nQ7, nQ11, nQ12, nQ16, nQ17, nQ18, iQ2, iQ3, iQ4, iQ5, iQ6, lQ19, iQ7, lQ20, hlt, hlt2, pis_get, gi hlt, gi hlt2]
    refine iteI (fun h0 => ?_) fun hn => ?_
    · simp only [pwA, if_true, if_false, eq_self, nm_eq, reduceCtorEq, ↓reduceIte, nQ10, nQ7, nQ11, nQ12, nQ16, nQ17, nQ18, iQ2, iQ3, iQ4, iQ5, iQ6, lQ19, iQ7, lQ20, wrapS hlt hb]
      exact ⟨_, by omega, i + 1, by omega, rfl, rfl, eqList hl hlt hall h0⟩
    · exact pkf hk fun hv => hn (by subst hv; rfl)
  · refine pkt hk ?_
    rwa [List.take_of_length_le (by omega), List.take_of_length_le (by omega)] at hall
theorem eqTake {α : Type} {xs ys : List α} (hl : xs.length = ys.length) {i : Nat} (hi : i < xs.length) (h : xs.take i = ys.take i) (he : xs[i] = ys[i]'(by omega)) : xs.take (i + 1) = ys.take (i + 1) := by
  rw [List.take_succ_eq_append_getElem hi, List.take_succ_eq_append_getElem (by omega : i < ys.length), h, he]
theorem eqInt64SS_ok {v v' : PV} {xs ys : List (List Int)} (hI : FII v xs) (hI' : FII v' ys) (sz : SzL xs) (hk : ∀ t : Bool, (t = true ↔ xs = ys) → K (.bool t) σ) : PCalls Tryz.prog 25 [v, v'] σ K := by
  obtain ⟨w, a, rs, rfl, hr⟩ := hI
  obtain ⟨w', a', rs', rfl, hr'⟩ := hI'
  have hb := sz.l
  have fl : ∀ {A : Prop}, ¬ A → ((false = true) ↔ A) := fun h => ⟨fun x => (by cases x), fun x => absurd x h⟩
  refine pcalls_of_vp mix Tryz.func25 cf25 rfl ?_
  dsimp only [if25, qI, eI, nI, qD, eD]
  simp only [pwA, if_true, if_false, eq_self, nm_eq, reduceCtorEq, ↓reduceIte, nQ10, nQ7, nQ11, nQ12, nQ16, nQ17, nQ18, iQ2, iQ3, iQ4, iQ5, iQ6, lQ19, iQ7, lQ20]
  refine iteI (fun hl => ?_) fun hl => ?_
  rotate_left
  · exact hk _ (fl fun hv => hl (by rw [hv]))
  have hl : xs.length = ys.length := by omega
  refine vp_loop (fun m vs h' => ∃ i : Nat, i ≤ xs.length ∧ m = xs.length - i ∧ vs = [.fz w a xs.length rs, .fz w' a' ys.length rs', .int .i64 i] ∧ σ = h' ∧ xs.take i = ys.take i) xs.length ?_ ?_
  · exact ⟨0, by omega, by omega, rfl, rfl, by simp⟩
  rintro m vs h' ⟨i, hi, rfl, rfl, rfl, hall⟩
  simp only [pwA, if_true, if_false, eq_self, nm_eq, reduceCtorEq, ↓reduceIte, nQ10, nQ7, nQ11, nQ12, nQ16, nQ17, nQ18, iQ2, iQ3, iQ4, iQ5, iQ6, lQ19, iQ7, lQ20]
  refine iteI (fun hlt => ?_) fun hge => ?_
  · have hlt2 : i < ys.length := by omega
    obtain ⟨w4, a4, h4⟩ := hr.rowI hlt
    obtain ⟨w5, a5, h5⟩ := hr'.rowI hlt2
    simp only [pwA, if_true, if_false, eq_self, nm_eq, reduceCtorEq, ↓reduceIte, nQ10, nQ7, nQ11, nQ12, nQ16, nQ17, nQ18, iQ2, iQ3, iQ4, iQ5, iQ6, lQ19, iQ7, lQ20, hlt, hlt2, h4, h5]
    refine eqInt64S_ok ⟨_, _, rfl⟩ ⟨_, _, rfl⟩ (by have := sz.r _ (List.getElem_mem hlt); omega) ?_
    by_cases he : xs[i] = ys[i]
    · simp only [pwA, if_true, if_false, eq_self, nm_eq, reduceCtorEq, ↓reduceIte, nQ10, nQ7, nQ11, nQ12, nQ16, nQ17, nQ18, iQ2, iQ3, iQ4, iQ5, iQ6, lQ19, iQ7, lQ20, eq_true he, wrapS hlt (by omega : xs.length ≤ 4611686018427387904)]
      exact ⟨_, by omega, i + 1, by omega, rfl, rfl, eqTake hl hlt hall he⟩
    · simp only [pwA, if_true, if_false, eq_self, nm_eq, reduceCtorEq, ↓reduceIte, nQ10, nQ7, nQ11, nQ12, nQ16, nQ17, nQ18, iQ2, iQ3, iQ4, iQ5, iQ6, lQ19, iQ7, lQ20, he]
      exact hk _ (fl fun hv => he (by subst hv; rfl))
  · refine hk _ ⟨fun _ => ?_, fun _ => rfl⟩
    rwa [List.take_of_length_le (by omega), List.take_of_length_le (by omega)] at hall
theorem eqInt64SSS_ok {v v' : PV} {xs ys : List (List (List Int))} (hI : FIII v xs) (hI' : FIII v' ys) (sz : SzM xs) (hk : ∀ t : Bool, (t = true ↔ xs = ys) → K (.bool t) σ) : PCalls Tryz.prog 37 [v, v'] σ K := by
  obtain ⟨w, a, rs, rfl, hr⟩ := hI
  obtain ⟨w', a', rs', rfl, hr'⟩ := hI'
  have hb := sz.l
  have fl : ∀ {A : Prop}, ¬ A → ((false = true) ↔ A) := fun h => ⟨fun x => (by cases x), fun x => absurd x h⟩
  refine pcalls_of_vp mix Tryz.func37 cf37 rfl ?_
  dsimp only [if37, qI, eI, nI, qD, eD]
  simp only [pwA, if_true, if_false, eq_self, nm_eq, reduceCtorEq, ↓reduceIte, nQ10, nQ7, nQ11, nQ12, nQ16, nQ17, nQ18, iQ2, iQ3, iQ4, iQ5, iQ6, lQ19, iQ7, lQ20]
  refine iteI (fun hl => ?_) fun hl => ?_
  rotate_left
  · exact hk _ (fl fun hv => hl (by rw [hv]))
  have hl : xs.length = ys.length := by omega
  refine vp_loop (fun m vs h' => ∃ i : Nat, i ≤ xs.length ∧ m = xs.length - i ∧ vs = [.fz w a xs.length rs, .fz w' a' ys.length rs', .int .i64 i] ∧ σ = h' ∧ xs.take i = ys.take i) xs.length ?_ ?_
  · exact ⟨0, by omega, by omega, rfl, rfl, by simp⟩
  rintro m vs h' ⟨i, hi, rfl, rfl, rfl, hall⟩
  simp only [pwA, if_true, if_false, eq_self, nm_eq, reduceCtorEq, ↓reduceIte, nQ10, nQ7, nQ11, nQ12, nQ16, nQ17, nQ18, iQ2, iQ3, iQ4, iQ5, iQ6, lQ19, iQ7, lQ20]
  refine iteI (fun hlt => ?_) fun hge => ?_
  · have hlt2 : i < ys.length := by omega
    obtain ⟨w4, a4, r4, h4, g4⟩ := hr.rowL hlt
    obtain ⟨w5, a5, r5, h5, g5⟩ := hr'.rowL hlt2
    simp only [pwA, if_true, if_false, eq_self, nm_eq, reduceCtorEq, ↓reduceIte, nQ10, nQ7, nQ11, nQ12, nQ16, nQ17, nQ18, iQ2, iQ3, iQ4, iQ5, iQ6, lQ19, iQ7, lQ20, hlt, hlt2, h4, h5]
    refine eqInt64SS_ok ⟨_, _, _, rfl, g4⟩ ⟨_, _, _, rfl, g5⟩ (sz.r _ (List.getElem_mem hlt)) fun t ht => ?_
    cases t with
    | true =>
      simp only [pwA, if_true, if_false, eq_self, nm_eq, reduceCtorEq, ↓reduceIte, nQ10, nQ7, nQ11, nQ12, nQ16, nQ17, nQ18, iQ2, iQ3, iQ4, iQ5, iQ6, lQ19, iQ7, lQ20, wrapS hlt (by omega : xs.length ≤ 4611686018427387904)]
      exact ⟨_, by omega, i + 1, by omega, rfl, rfl, eqTake hl hlt hall (ht.1 rfl)⟩
    | false =>
      simp only [pwA, if_true, if_false, eq_self, nm_eq, reduceCtorEq, ↓reduceIte, nQ10, nQ7, nQ11, nQ12, nQ16, nQ17, nQ18, iQ2, iQ3, iQ4, iQ5, iQ6, lQ19, iQ7, lQ20]
      exact hk _ (fl fun hv => by subst hv; cases ht.2 rfl)
  · refine hk _ ⟨fun _ => ?_, fun _ => rfl⟩
    rwa [List.take_of_length_le (by omega), List.take_of_length_le (by omega)] at hall
theorem eqLieRing_ok (hR : IsR vP vB W B) (hR' : IsR vP' vB' W' B') (sz : SzR W B) (hk : ∀ t : Bool, (t = true ↔ p = p' ∧ W = W' ∧ B = B') → K (.bool t) σ) : PCalls Tryz.prog 12 [.agg [.int .i64 p, vP, vB], .agg [.int .i64 p', vP', vB']] σ K := by
  have h1 := hR.P.one
  have h2 := hR.B.one
  have h1' := hR'.P.one
  have h2' := hR'.B.one
  refine PCalls.gh ?_
  have hkp : Keep σ ((σ.new [.int .i64 p, vP, vB]).new [.int .i64 p', vP', vB']) := (keep_new σ _).new _
  have fin : ∀ {t : Bool}, (t = true ↔ p = p' ∧ W = W' ∧ B = B') → Gh σ K (.bool t) ((σ.new [.int .i64 p, vP, vB]).new [.int .i64 p', vP', vB']) := fun h => Gh.fin0 hkp trivial (hk _ h)
  have fl : ∀ {A : Prop}, ¬ A → ((false = true) ↔ A) := fun h => ⟨fun x => (by cases x), fun x => absurd x h⟩
  refine pcalls_of_vp mix Tryz.func12 cf12 rfl ?_
  dsimp only [if12, qI, eI, nI, qD, eD]
  by_cases hp : p = p'
  rotate_left
  · simp only [pwA, if_true, if_false, eq_self, nm_eq, reduceCtorEq, ↓reduceIte, nQ10, nQ7, nQ11, nQ12, nQ16, nQ17, nQ18, iQ2, iQ3, iQ4, iQ5, iQ6, lQ19, iQ7, lQ20, h1, h2, h1', h2', hp]
    exact fin (fl fun h => hp h.1)
  simp only [pwA, if_true, if_false, eq_self, nm_eq, reduceCtorEq, ↓reduceIte, nQ10, nQ7, nQ11, nQ12, nQ16, nQ17, nQ18, iQ2, iQ3, iQ4, iQ5, iQ6, lQ19, iQ7, lQ20, h1, h2, h1', h2', hp]
  refine eqInt64SS_ok hR.P hR'.P sz.L fun t ht => ?_
  cases t with
  | false =>
    simp only [pwA, if_true, if_false, eq_self, nm_eq, reduceCtorEq, ↓reduceIte, nQ10, nQ7, nQ11, nQ12, nQ16, nQ17, nQ18, iQ2, iQ3, iQ4, iQ5, iQ6, lQ19, iQ7, lQ20]
    have := fin (fl fun h : p = p' ∧ W = W' ∧ B = B' => by cases ht.2 h.2.1)
    rw [hp] at this
    exact this
  | true =>
  simp only [pwA, if_true, if_false, eq_self, nm_eq, reduceCtorEq, ↓reduceIte, nQ10, nQ7, nQ11, nQ12, nQ16, nQ17, nQ18, iQ2, iQ3, iQ4, iQ5, iQ6, lQ19, iQ7, lQ20]
  refine eqInt64SSS_ok hR.B hR'.B sz.M fun t ht' => ?_
  have := fin (t := t) ⟨fun h => ⟨hp, ht.1 rfl, ht'.1 h⟩, fun h => ht'.2 h.2.2⟩
  rw [hp] at this
  cases t with
  | false =>
    simp only [pwA, if_true, if_false, eq_self, nm_eq, reduceCtorEq, ↓reduceIte, nQ10, nQ7, nQ11, nQ12, nQ16, nQ17, nQ18, iQ2, iQ3, iQ4, iQ5, iQ6, lQ19, iQ7, lQ20]
    exact this
  | true =>
    simp only [pwA, if_true, if_false, eq_self, nm_eq, reduceCtorEq, ↓reduceIte, nQ10, nQ7, nQ11, nQ12, nQ16, nQ17, nQ18, iQ2, iQ3, iQ4, iQ5, iQ6, lQ19, iQ7, lQ20]
    exact this
end Go.Proofs
namespace Go.Lie
open Go.Ab
variable {p : Int} {n : Nat} {W : List (List Int)}
abbrev Vec := Nat → Int
def dep : List Int → Nat
  | [] => 0
  | x :: xs => if x = 0 then dep xs + 1 else 0
theorem dep_le : ∀ v : List Int, dep v ≤ v.length
  | [] => Nat.le_refl _
  | x :: xs => by simp only [dep, List.length_cons]; have := dep_le xs; split <;> omega
theorem dep_zero : ∀ {v : List Int} {j : Nat}, j < dep v → at_ v j = 0
  | [], j, h => by simp [at_]
  | x :: xs, j, h => by
    simp only [dep] at h
    split at h
    · rename_i hx
      cases j with
      | zero => simp [at_, hx]
      | succ j =>
        have := dep_zero (v := xs) (j := j) (by omega)
        simpa [at_] using this
    · omega
theorem dep_ne : ∀ {v : List Int}, dep v < v.length → at_ v (dep v) ≠ 0
  | [], h => by simp at h
  | x :: xs, h => by
    simp only [dep, List.length_cons] at h ⊢
    split at h
    · rename_i hx
      rw [if_pos hx]
      have := dep_ne (v := xs) (by omega)
      simpa [at_] using this
    · rename_i hx
      rw [if_neg hx]
      simpa [at_] using hx
end Go.Lie
namespace Go.Proofs
open Go.Ab Go.Lie
variable {σ : PHeap} {K : PV → PHeap → Prop} {p p' : Int} {n : Nat} {W : List (List Int)} {B : List (List (List Int))} {vP vB vL vU : PV} {s : Nat}
def euc (p a : Int) : Nat → Int × Int × Int × Int
  | 0 => (p, a, 0, 1)
  | k + 1 => let t := euc p a k
    if t.2.1 = 0 then t else (t.2.1, t.1 - t.1.tdiv t.2.1 * t.2.1, t.2.2.2, t.2.2.1 - t.1.tdiv t.2.1 * t.2.2.2)
def eucOK (p a : Int) (k : Nat) : Bool :=
  let t := euc p a k
  decide (-7 ≤ t.1 ∧ t.1 ≤ 7 ∧ -7 ≤ t.2.1 ∧ t.2.1 ≤ 7 ∧ -7 ≤ t.2.2.1 ∧ t.2.2.1 ≤ 7 ∧ -7 ≤ t.2.2.2 ∧ t.2.2.2 ≤ 7 ∧ -7 ≤ t.1.tdiv t.2.1 ∧ t.1.tdiv t.2.1 ≤ 7 ∧ -49 ≤ t.1.tdiv t.2.1 * t.2.1 ∧ t.1.tdiv t.2.1 * t.2.1 ≤ 49 ∧ -49 ≤ t.1.tdiv t.2.1 * t.2.2.2 ∧ t.1.tdiv t.2.1 * t.2.2.2 ≤ 49 ∧ (k = 8 → t.2.1 = 0) ∧ (t.2.1 = 0 → a * (t.2.2.1 % p) % p = 1 % p))
theorem euc_all : ∀ p ∈ [2, 3, 5, 7], ∀ a ∈ [1, 2, 3, 4, 5, 6], (a : Int) < p → ∀ k ∈ [0, 1, 2, 3, 4, 5, 6, 7, 8], eucOK p a k = true := by decide +kernel
theorem euc_ok {a : Int} (hp : isP p) (ha : 0 < a ∧ a < p) {k : Nat} (hk : k ≤ 8) : eucOK p a k = true := by
  have hpb := hp.bd
  refine euc_all p ?_ a ?_ ha.2 k ?_
  · rcases hp with h | h | h | h <;> simp [h]
  · have : a = 1 ∨ a = 2 ∨ a = 3 ∨ a = 4 ∨ a = 5 ∨ a = 6 := by omega
    rcases this with h | h | h | h | h | h <;> simp [h]
  · have : k = 0 ∨ k = 1 ∨ k = 2 ∨ k = 3 ∨ k = 4 ∨ k = 5 ∨ k = 6 ∨ k = 7 ∨ k = 8 := by omega
    rcases this with h | h | h | h | h | h | h | h | h <;> simp [h]
theorem inverseMod_ok {a : Int} (hp : isP p) (ha : 0 < a ∧ a < p) (hk : ∀ (x : Int) (b : Bool), 0 ≤ x → x < p → a * x % p = 1 → K (.tup [.int .i64 x, .bool b]) σ) : PCalls Tryz.prog 125 [.int .i64 a, .int .i64 p] σ K := by
  have hpb := hp.bd
  refine pcalls_of_vp mix Tryz.func125 cf125 rfl ?_
  dsimp only [if125, qI, eI, nI, qD, eD]
  simp only [pwA, if_true, if_false, eq_self, nm_eq, reduceCtorEq, ↓reduceIte, nQ10, nQ7, nQ11, nQ12, nQ16, nQ17, nQ18, iQ2, iQ3, iQ4, iQ5, iQ6, lQ19, iQ7, lQ20]
  refine vp_loop (fun m vs h' => ∃ k : Nat, k ≤ 8 ∧ m = 8 - k ∧ vs = [.int .i64 p, .int .i64 (euc p a k).1, .int .i64 (euc p a k).2.1, .int .i64 (euc p a k).2.2.1, .int .i64 (euc p a k).2.2.2] ∧ σ = h') 8 ?_ ?_
  · exact ⟨0, by omega, by omega, rfl, rfl⟩
  rintro m vs h' ⟨k, hk8, rfl, rfl, rfl⟩
  have hok := euc_ok hp ha hk8
  unfold eucOK at hok
  have hst : euc p a (k + 1) = if (euc p a k).2.1 = 0 then euc p a k else ((euc p a k).2.1, (euc p a k).1 - (euc p a k).1.tdiv (euc p a k).2.1 * (euc p a k).2.1, (euc p a k).2.2.2, (euc p a k).2.2.1 - (euc p a k).1.tdiv (euc p a k).2.1 * (euc p a k).2.2.2) := rfl
  generalize hT : euc p a k = T at *
  obtain ⟨r, nx, x, y⟩ := T
  dsimp only at hok hst ⊢
  simp only [decide_eq_true_eq] at hok
  obtain ⟨b1, b2, b3, b4, b5, b6, b7, b8, b9, b10, b11, b12, b13, b14, b15, b16⟩ := hok
  by_cases h0 : nx = 0
  · subst h0
    simp only [pwA, if_true, if_false, eq_self, nm_eq, reduceCtorEq, ↓reduceIte, nQ10, nQ7, nQ11, nQ12, nQ16, nQ17, nQ18, iQ2, iQ3, iQ4, iQ5, iQ6, lQ19, iQ7, lQ20]
    refine residue_ok (by omega) (by omega) ?_
    simp only [pwA, if_true, if_false, eq_self, nm_eq, reduceCtorEq, ↓reduceIte, nQ10, nQ7, nQ11, nQ12, nQ16, nQ17, nQ18, iQ2, iQ3, iQ4, iQ5, iQ6, lQ19, iQ7, lQ20]
    refine hk _ _ (Int.emod_nonneg _ (by omega)) (Int.emod_lt_of_pos _ (by omega)) ?_
    rw [b16 rfl]
    exact Int.emod_eq_of_lt (by omega) (by omega)
  · rw [if_neg h0] at hst
    have hk9 : k ≠ 8 := fun e => h0 (b15 e)
    simp only [pwA, if_true, if_false, eq_self, nm_eq, reduceCtorEq, ↓reduceIte, nQ10, nQ7, nQ11, nQ12, nQ16, nQ17, nQ18, iQ2, iQ3, iQ4, iQ5, iQ6, lQ19, iQ7, lQ20, h0, wrap64 (n := r.tdiv nx) (by omega) (by omega), wrap64 (n := r.tdiv nx * nx) (by omega) (by omega), wrap64 (n := r.tdiv nx * y) (by omega) (by omega), wrap64 (n := r - r.tdiv nx * nx) (by omega) (by omega), wrap64 (n := x - r.tdiv nx * y) (by omega) (by omega)]
    refine ⟨_, by omega, k + 1, by omega, rfl, ?_⟩
    rw [hst]
theorem depthOf_ok {l : Nat} {w : Bool} {a : AV} {xs : List Int} (hl : l = xs.length) (hb : xs.length ≤ 1048576) (hk : K (.int .i64 (dep xs)) σ) : PCalls Tryz.prog 123 [.fz w a l (pis xs)] σ K := by
  subst hl
  refine pcalls_of_vp mix Tryz.func123 cf123 rfl ?_
  dsimp only [if123, qI, eI, nI, qD, eD]
  simp only [pwA, if_true, if_false, eq_self, nm_eq, reduceCtorEq, ↓reduceIte, nQ10, nQ7, nQ11, nQ12, nQ16, nQ17, nQ18, iQ2, iQ3, iQ4, iQ5, iQ6, lQ19, iQ7, lQ20]
  refine vp_loop (fun m vs h' => ∃ i : Nat, i ≤ dep xs ∧ m = dep xs - i ∧ vs = [.fz w a xs.length (pis xs), .fz w a xs.length (pis xs), .int .i64 xs.length, .int .i64 i] ∧ σ = h') (dep xs) ?_ ?_
  · exact ⟨0, by omega, by omega, rfl, rfl⟩
  rintro m vs h' ⟨i, hi, rfl, rfl, rfl⟩
  have hdl := dep_le xs
  by_cases hlt : i < xs.length
  · by_cases h0 : xs[i] = 0
    · have hid : i < dep xs := by
        rcases Nat.lt_or_ge i (dep xs) with x | x
        · exact x
        · have : i = dep xs := by omega
          subst this
          exact absurd (by rw [at_eq hlt]; exact h0) (dep_ne hlt)
      simp only [pwA, if_true, if_false, eq_self, nm_eq, reduceCtorEq, ↓reduceIte, nQ10, nQ7, nQ11, nQ12, nQ16, nQ17, nQ18, iQ2, iQ3, iQ4, iQ5, iQ6, lQ19, iQ7, lQ20, hlt, pis_get, gi hlt, h0, wrapS hlt (by omega : xs.length ≤ 4611686018427387904)]
      exact ⟨_, by omega, i + 1, by omega, rfl, rfl⟩
    · have hid : i = dep xs := by
        rcases Nat.lt_or_ge i (dep xs) with x | x
        · exact absurd (by rw [← at_eq hlt]; exact dep_zero x) h0
        · omega
      subst hid
      simp only [pwA, if_true, if_false, eq_self, nm_eq, reduceCtorEq, ↓reduceIte, nQ10, nQ7, nQ11, nQ12, nQ16, nQ17, nQ18, iQ2, iQ3, iQ4, iQ5, iQ6, lQ19, iQ7, lQ20, hlt, pis_get, gi hlt, h0]
      exact hk
  · have hid : i = dep xs := by omega
    subst hid
    simp only [pwA, if_true, if_false, eq_self, nm_eq, reduceCtorEq, ↓reduceIte, nQ10, nQ7, nQ11, nQ12, nQ16, nQ17, nQ18, iQ2, iQ3, iQ4, iQ5, iQ6, lQ19, iQ7, lQ20, hlt]
    have hd : dep xs = xs.length := by omega
    rw [hd] at hk
    exact hk
theorem piv1_ok {x : Int} (hk : K (.bool (!decide (x = 0))) σ) : PCalls Tryz.prog 198 [.int .i64 x] σ K := by
  refine pcalls_of_vp mix Tryz.func198 cf198 rfl ?_
  dsimp only [if198, qI, eI, nI, qD, eD]
  simp only [pwA, if_true, if_false, eq_self, nm_eq, reduceCtorEq, ↓reduceIte, nQ10, nQ7, nQ11, nQ12, nQ16, nQ17, nQ18, iQ2, iQ3, iQ4, iQ5, iQ6, lQ19, iQ7, lQ20]
  exact hk
theorem okF143 : okF Tryz.prog 198 = true := by kernel_rfl
theorem IndexFunc_ok {l : Nat} {w : Bool} {a : AV} {xs : List Int} (hl : l = xs.length) (hb : xs.length ≤ 1048576) (hd : dep xs < xs.length) (hk : K (.int .i64 (dep xs)) σ) :
    PCalls Tryz.prog 197 [.fz w a l (pis xs), .clo 198 [] []] σ K := by
  subst hl
  refine pcalls_of_vp mix Tryz.func197 cf197 rfl ?_
  dsimp only [if197, qI, eI, nI, qD, eD]
  simp only [pwA, if_true, if_false, eq_self, nm_eq, reduceCtorEq, ↓reduceIte, nQ10, nQ7, nQ11, nQ12, nQ16, nQ17, nQ18, iQ2, iQ3, iQ4, iQ5, iQ6, lQ19, iQ7, lQ20]
  refine vp_loop (fun m vs h' => ∃ i : Nat, i ≤ dep xs ∧ m = dep xs - i ∧ vs = [.fz w a xs.length (pis xs), .clo 198 [] [], .int .i64 xs.length, .int .i64 i] ∧ σ = h') (dep xs) ?_ ?_
  · exact ⟨0, by omega, by omega, rfl, rfl⟩
  rintro m vs h' ⟨i, hi, rfl, rfl, rfl⟩
  have hlt : i < xs.length := by omega
  simp only [pwA, if_true, if_false, eq_self, nm_eq, reduceCtorEq, ↓reduceIte, nQ10, nQ7, nQ11, nQ12, nQ16, nQ17, nQ18, iQ2, iQ3, iQ4, iQ5, iQ6, lQ19, iQ7, lQ20, hlt, pis_get, gi hlt]
  refine ⟨okF143, piv1_ok ?_⟩
  by_cases h0 : xs[i] = 0
  · have hid : i < dep xs := by
      rcases Nat.lt_or_ge i (dep xs) with x | x
      · exact x
      · have : i = dep xs := by omega
        subst this
        exact absurd (by rw [at_eq hlt]; exact h0) (dep_ne hlt)
    simp only [pwA, if_true, if_false, eq_self, nm_eq, reduceCtorEq, ↓reduceIte, nQ10, nQ7, nQ11, nQ12, nQ16, nQ17, nQ18, iQ2, iQ3, iQ4, iQ5, iQ6, lQ19, iQ7, lQ20, h0, ne_eq, not_true, decide_false, wrapS hlt (by omega : xs.length ≤ 4611686018427387904)]
    exact ⟨_, by omega, i + 1, by omega, rfl, rfl⟩
  · have hid : i = dep xs := by
      rcases Nat.lt_or_ge i (dep xs) with x | x
      · exact absurd (by rw [← at_eq hlt]; exact dep_zero x) h0
      · omega
    subst hid
    simp only [pwA, if_true, if_false, eq_self, nm_eq, reduceCtorEq, ↓reduceIte, nQ10, nQ7, nQ11, nQ12, nQ16, nQ17, nQ18, iQ2, iQ3, iQ4, iQ5, iQ6, lQ19, iQ7, lQ20, h0, ne_eq, not_false_iff, decide_true]
    exact hk
abbrev deps (u : List (List Int)) : List Int := u.map fun v => (dep v : Int)
theorem pivots_ok {u : List (List Int)} (hL : FII vU u) (hu : ∀ v ∈ u, dep v < v.length ∧ v.length ≤ 1048576) (hul : u.length ≤ 1048576) (hk : ∀ v, K (.fz true v u.length (pis (deps u))) σ) : PCalls Tryz.prog 167 [vU] σ K := by
  obtain ⟨wl, al, rl, rfl, hrl⟩ := hL
  refine PCalls.gh ?_
  refine pcalls_of_vp mix Tryz.func167 cf167 rfl ?_
  dsimp only [if167, qI, eI, nI, qD, eD]
  simp only [pwA, if_true, if_false, eq_self, nm_eq, reduceCtorEq, ↓reduceIte, nQ10, nQ7, nQ11, nQ12, nQ16, nQ17, nQ18, iQ2, iQ3, iQ4, iQ5, iQ6, lQ19, iQ7, lQ20]
  refine vp_loop (fun m vs h' => ∃ (i : Nat) (v : PV), i ≤ u.length ∧ m = u.length - i ∧ vs = [v, .fz wl al u.length rl, .int .i64 u.length, .int .i64 i] ∧ Keep σ h' ∧ PAcc σ.next 1 h' v i (pis (deps (u.take i)))) u.length ?_ ?_
  · exact ⟨0, _, by omega, by omega, rfl, Keep.refl σ, PAcc.nil _ _ _⟩
  rintro m vs h' ⟨i, v, hi, rfl, rfl, hkp, ha⟩
  simp only [pwA, if_true, if_false, eq_self, nm_eq, reduceCtorEq, ↓reduceIte, nQ10, nQ7, nQ11, nQ12, nQ16, nQ17, nQ18, iQ2, iQ3, iQ4, iQ5, iQ6, lQ19, iQ7, lQ20]
  refine iteI (fun hlt => ?_) fun hge => ?_
  · obtain ⟨w4, a4, hr⟩ := hrl.rowI hlt
    have hui := hu _ (List.getElem_mem hlt)
    simp only [pwA, if_true, if_false, eq_self, nm_eq, reduceCtorEq, ↓reduceIte, nQ10, nQ7, nQ11, nQ12, nQ16, nQ17, nQ18, iQ2, iQ3, iQ4, iQ5, iQ6, lQ19, iQ7, lQ20, hlt, hr]
    refine IndexFunc_ok rfl hui.2 hui.1 ?_
    simp only [pwA, if_true, if_false, eq_self, nm_eq, reduceCtorEq, ↓reduceIte, nQ10, nQ7, nQ11, nQ12, nQ16, nQ17, nQ18, iQ2, iQ3, iQ4, iQ5, iQ6, lQ19, iQ7, lQ20]
    refine PAcc.push (bytes := 8) hkp ha (by omega) (by omega) fun v' h2 k2 a2 => ?_
    simp only [pwA, if_true, if_false, eq_self, nm_eq, reduceCtorEq, ↓reduceIte, nQ10, nQ7, nQ11, nQ12, nQ16, nQ17, nQ18, iQ2, iQ3, iQ4, iQ5, iQ6, lQ19, iQ7, lQ20, wrapS hlt (by omega : u.length ≤ 4611686018427387904)]
    refine ⟨_, by omega, i + 1, v', by omega, rfl, rfl, k2, ?_⟩
    have e : pis (deps (u.take (i + 1))) = pis (deps (u.take i)) ++ [.int .i64 (dep u[i])] := by rw [List.take_succ_eq_append_getElem hlt, deps, List.map_append, ← pis_append]; rfl
    rw [e]
    exact a2.acc
  · have hie : i = u.length := by omega
    subst hie
    rw [List.take_length] at ha
    exact ha.fin hkp (pis_bel _ _) hk
end Go.Proofs
namespace Go.Proofs
open Go.Ab Go.Lie
variable {σ : PHeap} {K : PV → PHeap → Prop} {p p' : Int} {n : Nat} {W : List (List Int)} {B : List (List (List Int))} {vP vB vL vU : PV} {s : Nat}
def PQ (b : Nat) (h : PHeap) (v : PV) (m : Nat) (cs : List PV) : Prop :=
  (v = .fz true .nils 0 [] ∧ m = 0 ∧ cs = []) ∨ ∃ s off cap row, v = .sl s off m cap ∧ full 1 cap m ∧ h.obj s = some row ∧ (row.drop off).take m = cs ∧ off + m ≤ row.length ∧ b ≤ s ∧ s < h.next
theorem PQ.of {b m : Nat} {h : PHeap} {v : PV} {cs : List PV} (a : PAcc b 1 h v m cs) : PQ b h v m cs := by
  rcases a with a | ⟨s, cap, rfl, h1, h2, h3, h4, h5⟩
  · exact .inl a
  · exact .inr ⟨s, 0, cap, cs, rfl, h1, h2, by rw [List.drop_zero, List.take_of_length_le (by omega)], by omega, h4, h5⟩
theorem PQ.set {b m t : Nat} {h : PHeap} {v : PV} {cs : List PV} (a : PQ b h v m cs) (ht : t < b) (ds : List PV) : PQ b (h.set t ds) v m cs := by
  rcases a with a | ⟨s, off, cap, row, rfl, h1, h2, h3, h4, h5, h6⟩
  · exact .inl a
  · exact .inr ⟨s, off, cap, row, rfl, h1, by rw [pobj_set, if_neg (by omega)]; exact h2, h3, h4, h5, h6⟩
theorem PQ.pLen {b m : Nat} {h : PHeap} {v : PV} {cs : List PV} (a : PQ b h v m cs) : pLen v = some (.int .i64 m) := by
  rcases a with ⟨rfl, rfl, _⟩ | ⟨s, off, cap, row, rfl, _⟩ <;> rfl
theorem PQ.uncons {b m : Nat} {h : PHeap} {v c : PV} {cs : List PV} (a : PQ b h v m (c :: cs)) : ∃ s off cap v', v = .sl s off m cap ∧ h.rd1 s off = some c ∧ 0 < m ∧ pslice 1 v (some (.int .i64 1)) none none = some v' ∧ PQ b h v' (m - 1) cs := by
  rcases a with ⟨_, _, e⟩ | ⟨s, off, cap, row, rfl, h1, h2, h3, h4, h5, h6⟩
  · cases e
  · have hm : 0 < m := by
      rcases Nat.eq_zero_or_pos m with x | x
      · subst x; cases h3
      · exact x
    have e2 : row.drop off = c :: row.drop (off + 1) := by
      have hlt : off < row.length := by omega
      rw [List.drop_eq_getElem_cons hlt] at h3 ⊢
      obtain ⟨m', rfl⟩ : ∃ m', m = m' + 1 := ⟨m - 1, by omega⟩
      rw [List.take_succ_cons] at h3
      cases h3; rfl
    have e3 : (row.drop (off + 1)).take (m - 1) = cs := by
      rw [e2] at h3
      obtain ⟨m', rfl⟩ : ∃ m', m = m' + 1 := ⟨m - 1, by omega⟩
      rw [List.take_succ_cons] at h3
      cases h3; rfl
    have e4 : row[off]? = some c := by
      have hlt : off < row.length := by omega
      rw [List.drop_eq_getElem_cons hlt] at e2
      rw [List.getElem?_eq_getElem hlt]
      cases e2; rfl
    have hz : (1 : Int) ≤ (m : Int) := by omega
    rcases h1 with rfl | rfl
    · refine ⟨s, off, _, .sl s (off + 1) (m - 1) (.grown 1), rfl, by rw [obj_rd1 h2]; exact e4, hm, ?_, .inr ⟨s, off + 1, _, row, rfl, .inl rfl, h2, e3, by omega, h5, h6⟩⟩
      simp only [pwA, if_true, if_false, eq_self, nm_eq, reduceCtorEq, ↓reduceIte, nQ10, nQ7, nQ11, nQ12, nQ16, nQ17, nQ18, iQ2, iQ3, iQ4, iQ5, iQ6, lQ19, iQ7, lQ20, hm, hz]
    · by_cases h10 : m = 1
      · subst h10
        refine ⟨s, off, _, .sl s off 0 (.known 0), rfl, by rw [obj_rd1 h2]; exact e4, hm, ?_, .inr ⟨s, off, _, row, rfl, .inr rfl, h2, by simpa using e3, by omega, h5, h6⟩⟩
        rfl
      · refine ⟨s, off, _, .sl s (off + 1) (m - 1) (.known (m - 1)), rfl, by rw [obj_rd1 h2]; exact e4, hm, ?_, .inr ⟨s, off + 1, _, row, rfl, .inr rfl, h2, e3, by omega, h5, h6⟩⟩
        simp only [pwA, if_true, if_false, eq_self, nm_eq, reduceCtorEq, ↓reduceIte, nQ10, nQ7, nQ11, nQ12, nQ16, nQ17, nQ18, iQ2, iQ3, iQ4, iQ5, iQ6, lQ19, iQ7, lQ20, hm, hz, h10]
        rfl
theorem PQ.push {σb h : PHeap} {bytes m : Nat} {v x : PV} {cs : List PV} {K : PV × PHeap → Prop} (hk : Keep σb h) (a : PQ σb.next h v m cs)
    (h1 : (m + 1) * bytes ≤ 140737488355328) (h2 : m + 1 ≤ 4611686018427387904) (k : ∀ v' h', Keep σb h' → PQ σb.next h' v' (m + 1) (cs ++ [x]) → K (v', h')) : optK (pappend 1 bytes (h.new [x]) v (.sl h.next 0 1 (.known 1))) K := by
  rcases a with ⟨rfl, rfl, rfl⟩ | ⟨s, off, cap, row, rfl, q1, q2, q3, q4, q5, q6⟩
  · exact PAcc.push hk (PAcc.nil _ _ _) h1 h2 fun v' h' k1 k2 => k v' h' k1 (.of k2.acc)
  · rw [pappend_eq]
    have hp : pfirst 1 (h.new [x]) (.sl h.next 0 1 (.known 1)) 1 = some [x] := by simp [pfirst_sl, prd_new]
    have hobj : (h.new [x]).obj s = some row := by simp only [PHeap.new]; rw [if_neg (by omega)]; exact q2
    have hn := hk.next
    simp only [plen, Option.bind_some]
    rw [if_neg (by omega), hp]
    simp only [Option.bind_some]
    have hl : cs.length = m := by rw [← q3, List.length_take, List.length_drop]; omega
    rcases q1 with rfl | rfl
    · rw [pgrow_grown, if_pos ⟨h1, h2, rfl⟩, hobj]
      simp only [Option.bind_some]
      rw [if_pos (by omega), Nat.mul_one, q3]
      refine optK_of rfl (k _ _ (((hk.new _).kill (by omega)).new _) (.inr ⟨(h.new [x]).next, 0, _, cs ++ [x], rfl, .inl rfl, by simp [PHeap.new, PHeap.kill], ?_, by simp [hl], by simp [PHeap.new]; omega, by simp [PHeap.new, PHeap.kill]⟩))
      rw [List.drop_zero, List.take_of_length_le (by simp [hl])]
    · rw [pgrow_known, if_neg (by omega), if_pos ⟨h1, h2⟩, obj_rd hobj, if_pos (by omega), Nat.mul_one, q3]
      simp only [Option.map_some]
      refine optK_of rfl (k _ _ ((hk.new _).new _) (.inr ⟨(h.new [x]).next, 0, _, cs ++ [x], rfl, .inl rfl, by simp [PHeap.new], ?_, by simp [hl], by simp [PHeap.new]; omega, by simp [PHeap.new]⟩))
      rw [List.drop_zero, List.take_of_length_le (by simp [hl])]
theorem CloneL_ok {w : Bool} {a : AV} {m : Nat} {rows : List PV} (hl : rows.length = m) (hb : Bels 0 rows) (hm : m ≤ 1048576) (hk0 : rows = [] → K (.fz true .nils 0 []) σ) (hk1 : ∀ cap, full 1 cap m → K (.sl σ.next 0 m cap) (σ.new rows)) :
    PCalls Tryz.prog 122 [.fz w a m rows] σ K := by
  refine PCalls.nil0 fun hnil => PCalls.gh ?_
  refine pcalls_of_vp mix Tryz.func122 cf122 rfl ?_
  dsimp only [if122, qI, eI, nI, qD, eD]
  simp only [pwA, if_true, if_false, eq_self, nm_eq, reduceCtorEq, ↓reduceIte, nQ10, nQ7, nQ11, nQ12, nQ16, nQ17, nQ18, iQ2, iQ3, iQ4, iQ5, iQ6, lQ19, iQ7, lQ20]
  cases hn : isNils a
  · simp only [pwA, if_true, if_false, eq_self, nm_eq, reduceCtorEq, ↓reduceIte, nQ10, nQ7, nQ11, nQ12, nQ16, nQ17, nQ18, iQ2, iQ3, iQ4, iQ5, iQ6, lQ19, iQ7, lQ20]
    refine PSl.cat (bytes := 24) (σb := σ) (n := 0) (cs := []) (keep_new σ _) (PSl.new _ 1 rfl (Nat.le_refl _)) hl (by omega) (by omega) fun v' h' hk' ha => ?_
    simp only [pwA, if_true, if_false, eq_self, nm_eq, reduceCtorEq, ↓reduceIte, nQ10, nQ7, nQ11, nQ12, nQ16, nQ17, nQ18, iQ2, iQ3, iQ4, iQ5, iQ6, lQ19, iQ7, lQ20] at ha ⊢
    exact ha.out hk' (hb.up (Nat.zero_le _)) hk1
  · simp only [pwA, if_true, if_false, eq_self, nm_eq, reduceCtorEq, ↓reduceIte, nQ10, nQ7, nQ11, nQ12, nQ16, nQ17, nQ18, iQ2, iQ3, iQ4, iQ5, iQ6, lQ19, iQ7, lQ20]
    exact Gh.ret (hk0 (hnil hn).2)
theorem CloneL_q {w : Bool} {a : AV} {m : Nat} {rows : List PV} (hl : rows.length = m) (hb : Bels 0 rows) (hm : m ≤ 1048576) (hk : ∀ v h', Keep σ h' → PQ σ.next h' v m rows → K v h') :
    PCalls Tryz.prog 122 [.fz w a m rows] σ K :=
  CloneL_ok hl hb hm (fun h0 => hk _ _ (Keep.refl _) (.inl ⟨rfl, by rw [← hl, h0]; rfl, h0⟩)) fun cap hc => hk _ _ (keep_new _ _) (.of (.inr (PSl.own hc (by simp [PHeap.new]) (by omega) (Nat.le_refl _) (by simp [PHeap.new]))))
end Go.Proofs
namespace Go.Proofs
open Go.Ab Go.Lie
variable {σ : PHeap} {K : PV → PHeap → Prop} {p p' : Int} {n : Nat} {W : List (List Int)} {B : List (List (List Int))} {vP vB vL vU vV : PV} {s : Nat}
theorem okF125 : okF Tryz.prog 160 = true := by kernel_rfl
theorem EqualFunc_ok {xs ys : List (List Int)} (hU : FII vU xs) (hV : FII vV ys) (hx : xs.length ≤ 1048576) (hxl : ∀ x ∈ xs, x.length ≤ 1048576) (hk : ∀ t : Bool, (t = true ↔ xs = ys) → K (.bool t) σ) :
    PCalls Tryz.prog 159 [vU, vV, .clo 160 [] []] σ K := by
  have fl : ∀ {A : Prop}, ¬ A → ((false = true) ↔ A) := fun h => ⟨fun x => (by cases x), fun x => absurd x h⟩
  obtain ⟨wu, au, ru, rfl, hru⟩ := hU
  obtain ⟨wv, av, rv, rfl, hrv⟩ := hV
  refine pcalls_of_vp mix Tryz.func159 cf159 rfl ?_
  dsimp only [if159, qI, eI, nI, qD, eD]
  by_cases hl : xs.length = ys.length
  · simp only [pwA, if_true, if_false, eq_self, nm_eq, reduceCtorEq, ↓reduceIte, nQ10, nQ7, nQ11, nQ12, nQ16, nQ17, nQ18, iQ2, iQ3, iQ4, iQ5, iQ6, lQ19, iQ7, lQ20, hl]
    refine vp_loop (fun m vs h' => ∃ i : Nat, i ≤ ys.length ∧ m = ys.length - i ∧ vs = [.fz wv av ys.length rv, .clo 160 [] [], .fz wu au ys.length ru, .int .i64 ys.length, .int .i64 i] ∧ σ = h' ∧ xs.take i = ys.take i) ys.length ?_ ?_
    · exact ⟨0, by omega, by omega, rfl, rfl, by simp⟩
    rintro m vs h' ⟨i, hi, rfl, rfl, rfl, heq⟩
    simp only [pwA, if_true, if_false, eq_self, nm_eq, reduceCtorEq, ↓reduceIte, nQ10, nQ7, nQ11, nQ12, nQ16, nQ17, nQ18, iQ2, iQ3, iQ4, iQ5, iQ6, lQ19, iQ7, lQ20]
    refine iteI (fun hlt => ?_) fun hge => ?_
    · have hlx : i < xs.length := by omega
      obtain ⟨w4, a4, hr⟩ := hru.rowI hlx
      obtain ⟨w5, a5, hr5⟩ := hrv.rowI hlt
      simp only [pwA, if_true, if_false, eq_self, nm_eq, reduceCtorEq, ↓reduceIte, nQ10, nQ7, nQ11, nQ12, nQ16, nQ17, nQ18, iQ2, iQ3, iQ4, iQ5, iQ6, lQ19, iQ7, lQ20, hlt, hr, hr5]
      refine ⟨okF125, Equal_ok rfl rfl (by have := hxl _ (List.getElem_mem hlx); omega) ?_⟩
      by_cases he : xs[i] = ys[i]
      · simp only [pwA, if_true, if_false, eq_self, nm_eq, reduceCtorEq, ↓reduceIte, nQ10, nQ7, nQ11, nQ12, nQ16, nQ17, nQ18, iQ2, iQ3, iQ4, iQ5, iQ6, lQ19, iQ7, lQ20, he, wrapS hlt (by omega : ys.length ≤ 4611686018427387904)]
        exact ⟨_, by omega, i + 1, by omega, rfl, rfl, eqTake hl hlx heq he⟩
      · simp only [pwA, if_true, if_false, eq_self, nm_eq, reduceCtorEq, ↓reduceIte, nQ10, nQ7, nQ11, nQ12, nQ16, nQ17, nQ18, iQ2, iQ3, iQ4, iQ5, iQ6, lQ19, iQ7, lQ20, he]
        refine hk _ (fl fun e => ?_)
        subst e
        exact he rfl
    · have hie : i = ys.length := by omega
      subst hie
      refine hk _ ⟨fun _ => ?_, fun _ => rfl⟩
      rw [List.take_of_length_le (by omega), List.take_of_length_le (Nat.le_refl _)] at heq
      exact heq
  · have hlI : ((xs.length : Int) = (ys.length : Int)) = False := by simp; omega
    simp only [pwA, if_true, if_false, eq_self, nm_eq, reduceCtorEq, ↓reduceIte, nQ10, nQ7, nQ11, nQ12, nQ16, nQ17, nQ18, iQ2, iQ3, iQ4, iQ5, iQ6, lQ19, iQ7, lQ20, hlI]
    exact hk _ (fl fun e => hl (by rw [e]))
theorem sameRows_ok {xs ys : List (List Int)} (hU : FII vU xs) (hV : FII vV ys) (hx : xs.length ≤ 1048576) (hxl : ∀ x ∈ xs, x.length ≤ 1048576) (hk : ∀ t : Bool, (t = true ↔ xs = ys) → K (.bool t) σ) :
    PCalls Tryz.prog 105 [vU, vV] σ K := by
  refine pcalls_of_vp mix Tryz.func105 cf105 rfl ?_
  dsimp only [if105, qI, eI, nI, qD, eD]
  simp only [pwA, if_true, if_false, eq_self, nm_eq, reduceCtorEq, ↓reduceIte, nQ10, nQ7, nQ11, nQ12, nQ16, nQ17, nQ18, iQ2, iQ3, iQ4, iQ5, iQ6, lQ19, iQ7, lQ20]
  refine EqualFunc_ok hU hV hx hxl fun t ht => ?_
  simp only [pwA, if_true, if_false, eq_self, nm_eq, reduceCtorEq, ↓reduceIte, nQ10, nQ7, nQ11, nQ12, nQ16, nQ17, nQ18, iQ2, iQ3, iQ4, iQ5, iQ6, lQ19, iQ7, lQ20]
  exact hk t ht
end Go.Proofs
namespace Go.Proofs
open Go.Ab Go.Lie
variable {σ : PHeap} {K : PV → PHeap → Prop}
structure EucI (m a r nx x y : Int) : Prop where
  cof : ∃ s u v : Int, (s = 1 ∨ s = -1) ∧ 0 ≤ u ∧ u ≤ m ∧ 0 ≤ v ∧ x = s * u ∧ y = -s * v ∧ r * v + nx * u = m
  pos : 0 < r ∧ r ≤ m ∧ 0 ≤ nx ∧ nx < r
  xa : ∃ t, x * a = r + t * m
  ya : ∃ t, y * a = nx + t * m
  dm : ∃ c d, m = c * r + d * nx
  da : ∃ c d, a = c * r + d * nx
theorem le_of_mul {a b m : Int} (ha : 1 ≤ a) (hb : 0 ≤ b) (h : a * b ≤ m) : b ≤ m := by
  have := Int.mul_le_mul_of_nonneg_right ha hb
  omega
theorem EucI.start {m a : Int} (h1 : 0 ≤ a) (h2 : a < m) : EucI m a m a 0 1 where
  cof := ⟨-1, 0, 1, .inr rfl, by omega, by omega, by omega, by omega, by omega, by omega⟩
  pos := by omega
  xa := ⟨-1, by omega⟩
  ya := ⟨0, by omega⟩
  dm := ⟨1, 0, by omega⟩
  da := ⟨0, 1, by omega⟩
theorem EucI.step {m a r nx x y : Int} (h : EucI m a r nx x y) (hn : nx ≠ 0) : EucI m a nx (r - r / nx * nx) y (x - r / nx * y) ∧
    (-m ≤ x ∧ x ≤ m ∧ -m ≤ y ∧ y ≤ m ∧ -m ≤ r / nx * y ∧ r / nx * y ≤ m ∧ 0 ≤ r / nx ∧ r / nx ≤ m ∧ 0 ≤ r / nx * nx ∧ r / nx * nx ≤ m ∧ -m ≤ x - r / nx * y ∧ x - r / nx * y ≤ m) := by
  obtain ⟨s, u, v, hs, hu, hum, hv, hx, hy, he⟩ := h.cof
  obtain ⟨p1, p2, p3, p5⟩ := h.pos
  obtain ⟨tx, hxa⟩ := h.xa
  obtain ⟨ty, hya⟩ := h.ya
  obtain ⟨cm, dm, hdm⟩ := h.dm
  obtain ⟨ca, da, hda⟩ := h.da
  have hq0 : 0 ≤ r / nx := Int.ediv_nonneg (by omega) p3
  have e1 := Int.emod_nonneg r hn
  have e2 := Int.emod_lt_of_pos r (show 0 < nx by omega)
  have e3 : r % nx = r - r / nx * nx := by have := Int.mul_ediv_add_emod r nx; rw [Int.mul_comm]; omega
  generalize r / nx = q at *
  rw [e3] at e1 e2
  have hqv : 0 ≤ q * v := Int.mul_nonneg hq0 hv
  have hqn : 0 ≤ q * nx := Int.mul_nonneg hq0 p3
  have k1 : nx * (u + q * v) + (r - q * nx) * v = m := by grind
  have k2 : 0 ≤ (r - q * nx) * v := Int.mul_nonneg e1 hv
  have k3 : u + q * v ≤ m := le_of_mul (a := nx) (by omega) (by omega) (by omega)
  have k4 : 0 ≤ nx * u := Int.mul_nonneg p3 hu
  have k5 : v ≤ m := le_of_mul (a := r) (by omega) hv (by omega)
  have k6 : q ≤ m := le_of_mul (a := nx) (by omega) hq0 (by rw [Int.mul_comm]; omega)
  refine ⟨⟨⟨-s, v, u + q * v, by omega, hv, k5, by omega, by grind, by grind, by omega⟩, by omega, ⟨ty, hya⟩, ⟨tx - q * ty, by grind⟩, ⟨dm + cm * q, cm, by grind⟩, ⟨da + ca * q, ca, by grind⟩⟩, ?_⟩
  have k7 : q * y = -s * (q * v) := by grind
  have k8 : x - q * y = s * (u + q * v) := by grind
  rcases hs with rfl | rfl <;> omega
theorem inverseG_ok {a m : Int} (ha : 0 ≤ a) (ham : a < m) (hm : m ≤ 1000000) (hk : ∀ (x : Int) (b : Bool), 0 ≤ x → x < m → ((∃ z w : Int, a * z = 1 + w * m) → ∃ t, a * x = 1 + t * m) → K (.tup [.int .i64 x, .bool b]) σ) : PCalls Tryz.prog 125 [.int .i64 a, .int .i64 m] σ K := by
  refine pcalls_of_vp mix Tryz.func125 cf125 rfl ?_
  dsimp only [if125, qI, eI, nI, qD, eD]
  simp only [pwA, if_true, if_false, eq_self, nm_eq, reduceCtorEq, ↓reduceIte, nQ10, nQ7, nQ11, nQ12, nQ16, nQ17, nQ18, iQ2, iQ3, iQ4, iQ5, iQ6, lQ19, iQ7, lQ20]
  refine vp_loop (fun k vs h' => ∃ r nx x y : Int, k = nx.toNat ∧ vs = [.int .i64 m, .int .i64 r, .int .i64 nx, .int .i64 x, .int .i64 y] ∧ σ = h' ∧ EucI m a r nx x y) a.toNat ?_ ?_
  · exact ⟨m, a, 0, 1, rfl, rfl, rfl, EucI.start ha ham⟩
  rintro k vs h' ⟨r, nx, x, y, rfl, rfl, rfl, hI⟩
  obtain ⟨p1, p2, p3, p5⟩ := hI.pos
  by_cases h0 : nx = 0
  · subst h0
    simp only [pwA, if_true, if_false, eq_self, nm_eq, reduceCtorEq, ↓reduceIte, nQ10, nQ7, nQ11, nQ12, nQ16, nQ17, nQ18, iQ2, iQ3, iQ4, iQ5, iQ6, lQ19, iQ7, lQ20]
    refine residue_ok (by omega) (by omega) ?_
    simp only [pwA, if_true, if_false, eq_self, nm_eq, reduceCtorEq, ↓reduceIte, nQ10, nQ7, nQ11, nQ12, nQ16, nQ17, nQ18, iQ2, iQ3, iQ4, iQ5, iQ6, lQ19, iQ7, lQ20]
    refine hk _ _ (Int.emod_nonneg _ (by omega)) (Int.emod_lt_of_pos _ (by omega)) fun ⟨z, w, hz⟩ => ?_
    obtain ⟨tx, hxa⟩ := hI.xa
    obtain ⟨cm, dm, hdm⟩ := hI.dm
    obtain ⟨ca, da, hda⟩ := hI.da
    have e : r * (ca * z - w * cm) = 1 := by grind
    have hr1 : r = 1 := by
      have hd : r ∣ 1 := ⟨_, e.symm⟩
      have := Int.le_of_dvd (by omega) hd
      omega
    have em := Int.mul_ediv_add_emod x m
    exact ⟨tx - a * (x / m), by grind⟩
  · obtain ⟨hI', b⟩ := hI.step h0
    have ht : r.tdiv nx = r / nx := Int.tdiv_eq_ediv_of_nonneg (by omega)
    obtain ⟨p1', p2', p3', p5'⟩ := hI'.pos
    simp only [pwA, if_true, if_false, eq_self, nm_eq, reduceCtorEq, ↓reduceIte, nQ10, nQ7, nQ11, nQ12, nQ16, nQ17, nQ18, iQ2, iQ3, iQ4, iQ5, iQ6, lQ19, iQ7, lQ20, h0, ht, wrap64 (n := r / nx) (by omega) (by omega), wrap64 (n := r / nx * nx) (by omega) (by omega), wrap64 (n := r / nx * y) (by omega) (by omega), wrap64 (n := r - r / nx * nx) (by omega) (by omega), wrap64 (n := x - r / nx * y) (by omega) (by omega)]
    exact ⟨_, by omega, _, _, _, _, rfl, rfl, hI'⟩
end Go.Proofs
