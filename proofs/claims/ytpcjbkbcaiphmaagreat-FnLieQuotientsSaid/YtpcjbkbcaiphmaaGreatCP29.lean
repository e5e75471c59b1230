/- What a law does with its arguments: sizes, copies, comparisons. -/
import Derived.Test.YtpcjbkbcaiphmaaGreatCP28
open Nat renaming reduceLeDiff → nQ7, reduceEqDiff → nQ10, reduceBEq → nQ11, reduceAdd → nQ12, reduceLT → nQ16, reduceSub → nQ17, reduceMul → nQ18
open Int renaming reduceEq → iQ2, reduceLT → iQ3, reduceLE → iQ4, reduceNeg → iQ5, reduceToNat → iQ6, ofNat_le → iQ7
open List renaming reduceReplicate → lQ19, getElem?_drop → lQ20
set_option linter.unusedSimpArgs false
set_option linter.unusedVariables false
namespace Go.Proofs
open Go.Ab Go.Lie
variable {σ : PHeap} {K : PV → PHeap → Prop} {p : Int} {n : Nat} {W : List (List Int)} {B : List (List (List Int))} {vP vB vL : PV} {s : Nat}
theorem isVec_el {xs : List Int} : isVec xs p n ↔ El p n xs := ⟨fun h => ⟨by have := h.1; omega, h.2⟩, fun h => ⟨by have := h.1; omega, h.2⟩⟩
theorem l31Has_ok {l : Nat} {w : Bool} {a : AV} {xs : List Int} (hR : IsR vP vB W B) (hl : l = xs.length) (hb : xs.length ≤ 1048576) (hp : okp p) (hk : ∀ t : Bool, (t = true ↔ El p W.length xs) → K (.bool t) σ) :
    PCalls Tryz.prog 104 [.agg [.int .i64 p, vP, vB], .fz w a l (pis xs)] σ K := by
  have h2 := hR.B.one
  unfold okp at hp
  obtain ⟨⟨w1, a1, rP, rfl, hP⟩, hB⟩ := hR
  refine PCalls.gh ?_
  have hkp := keep_new σ [.int .i64 p, .fz w1 a1 W.length rP, vB]
  refine pcalls_of_vp mix Tryz.func104 cf104 rfl ?_
  dsimp only [if104, qI, eI, nI, qD, eD]
  simp only [pwA, if_true, if_false, eq_self, nm_eq, reduceCtorEq, ↓reduceIte, nQ10, nQ7, nQ11, nQ12, nQ16, nQ17, nQ18, iQ2, iQ3, iQ4, iQ5, iQ6, lQ19, iQ7, lQ20, h2]
  refine l31Is_ok hl (by omega) (by omega) (by omega) ?_
  simp only [pwA, if_true, if_false, eq_self, nm_eq, reduceCtorEq, ↓reduceIte, nQ10, nQ7, nQ11, nQ12, nQ16, nQ17, nQ18, iQ2, iQ3, iQ4, iQ5, iQ6, lQ19, iQ7, lQ20]
  exact Gh.fin0 hkp trivial (hk _ (by rw [decide_eq_true_iff]; exact isVec_el))
def Els (p : Int) (n : Nat) (xs : List (List Int)) : Prop := ∀ x ∈ xs, El p n x
structure SzL (xs : List (List Int)) : Prop where
  l : xs.length ≤ 1048576
  r : ∀ x ∈ xs, x.length ≤ 1048576
theorem l32Elements_ok {xs : List (List Int)} (hR : IsR vP vB W B) (hL : FII vL xs) (sz : SzL xs) (hp : okp p) (hk : ∀ t : Bool, (t = true ↔ Els p W.length xs) → K (.bool t) σ) :
    PCalls Tryz.prog 125 [.agg [.int .i64 p, vP, vB], vL] σ K := by
  have h1 := hR.P.one
  have h2 := hR.B.one
  have hxl := sz.l
  obtain ⟨wl, al, rl, rfl, hrl⟩ := hL
  refine PCalls.gh ?_
  have hkp := keep_new σ [.int .i64 p, vP, vB]
  refine pcalls_of_vp mix Tryz.func125 cf125 rfl ?_
  dsimp only [if125, qI, eI, nI, qD, eD]
  simp only [pwA, if_true, if_false, eq_self, nm_eq, reduceCtorEq, ↓reduceIte, nQ10, nQ7, nQ11, nQ12, nQ16, nQ17, nQ18, iQ2, iQ3, iQ4, iQ5, iQ6, lQ19, iQ7, lQ20, h1, h2]
  refine vp_loop (fun m vs h' => ∃ i : Nat, i ≤ xs.length ∧ m = xs.length - i ∧ vs = [.fz wl al xs.length rl, .ptr σ.next 0, .int .i64 i] ∧ σ.new [.int .i64 p, vP, vB] = h' ∧ ∀ j (h : j < xs.length), j < i → El p W.length xs[j]) xs.length ?_ ?_
  · exact ⟨0, by omega, by omega, rfl, rfl, fun j h hj => by omega⟩
  rintro m vs h' ⟨i, hi, rfl, rfl, rfl, hall⟩
  simp only [pwA, if_true, if_false, eq_self, nm_eq, reduceCtorEq, ↓reduceIte, nQ10, nQ7, nQ11, nQ12, nQ16, nQ17, nQ18, iQ2, iQ3, iQ4, iQ5, iQ6, lQ19, iQ7, lQ20]
  refine iteI (fun hlt => ?_) fun hge => ?_
  · obtain ⟨w4, a4, hr⟩ := hrl.rowI hlt
    simp only [pwA, if_true, if_false, eq_self, nm_eq, reduceCtorEq, ↓reduceIte, nQ10, nQ7, nQ11, nQ12, nQ16, nQ17, nQ18, iQ2, iQ3, iQ4, iQ5, iQ6, lQ19, iQ7, lQ20, hlt, hr]
    refine l31Has_ok hR rfl (sz.r _ (List.getElem_mem hlt)) hp fun t ht => ?_
    cases t with
    | false =>
      simp only [pwA, if_true, if_false, eq_self, nm_eq, reduceCtorEq, ↓reduceIte, nQ10, nQ7, nQ11, nQ12, nQ16, nQ17, nQ18, iQ2, iQ3, iQ4, iQ5, iQ6, lQ19, iQ7, lQ20]
      exact Gh.fin0 hkp trivial (hk _ ⟨fun x => (by cases x), fun x => ht.2 (x _ (List.getElem_mem hlt))⟩)
    | true =>
      simp only [pwA, if_true, if_false, eq_self, nm_eq, reduceCtorEq, ↓reduceIte, nQ10, nQ7, nQ11, nQ12, nQ16, nQ17, nQ18, iQ2, iQ3, iQ4, iQ5, iQ6, lQ19, iQ7, lQ20, wrapS hlt (by omega : xs.length ≤ 4611686018427387904)]
      refine ⟨_, by omega, i + 1, by omega, rfl, rfl, fun j h hj => ?_⟩
      by_cases e : j = i
      · subst e; exact ht.1 rfl
      · exact hall j h (by omega)
  · refine Gh.fin0 hkp trivial (hk _ ⟨fun _ x hx => ?_, fun _ => rfl⟩)
    obtain ⟨j, hj, rfl⟩ := List.mem_iff_getElem.1 hx
    exact hall j hj (by omega)
theorem lieElements_ok {xs : List (List Int)} (hs : PtrR σ s p vP vB) (hR : IsR vP vB W B) (szr : SzR W B) (hL : FII vL xs) (sz : SzL xs) (hk : ∀ t : Bool, (t = true ↔ isLie p W B ∧ Els p W.length xs) → K (.bool t) σ) :
    PCalls Tryz.prog 101 [.ptr s 0, vL] σ K := by
  have hPP := hR.P
  have hxl := sz.l
  obtain ⟨wl, al, rl, rfl, hrl⟩ := hL
  refine pcalls_of_vp mix Tryz.func101 cf101 rfl ?_
  dsimp only [if101, qI, eI, nI, qD, eD]
  simp only [pwA, if_true, if_false, eq_self, nm_eq, reduceCtorEq, ↓reduceIte, nQ10, nQ7, nQ11, nQ12, nQ16, nQ17, nQ18, iQ2, iQ3, iQ4, iQ5, iQ6, lQ19, iQ7, lQ20, obj_rd1 hs.obj, obj_rd hs.obj]
  refine IsLieRing_ok hR szr fun t ht => ?_
  cases t with
  | false =>
    simp only [pwA, if_true, if_false, eq_self, nm_eq, reduceCtorEq, ↓reduceIte, nQ10, nQ7, nQ11, nQ12, nQ16, nQ17, nQ18, iQ2, iQ3, iQ4, iQ5, iQ6, lQ19, iQ7, lQ20]
    exact hk _ ⟨fun x => (by cases x), fun x => ht.2 x.1⟩
  | true =>
  have hlie := ht.1 rfl
  simp only [pwA, if_true, if_false, eq_self, nm_eq, reduceCtorEq, ↓reduceIte, nQ10, nQ7, nQ11, nQ12, nQ16, nQ17, nQ18, iQ2, iQ3, iQ4, iQ5, iQ6, lQ19, iQ7, lQ20]
  refine vp_loop (fun m vs h' => ∃ i : Nat, i ≤ xs.length ∧ m = xs.length - i ∧ vs = [.ptr s 0, .fz wl al xs.length rl, .int .i64 xs.length, .int .i64 i] ∧ σ = h' ∧ ∀ j (h : j < xs.length), j < i → El p W.length xs[j]) xs.length ?_ ?_
  · exact ⟨0, by omega, by omega, rfl, rfl, fun j h hj => by omega⟩
  rintro m vs h' ⟨i, hi, rfl, rfl, rfl, hall⟩
  simp only [pwA, if_true, if_false, eq_self, nm_eq, reduceCtorEq, ↓reduceIte, nQ10, nQ7, nQ11, nQ12, nQ16, nQ17, nQ18, iQ2, iQ3, iQ4, iQ5, iQ6, lQ19, iQ7, lQ20]
  refine iteI (fun hlt => ?_) fun hge => ?_
  · obtain ⟨w4, a4, hr⟩ := hrl.rowI hlt
    simp only [pwA, if_true, if_false, eq_self, nm_eq, reduceCtorEq, ↓reduceIte, nQ10, nQ7, nQ11, nQ12, nQ16, nQ17, nQ18, iQ2, iQ3, iQ4, iQ5, iQ6, lQ19, iQ7, lQ20, hlt, hr]
    refine isLieElement_ok hs hPP rfl (sz.r _ (List.getElem_mem hlt)) hlie.1.1 ?_
    by_cases hv : isVec xs[i] p W.length
    · simp only [pwA, if_true, if_false, eq_self, nm_eq, reduceCtorEq, ↓reduceIte, nQ10, nQ7, nQ11, nQ12, nQ16, nQ17, nQ18, iQ2, iQ3, iQ4, iQ5, iQ6, lQ19, iQ7, lQ20, hv, wrapS hlt (by omega : xs.length ≤ 4611686018427387904)]
      refine ⟨_, by omega, i + 1, by omega, rfl, rfl, fun j h hj => ?_⟩
      by_cases e : j = i
      · subst e; exact isVec_el.1 hv
      · exact hall j h (by omega)
    · simp only [pwA, if_true, if_false, eq_self, nm_eq, reduceCtorEq, ↓reduceIte, nQ10, nQ7, nQ11, nQ12, nQ16, nQ17, nQ18, iQ2, iQ3, iQ4, iQ5, iQ6, lQ19, iQ7, lQ20, hv]
      exact hk _ ⟨fun x => (by cases x), fun x => absurd (isVec_el.2 (x.2 _ (List.getElem_mem hlt))) hv⟩
  · refine hk _ ⟨fun _ => ⟨hlie, fun x hx => ?_⟩, fun _ => rfl⟩
    obtain ⟨j, hj, rfl⟩ := List.mem_iff_getElem.1 hx
    exact hall j hj (by omega)
end Go.Proofs
namespace Go.Proofs
open Go.Ab Go.Lie
variable {σ : PHeap} {K : PV → PHeap → Prop} {p p' : Int} {n : Nat} {W W' : List (List Int)} {B B' : List (List (List Int))} {vP vB vP' vB' vL vL' : PV}
theorem eqTake {α : Type} {xs ys : List α} (hl : xs.length = ys.length) {i : Nat} (hi : i < xs.length) (h : xs.take i = ys.take i) (he : xs[i] = ys[i]'(by omega)) : xs.take (i + 1) = ys.take (i + 1) := by
  rw [List.take_succ_eq_append_getElem hi, List.take_succ_eq_append_getElem (by omega : i < ys.length), h, he]
end Go.Proofs
