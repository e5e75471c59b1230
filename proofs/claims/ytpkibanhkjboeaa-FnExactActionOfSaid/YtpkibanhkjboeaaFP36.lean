/- Images of vectors under elements: the whole functions. -/
import Derived.Test.YtpkibanhkjboeaaFP30
import Derived.Test.YtpkibanhkjboeaaFAbPq
set_option linter.unusedSimpArgs false
set_option linter.unusedVariables false
namespace Go.Proofs
open Go.Ab Go.Lie Go.Grp Go.Mx
variable {σ : PHeap} {K : PV → PHeap → Prop} {p d : Int} {n na : Nat} {v w x xs ys : List Int} {A B M vals : List (List Int)} {As : List (List (List Int))} {vA vB vM vv vx vw vV v0 : PV} {O : List Int} {P : List (List Int)} {C : List (List (List Int))} {vO vP vC : PV} {s sp : Nat}
/-- What both sides return: a value and a code. -/
structure ResR {α : Type} (r : α × Int) (z : α) (c : Int) : Prop where
  eq : (z, c) = r
theorem ResR.unique {α : Type} {r : α × Int} {z z' : α} {c c' : Int} (h : ResR r z c) (h' : ResR r z' c') : z = z' ∧ c = c' := by
  have := h.eq.trans h'.eq.symm
  simp only [Prod.mk.injEq] at this
  exact this
end Go.Proofs
set_option linter.unusedSimpArgs false
set_option linter.unusedVariables false
namespace Go.Proofs
open Go.Ab Go.Lie Go.Grp Go.Mx
variable {σ : PHeap} {K : PV → PHeap → Prop} {p d : Int} {n na : Nat} {v w x y xs ys : List Int} {A B M vals : List (List Int)} {As : List (List (List Int))} {vA vB vM vv vx vw vV v0 : PV} {O : List Int} {P : List (List Int)} {C : List (List (List Int))} {vO vP vC : PV} {s sp : Nat}
theorem vectorTimes_T (hp : 2 ≤ p ∧ p ≤ 7) (hA : Ma p n A) (hv : Ve p A.length v) (hn : n ≤ 8) (hal : A.length ≤ 8) (hvA : FII vA A) (hvv : FI vv v) (hk : ∀ z t, FI z (vt p n v A) → Own σ.top t z → σ.top ≤ t → K z (σ.up t)) :
    PCalls Try.prog 69 [vv, .agg [.int .i64 p, .int .i64 n, vA]] σ K := by
  have hl := (vt_ve (by omega : 0 < p) hA hv.len).len
  refine PCalls.fzT (l := n) (e := 1) (cs := pis (vt p n v A)) (fun K' k' => vectorTimes_ok hp hA hv hn hal hvA hvv k') (pis_bel _ _) (Owns.pis _ _ _) fun o cap t h1 h2 => hk _ t ?_ h1 h2
  exact ⟨true, .sl o 0 n cap, by rw [hl]⟩
open Classical in
theorem isExp.nx7 (sh : Shp O P C) (h : isExp O x) (j : Nat) : 0 ≤ at_ x j ∧ at_ x j ≤ 7 := by
  refine shp_nx sh h.1 (fun j hj => ?_) j
  have := h.2 j (by rw [h.1]; exact hj)
  omega
theorem pres_isP (h : isPres O P C) : ∀ o ∈ O, isP o := h.2.2.2.1
theorem l10Element_ok (hR : IsPr vO vP vC O P C) (szO : O.length ≤ 1048576) (bO : ∀ o ∈ O, isP o) (hy : FI vv y) (hb : y.length ≤ 1048576) (hk : ∀ t : Bool, (t = true ↔ isExp O y) → K (.bool t) σ) : PCalls Try.prog 64 [.agg [vO, vP, vC], vv] σ K := by
  have h0 := hR.O.one
  have h1 := hR.P.one
  have h2 := hR.C.one
  refine PCalls.gh ?_
  refine pcalls_of_vp mix Try.func64 cf64 rfl ?_
  dsimp only [if64, qI, eI, nI, qD, eD]
  simp only [pwA, if_true, if_false, eq_self, nm_eq, reduceCtorEq, ↓reduceIte, Nat.reduceEqDiff, Nat.reduceLeDiff, Nat.reduceBEq, Nat.reduceAdd, Nat.reduceLT, Nat.reduceSub, Nat.reduceMul, Int.reduceEq, Int.reduceLT, Int.reduceLE, Int.reduceNeg, Int.reduceToNat, List.reduceReplicate, Int.ofNat_le, List.getElem?_drop, h0, h1, h2]
  refine l07Exponents_ok (t := 0) (by omega) (Nat.zero_le _) hR.O szO bO hy hb fun t ht => ?_
  simp only [pwA, if_true, if_false, eq_self, nm_eq, reduceCtorEq, ↓reduceIte, Nat.reduceEqDiff, Nat.reduceLeDiff, Nat.reduceBEq, Nat.reduceAdd, Nat.reduceLT, Nat.reduceSub, Nat.reduceMul, Int.reduceEq, Int.reduceLT, Int.reduceLE, Int.reduceNeg, Int.reduceToNat, List.reduceReplicate, Int.ofNat_le, List.getElem?_drop]
  exact Gh.fin0 (keep_new σ _) trivial (hk _ (ht.trans ⟨fun h => h.1, fun h => ⟨h, fun x hx => by simp at hx⟩⟩))
end Go.Proofs
