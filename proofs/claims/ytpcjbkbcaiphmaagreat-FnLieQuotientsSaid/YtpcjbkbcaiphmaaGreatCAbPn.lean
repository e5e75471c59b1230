/- WHOSE FROZEN VALUES ARE: results that are their own memory; what marks write, and how it reads behind them. -/
import Derived.Test.YtpcjbkbcaiphmaaGreatCAbPm
set_option linter.unusedVariables false
set_option linter.unusedSimpArgs false
namespace Go.Ab
variable {P : Program} {ι ι' : Nat → Nat} {Z Z' : Nat → Prop} {h h' h'' : AHeap} {σ σ' σ0 σ1 σ2 : PHeap} {n n' lo hi lo' hi' t t' : Nat} {K : PV → PHeap → Prop} {L L' : List (Nat × List PV)}
def isSl : AV → Bool
  | .sl _ _ _ _ => true
  | _ => false
mutual
def Wh : PV → Prop
  | .fz w a _ cs => cs = [] ∨ (w = true ∧ isSl a = true ∧ Whs cs)
  | .fp _ cs => cs = []
  | .clo _ a b => Whs a ∧ Whs b
  | .agg cs => Whs cs
  | .tup cs => Whs cs
  | _ => True
def Whs : List PV → Prop
  | [] => True
  | c :: cs => Wh c ∧ Whs cs
end
structure Own (lo hi : Nat) (v : PV) : Prop where
  wh : Wh v
  nd : (ead v).Nodup
  lt : ∀ o ∈ ead v, lo ≤ o ∧ o < hi
theorem isEmpty_ne {α : Type} {cs : List α} (h : cs ≠ []) : cs.isEmpty = false := by cases cs; exact absurd rfl h; rfl
theorem ead_fz {w : Bool} {o off l n : Nat} {cap : Cap} {cs : List PV} (hne : cs ≠ []) : ead (.fz w (.sl o off l cap) n cs) = o :: eads cs := by
  rw [ead, isEmpty_ne hne]; rfl
variable {α : Type} {R : PV → α → Prop} {mk : Int → PV → α → List (Nat × List PV)} {len : α → Nat} {sq : Int → α → α}
end Go.Ab
