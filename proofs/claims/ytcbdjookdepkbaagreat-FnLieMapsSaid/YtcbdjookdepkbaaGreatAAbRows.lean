/- SLICES OF SLICES that a call makes: rows each in memory of its own, and the slice that they are appended to. -/
import Derived.Test.YtcbdjookdepkbaaGreatAAbAid
set_option linter.unusedVariables false
set_option linter.unusedSimpArgs false
namespace Go.Ab
variable {h h' h0 h1 h2:AHeap} {α:Type} {R:AHeap→AV→α→List Nat→Prop}
structure zKO (R:AHeap→AV→α→List Nat→Prop) (lo:Nat) (h:AHeap) (us:List AV) (fps:List (List Nat)) (xs:List α):Prop where
 len:us.length=fps.length
 own:All2 (fun vf x=>R h vf.1 x vf.2) (us.zip fps) xs
 nodup:fps.flatten.Nodup
 lo:∀o∈fps.flatten,lo≤o∧o<h.next
end Go.Ab
namespace Go.Ab
variable {h h' h0 h1 h2:AHeap} {α:Type} {R:AHeap→AV→α→List Nat→Prop}
end Go.Ab
