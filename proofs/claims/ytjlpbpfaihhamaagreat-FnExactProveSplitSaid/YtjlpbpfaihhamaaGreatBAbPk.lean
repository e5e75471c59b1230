/- MATRICES IN SLOTS OF THEIR OWN: rows in slots, named in slots of matrices, named in one slot; all are frozen at a function's end, all new. -/
import Derived.Test.YtjlpbpfaihhamaaGreatBAbPj
set_option linter.unusedVariables false
set_option linter.unusedSimpArgs false
namespace Go.Ab
variable {σ0 σ1 σ2:PHeap} {K:PV→PHeap→Prop} {n lo hi:Nat}
structure SR where
 s:Nat
 cap:Cap
 x:List Int
def SR.pv (q:SR):PV:=.sl q.s 0 q.x.length q.cap
def SR.ok (σ:PHeap) (b:Nat) (q:SR):Prop:=full 1 q.cap q.x.length∧σ.obj q.s=some (pis q.x)∧b≤q.s∧q.s<σ.next
def zB0 (rows:List SR):List Nat:=rows.map SR.s
end Go.Ab
