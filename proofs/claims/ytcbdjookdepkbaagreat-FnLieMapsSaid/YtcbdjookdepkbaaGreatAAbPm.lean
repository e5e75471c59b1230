/- MARKS: what a law's function does to the memory that it holds: frozen values of which the numbers are written over. Only for a function that nobody calls. -/
import Derived.Test.YtcbdjookdepkbaaGreatAAbPy
import Derived.Test.YtcbdjookdepkbaaGreatAAbPt
set_option linter.unusedVariables false
set_option linter.unusedSimpArgs false
set_option linter.defProp false
namespace Go.Ab
variable {P:Program} {ι ι':Nat→Nat} {Z Z':Nat→Prop} {h h' h'':AHeap} {σ σ' σ0 σ1 σ2:PHeap} {n n':Nat} {K:PV→PHeap→Prop} {L L':List (Nat×List PV)}
mutual
def rm (L:List (Nat×List PV)):PV→PV
 | .fz w a len cs=>bif cs.isEmpty then .fz w a len cs else
  match a with
  | .sl o off l cap=>
   match L.lookup o with
   | some ms=>bif w then .fz true (.sl o off l cap) len ms else .fp (.sl o off l cap) []
   | none=>.fz w (.sl o off l cap) len (rms L cs)
  | a=>.fz w a len cs
 | .fp a cs=>bif cs.isEmpty then .fp a cs else
  match a with
  | .ptr o i=>
   match L.lookup o with
   | some _=>.fp (.ptr o i) []
   | none=>.fp (.ptr o i) (rms L cs)
  | a=>.fp a cs
 | .clo f a b=>.clo f (rms L a) (rms L b)
 | .agg cs=>.agg (rms L cs)
 | .tup cs=>.tup (rms L cs)
 | v=>v
def rms (L:List (Nat×List PV)):List PV→List PV
 | []=>[]
 | c::cs=>rm L c::rms L cs
end
def PHeap.rmap (σ:PHeap) (L:List (Nat×List PV)):PHeap:=⟨σ.next,σ.top,fun s=>(σ.obj s).map (rms L)⟩
section
variable {Q:Exit→PEnv→PHeap→Prop} {e:PEnv} {hp:PHeap} {KE:PEnv→PHeap→Prop} {KM:PEnv→PV→PHeap→Prop}
end
end Go.Ab
