/- MATRICES IN SLOTS OF THEIR OWN: rows in slots, named in slots of matrices, named in one slot; all are frozen at a function's end, all new. -/
import Derived.Test.YtjlpbpfaihhamaaGreatDoorAAbPj
set_option linter.unusedVariables false
set_option linter.unusedSimpArgs false
namespace Go.Ab
variable {σ0 σ1 σ2:PHeap} {K:PV→PHeap→Prop} {n lo hi:Nat}
structure SR where
 s:Nat
 cap:Cap
 x:List Int
theorem Owns.right {a b:List PV} (h:Owns lo hi (a++b)):Owns lo hi b:=by
 have hn:=h.nd;rw [qA,List.nodup_append]at hn
 exact⟨qc.2 fun x hx=>qc.1 h.wh x (List.mem_append.2 (.inr hx)),hn.2.1,fun o ho=>h.lt o (by rw [qA];exact List.mem_append.2 (.inr ho))⟩
theorem Owns.left {a b:List PV} (h:Owns lo hi (a++b)):Owns lo hi a:=by
 have hn:=h.nd;rw [qA,List.nodup_append]at hn
 exact⟨qc.2 fun x hx=>qc.1 h.wh x (List.mem_append.2 (.inl hx)),hn.1,fun o ho=>h.lt o (by rw [qA];exact List.mem_append.2 (.inl ho))⟩
end Go.Ab
