/- Lists on their way: reading them, what they own. -/
import Derived.Test.YtfoidnlodahfjaaGreatBAbPn
import Derived.Test.YtfoidnlodahfjaaGreatBAbPz
set_option linter.unusedSimpArgs false
set_option linter.unusedVariables false
namespace Go.Ab
theorem Owns.last {pre rows:List PV} {o l lo hi hi':Nat} {cap:Cap} (h:Owns lo hi (pre++rows)) (h1:lo≤o) (h2:o<hi') (hh:hi≤hi') (hn:o∉eads (pre++rows)):Owns lo hi' (pre++[.fz true (.sl o 0 l cap) l rows]):=by
 have hw:=Zd.1 h.wh;have nd:=h.nd;rw [qK]at nd hn
 by_cases hr:rows=[]
 ·subst hr
  refine⟨Zd.2 fun c hc=>?_,?_,fun x hx=>?_⟩
  ·rcases List.mem_append.1 hc with hc | hc
   ·exact hw c (List.mem_append.2 (.inl hc))
   ·rw [List.mem_singleton.1 hc];exact .inl rfl
  ·rw [qK]
   simpa [eads,ead]using nd
  ·rw [qK]at hx
   have:=h.lt x (by rw [qK];simpa [eads,ead]using hx)
   omega
 ·have e:eads (pre++[PV.fz true (.sl o 0 l cap) l rows])=eads pre++(o::eads rows):=by
   rw [qK];simp only [eads,List.append_nil];rw [zJp hr]
  refine⟨Zd.2 fun c hc=>?_,?_,fun x hx=>?_⟩
  ·rcases List.mem_append.1 hc with hc | hc
   ·exact hw c (List.mem_append.2 (.inl hc))
   ·rw [List.mem_singleton.1 hc]
    exact .inr ⟨rfl,rfl,Zd.2 fun c hc=>hw c (List.mem_append.2 (.inr hc))⟩
  ·rw [e]
   exact(List.perm_middle (a:=o) (l₁:=eads pre) (l₂:=eads rows)).nodup_iff.2 (List.nodup_cons.2 ⟨hn,nd⟩)
  ·rw [e,List.mem_append,List.mem_cons]at hx
   have hl:=h.lt x;rw [qK,List.mem_append]at hl
   rcases hx with hx|rfl|hx
   ·have:=hl (.inl hx);omega
   ·omega
   ·have:=hl (.inr hx);omega
end Go.Ab
