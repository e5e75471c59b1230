/- ROWS IN SLOTS OF THEIR OWN: they are frozen at a function's end, all new. -/
import Derived.Test.YtpkibanhkjboeaaHAbPz
import Derived.Test.YtpkibanhkjboeaaHAbPn
set_option linter.unusedVariables false
set_option linter.unusedSimpArgs false
namespace Go.Ab
variable {σ0 σ1 : PHeap} {K : PV → PHeap → Prop} {n lo hi : Nat}
/-- A slot that is named in other slots is frozen at a function's end. -/
theorem Gh.freezeH {v : PV} {s : Nat} {cs : List PV} (hs : σ1.obj s = some cs) (h0 : σ0.next ≤ s) (hb : Bels 0 cs)
    (k : ∀ o, σ0.top ≤ o → (∀ t ds, σ1.obj t = some ds → o ∉ addrsL ds) → o ∉ addrs v → Gh σ0 K (sb s o cs v) (((σ1.kill s).sub s o cs).up (max σ1.top (o + 1)))) : Gh σ0 K v σ1 := by
  intro w ι Z h b r hv h1 h2 h3 h4
  obtain ⟨r', hc0, ho, hz⟩ := r.freeze hs hb
  have hbs := h3 s cs h0 hs
  have hz1 : ∀ o, Z o → (Z o ∨ o = ι s) ∧ h.obj o = h.obj o := fun o ho => ⟨.inl ho, rfl⟩
  have r3 := r'.sub (s := s) rfl (.inr rfl) ho (hc0.mono hz1 (Nat.le_refl _))
  have conv : ∀ {t : Nat} {a : List PV}, ((σ1.kill s).sub s (ι s) cs).obj t = some a → ∃ b, σ1.obj t = some b := fun {t a} ht => by
    simp only [PHeap.sub, PHeap.kill, Option.map_eq_some_iff] at ht
    obtain ⟨b, hb, _⟩ := ht
    split at hb
    · cases hb
    · exact ⟨b, hb⟩
  obtain ⟨v2, σ2, ι2, Z2, g1, g2, g3, g4, g5, g6, g7, g8, g9⟩ := k (ι s) (by omega) (fun t ds ht hm => hz (addrsL_z (r.obj t ds ht).2.1 _ hm)) (fun hm => hz (addrs_z hv _ hm)) w ι (fun o => Z o ∨ o = ι s) h b r3
    (VOK.sb (.inr rfl) ho (hc0.mono hz1 (Nat.le_refl _)) (hv.mono hz1 (Nat.le_refl _))) h1 h2 (fun t ds ht hd => by obtain ⟨b, hb⟩ := conv hd; exact h3 t b ht hb)
    (fun t ht hd => by
      have := h4 t ht hd
      simp only [PHeap.sub, PHeap.kill, PHeap.up]
      split
      · rfl
      · rw [this]; rfl)
  exact ⟨v2, σ2, ι2, Z2, g1, g2, g3, g4, fun o ho => g5 o (.inl ho), g6, g7, g8.trans (er_sb rfl v), g9⟩
/-- The slot that a value names. -/
def sid : PV → Nat
  | .sl s _ _ _ => s
  | _ => 0
theorem eads_one {o l : Nat} {cap : Cap} {x : List Int} : ∀ o' ∈ ead (.fz true (.sl o 0 l cap) l (pis x)), o' = o := by
  intro o' ho
  by_cases hne : pis x = []
  · rw [hne] at ho; cases ho
  · rw [ead_fz hne, eads_pis] at ho
    simpa using ho
theorem Owns.add {fr : List PV} {c : PV} (h : Owns lo hi fr) (g : Own lo hi c) (hd : ∀ o ∈ ead c, o ∉ eads fr) : Owns lo hi (fr ++ [c]) := by
  refine ⟨Whs_iff.2 fun x hx => ?_, ?_, fun o ho => ?_⟩
  · rcases List.mem_append.1 hx with hx | hx
    · exact Whs_iff.1 h.wh x hx
    · rw [List.mem_singleton.1 hx]; exact g.wh
  · rw [eads_append, List.nodup_append]
    simp only [eads, List.append_nil]
    exact ⟨h.nd, g.nd, fun a ha b hb e => hd b hb (e ▸ ha)⟩
  · rw [eads_append] at ho
    simp only [eads, List.append_nil, List.mem_append] at ho
    exact ho.elim (h.lt o) (g.lt o)
theorem addrsL_app {o : Nat} : ∀ {a b : List PV}, o ∈ addrsL a → o ∈ addrsL (a ++ b)
  | v :: a, b, h => by
    simp only [addrsL, List.cons_append, List.mem_append] at h ⊢
    exact h.imp id addrsL_app
theorem sbs_sid {s o : Nat} {cs : List PV} : ∀ {cells : List PV}, s ∉ cells.map sid → (∀ c ∈ cells, ∃ t l cap, c = .sl t 0 l cap) → sbs s o cs cells = cells
  | [], _, _ => rfl
  | c :: cells, hn, hs => by
    obtain ⟨t, l, cap, rfl⟩ := hs _ (List.mem_cons_self ..)
    simp only [List.map_cons, List.mem_cons, not_or, sid] at hn
    simp only [sbs, sb]
    rw [if_neg fun e => hn.1 e.1.symm, sbs_sid hn.2 fun d hd => hs d (List.mem_cons_of_mem _ hd)]
end Go.Ab
