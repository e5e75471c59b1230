/- A STRUCT WHOSE LAST CELL IS A RESULT: what holds of the cell holds of the struct. -/
import Derived.Test.YtpkibanhkjboeaaFAbPq
set_option linter.unusedVariables false
set_option linter.unusedSimpArgs false
namespace Go.Ab
variable {σ0 σ1 : PHeap} {K : PV → PHeap → Prop} {p d : Int}
theorem Gh.agg3 {v : PV} (g : Gh σ0 (fun v σ => K (.agg [.int .i64 p, .int .i64 d, v]) σ) v σ1) : Gh σ0 K (.agg [.int .i64 p, .int .i64 d, v]) σ1 := by
  intro w ι Z h b r hv h1 h2 h3 h4
  obtain ⟨_, _, hv', _⟩ := hv
  obtain ⟨v2, σ2, ι2, Z2, g1, g2, g3, g4, g5, g6, g7, g8, g9⟩ := g w ι Z h b r hv' h1 h2 h3 h4
  exact ⟨.agg [.int .i64 p, .int .i64 d, v2], σ2, ι2, Z2, g1, ⟨trivial, trivial, g2, trivial⟩, g3, g4, g5, g6, g7, by simp only [er, ers, g8], g9⟩
theorem PAcc.setX {b e n s : Nat} {h : PHeap} {v : PV} {cs ds : List PV} (a : PAcc b e h v n cs) (hs : s < b) : PAcc b e (h.set s ds) v n cs := by
  rcases a with a | ⟨t, cap, rfl, h1, h2, h3, h4, h5⟩
  · exact .inl a
  · exact .inr ⟨t, cap, rfl, h1, by rw [pobj_set, if_neg (by omega)]; exact h2, h3, h4, h5⟩
theorem PAcc.upX {b e n t : Nat} {h : PHeap} {v : PV} {cs : List PV} (a : PAcc b e h v n cs) : PAcc b e (h.up t) v n cs := by
  rcases a with a | ⟨t, cap, rfl, h1, h2, h3, h4, h5⟩
  · exact .inl a
  · exact .inr ⟨t, cap, rfl, h1, h2, h3, h4, h5⟩
theorem SlRows.setX {b s : Nat} {h : PHeap} {v : PV} {cells ds : List PV} {xs : List (List Int)} (r : SlRows h b v cells xs) (hs : s < b) : SlRows (h.set s ds) b v cells xs :=
  ⟨r.row.imp fun c x ⟨t, cap, h1, h2, h3, h4, h5, h6⟩ => ⟨t, cap, h1, h2, by rw [pobj_set, if_neg (by omega)]; exact h3, h4, h5, h6⟩, r.nd⟩
theorem SlRows.low {b b' : Nat} {h : PHeap} {v : PV} {cells : List PV} {xs : List (List Int)} (r : SlRows h b v cells xs) (hb : b' ≤ b) : SlRows h b' v cells xs :=
  ⟨r.row.imp fun c x ⟨t, cap, h1, h2, h3, h4, h5, h6⟩ => ⟨t, cap, h1, h2, h3, by omega, h5, h6⟩, r.nd⟩
theorem wr_top {h h' : PHeap} {s i : Nat} {vs : List PV} (hw : h.wr s i vs = some h') : h'.top = h.top := by
  unfold PHeap.wr at hw
  cases ho : h.obj s with
  | none => rw [ho] at hw; cases hw
  | some cs =>
    rw [ho] at hw
    simp only [Option.bind_some] at hw
    split at hw
    · cases hw; rfl
    · cases hw
theorem pgrow_top {e b m : Nat} {h : PHeap} {v : PV} {news : List PV} {q : PV × PHeap} (hq : pgrow e b h v news m = some q) : q.2.top = h.top := by
  unfold pgrow at hq
  split at hq
  · split at hq
    · cases hq; rfl
    · cases hq
  · split at hq
    · cases hq; rfl
    · cases hq
  · split at hq
    · simp only [Option.map_eq_some_iff] at hq
      obtain ⟨h2, h3, rfl⟩ := hq
      exact wr_top h3
    · split at hq
      · simp only [Option.map_eq_some_iff] at hq
        obtain ⟨h2, h3, rfl⟩ := hq
        rfl
      · cases hq
  · split at hq
    · simp only [Option.bind_eq_some_iff] at hq
      obtain ⟨cs, h2, h3⟩ := hq
      split at h3
      · cases h3; rfl
      · cases h3
    · cases hq
  · cases hq
theorem pappend_top {e b : Nat} {h : PHeap} {v x : PV} {q : PV × PHeap} (hq : pappend e b h v x = some q) : q.2.top = h.top := by
  unfold pappend at hq
  simp only [Option.bind_eq_some_iff] at hq
  obtain ⟨m, h1, h2⟩ := hq
  split at h2
  · simp only [Option.map_eq_some_iff] at h2
    obtain ⟨v', h3, rfl⟩ := h2
    rfl
  · simp only [Option.bind_eq_some_iff] at h2
    obtain ⟨news, h3, h4⟩ := h2
    exact pgrow_top h4
theorem optK_top {e b : Nat} {h : PHeap} {v x : PV} {K : PV × PHeap → Prop} (c : optK (pappend e b h v x) fun q => q.2.top = h.top → K q) : optK (pappend e b h v x) K := by
  obtain ⟨q, hq, k⟩ := c
  exact ⟨q, hq, k (pappend_top hq)⟩
end Go.Ab
