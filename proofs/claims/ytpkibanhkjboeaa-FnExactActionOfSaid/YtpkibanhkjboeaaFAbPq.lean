/- ROWS IN SLOTS OF THEIR OWN: they are frozen at a function's end, all new. -/
import Derived.Test.YtpkibanhkjboeaaFAbPz
import Derived.Test.YtpkibanhkjboeaaFAbPn
set_option linter.unusedVariables false
set_option linter.unusedSimpArgs false
namespace Go.Ab
variable {σ0 σ1 : PHeap} {K : PV → PHeap → Prop} {n lo hi : Nat}
/-- A slot that is named in other slots is frozen at a function's end. -/
theorem Gh.freezeH {v : PV} {s : Nat} {cs : List PV} (hs : σ1.obj s = some cs) (h0 : σ0.next ≤ s) (hb : Bels 0 cs)
    (k : ∀ o, σ0.top ≤ o → (∀ t ds, σ1.obj t = some ds → o ∉ addrsL ds) → o ∉ addrs v → Gh σ0 K (sb s o cs v) (((σ1.kill s).sub s o cs).up (max σ1.top (o + 1)))) : Gh σ0 K v σ1 := by
  intro w ι Z h b r hv h1 h2 h3 h4
  obtain ⟨r', hc0, ho, hz⟩ := r.freeze hs hb
  have hbs := h3 s cs h0 hs
  have hz1 : ∀ o, Z o → (Z o ∨ o = ι s) ∧ h.obj o = h.obj o := fun o ho => ⟨.inl ho, rfl⟩
  have r3 := r'.sub (s := s) rfl (.inr rfl) ho (hc0.mono hz1 (Nat.le_refl _))
  have conv : ∀ {t : Nat} {a : List PV}, ((σ1.kill s).sub s (ι s) cs).obj t = some a → ∃ b, σ1.obj t = some b := fun {t a} ht => by
    simp only [PHeap.sub, PHeap.kill, Option.map_eq_some_iff] at ht
    obtain ⟨b, hb, _⟩ := ht
    split at hb
    · cases hb
    · exact ⟨b, hb⟩
  obtain ⟨v2, σ2, ι2, Z2, g1, g2, g3, g4, g5, g6, g7, g8, g9⟩ := k (ι s) (by omega) (fun t ds ht hm => hz (addrsL_z (r.obj t ds ht).2.1 _ hm)) (fun hm => hz (addrs_z hv _ hm)) w ι (fun o => Z o ∨ o = ι s) h b r3
    (VOK.sb (.inr rfl) ho (hc0.mono hz1 (Nat.le_refl _)) (hv.mono hz1 (Nat.le_refl _))) h1 h2 (fun t ds ht hd => by obtain ⟨b, hb⟩ := conv hd; exact h3 t b ht hb)
    (fun t ht hd => by
      have := h4 t ht hd
      simp only [PHeap.sub, PHeap.kill, PHeap.up]
      split
      · rfl
      · rw [this]; rfl)
  exact ⟨v2, σ2, ι2, Z2, g1, g2, g3, g4, fun o ho => g5 o (.inl ho), g6, g7, g8.trans (er_sb rfl v), g9⟩
/-- The slot that a value names. -/
def sid : PV → Nat
  | .sl s _ _ _ => s
  | _ => 0
/-- A row in a slot of its own. -/
def SlRow (σ : PHeap) (b : Nat) (v c : PV) (x : List Int) : Prop := ∃ s cap, c = .sl s 0 x.length cap ∧ full 1 cap x.length ∧ σ.obj s = some (pis x) ∧ b ≤ s ∧ s < σ.next ∧ ∀ off l c, v ≠ .sl s off l c
structure SlRows (σ : PHeap) (b : Nat) (v : PV) (cells : List PV) (xs : List (List Int)) : Prop where
  row : All2 (SlRow σ b v) cells xs
  nd : (cells.map sid).Nodup
theorem All2.imp {α β : Type} {R S : α → β → Prop} {as : List α} {bs : List β} (h : All2 R as bs) (hi : ∀ a b, R a b → S a b) : All2 S as bs := ⟨h.1, fun k a b ha hb => hi a b (h.2 k a b ha hb)⟩
theorem SlRows.nil (σ : PHeap) (b : Nat) (v : PV) : SlRows σ b v [] [] := ⟨All2.nil _, List.nodup_nil⟩
theorem SlRows.mono {σ σ' : PHeap} {b : Nat} {v v' : PV} {cells : List PV} {xs : List (List Int)} (r : SlRows σ b v cells xs) (hn : σ.next ≤ σ'.next)
    (ho : ∀ t, t < σ.next → (∀ off l c, v ≠ .sl t off l c) → σ'.obj t = σ.obj t) (hv : ∀ t, t < σ.next → ∀ off l c, v' ≠ .sl t off l c) : SlRows σ' b v' cells xs :=
  ⟨r.row.imp fun c x ⟨s, cap, h1, h2, h3, h4, h5, h6⟩ => ⟨s, cap, h1, h2, by rw [ho s h5 h6]; exact h3, h4, by omega, hv s h5⟩, r.nd⟩
theorem SlRows.keep {σ σ' : PHeap} {b : Nat} {v : PV} {cells : List PV} {xs : List (List Int)} (r : SlRows σ b v cells xs) (hk : Keep σ σ') : SlRows σ' b v cells xs :=
  ⟨r.row.imp fun c x ⟨s, cap, h1, h2, h3, h4, h5, h6⟩ => ⟨s, cap, h1, h2, by rw [hk.obj s h5]; exact h3, h4, by have := hk.next; omega, h6⟩, r.nd⟩
theorem SlRows.snoc {σ : PHeap} {b m : Nat} {v c : PV} {cells : List PV} {x : List Int} {xs : List (List Int)} (r : SlRows σ b v cells xs) (hr : SlRow σ b v c x) (hm : ∀ d ∈ cells, sid d < m) (hc : m ≤ sid c) : SlRows σ b v (cells ++ [c]) (xs ++ [x]) := by
  refine ⟨r.row.snoc hr, ?_⟩
  rw [List.map_append, List.nodup_append]
  refine ⟨r.nd, by simp, fun a ha b hb e => ?_⟩
  obtain ⟨d, hd, rfl⟩ := List.mem_map.1 ha
  simp only [List.map_cons, List.map_nil, List.mem_singleton] at hb
  have := hm d hd
  omega
theorem SlRows.lt {σ : PHeap} {b : Nat} {v : PV} {cells : List PV} {xs : List (List Int)} (r : SlRows σ b v cells xs) : ∀ d ∈ cells, sid d < σ.next := fun d hd => by
  obtain ⟨k, hk, rfl⟩ := List.mem_iff_getElem.1 hd
  obtain ⟨s, cap, h1, _, _, _, h5, _⟩ := r.row.2 k _ _ (List.getElem?_eq_getElem hk) (List.getElem?_eq_getElem (by rw [← r.row.1]; exact hk))
  rw [h1]; exact h5
theorem eads_one {o l : Nat} {cap : Cap} {x : List Int} : ∀ o' ∈ ead (.fz true (.sl o 0 l cap) l (pis x)), o' = o := by
  intro o' ho
  by_cases hne : pis x = []
  · rw [hne] at ho; cases ho
  · rw [ead_fz hne, eads_pis] at ho
    simpa using ho
theorem Owns.add {fr : List PV} {c : PV} (h : Owns lo hi fr) (g : Own lo hi c) (hd : ∀ o ∈ ead c, o ∉ eads fr) : Owns lo hi (fr ++ [c]) := by
  refine ⟨Whs_iff.2 fun x hx => ?_, ?_, fun o ho => ?_⟩
  · rcases List.mem_append.1 hx with hx | hx
    · exact Whs_iff.1 h.wh x hx
    · rw [List.mem_singleton.1 hx]; exact g.wh
  · rw [eads_append, List.nodup_append]
    simp only [eads, List.append_nil]
    exact ⟨h.nd, g.nd, fun a ha b hb e => hd b hb (e ▸ ha)⟩
  · rw [eads_append] at ho
    simp only [eads, List.append_nil, List.mem_append] at ho
    exact ho.elim (h.lt o) (g.lt o)
theorem addrsL_app {o : Nat} : ∀ {a b : List PV}, o ∈ addrsL a → o ∈ addrsL (a ++ b)
  | v :: a, b, h => by
    simp only [addrsL, List.cons_append, List.mem_append] at h ⊢
    exact h.imp id addrsL_app
theorem sbs_sid {s o : Nat} {cs : List PV} : ∀ {cells : List PV}, s ∉ cells.map sid → (∀ c ∈ cells, ∃ t l cap, c = .sl t 0 l cap) → sbs s o cs cells = cells
  | [], _, _ => rfl
  | c :: cells, hn, hs => by
    obtain ⟨t, l, cap, rfl⟩ := hs _ (List.mem_cons_self ..)
    simp only [List.map_cons, List.mem_cons, not_or, sid] at hn
    simp only [sbs, sb]
    rw [if_neg fun e => hn.1 e.1.symm, sbs_sid hn.2 fun d hd => hs d (List.mem_cons_of_mem _ hd)]
/-- The rows are frozen one by one, then what holds them. -/
theorem Gh.finRows (w0 : PWF σ0) : ∀ (cells : List PV) (xs : List (List Int)) {σ1 : PHeap} {v : PV} {n : Nat} {fr : List PV} {M1 : List (List Int)}, Keep σ0 σ1 → PAcc σ0.next 1 σ1 v n (fr ++ cells) → All2 FI fr M1 → Owns σ0.top σ1.top fr → SlRows σ1 σ0.next v cells xs →
    (∀ v t, FII v (M1 ++ xs) → Own σ0.top t v → σ0.top ≤ t → K v (σ0.up t)) → Gh σ0 K v σ1
  | [], xs, σ1, v, n, fr, M1, hk, ha, hall, ho, hr, k => by
    obtain rfl : xs = [] := List.eq_nil_of_length_eq_zero (by rw [← hr.row.1]; rfl)
    rw [List.append_nil] at ha k
    have hn : n = M1.length := by
      rcases ha with ⟨_, h1, h2⟩ | ⟨s, cap, _, _, _, h, _⟩
      · rw [← hall.1, h2, h1]; rfl
      · rw [← hall.1]; omega
    subst hn
    exact ha.own hk (hall.bI 0) ho fun a t h1 h2 => k _ t ⟨true, a, fr, rfl, hall⟩ h1 h2
  | c :: cells, xs, σ1, v, n, fr, M1, hk, ha, hall, ho, hr, k => by
    obtain ⟨x, xs, rfl⟩ : ∃ x xs', xs = x :: xs' := by
      cases xs with
      | nil => have := hr.row.1; simp at this
      | cons x xs' => exact ⟨x, xs', rfl⟩
    obtain ⟨⟨s, cap, rfl, hf, hs, hb, hlt, hne⟩, htl⟩ := hr.row.tl
    have hn0 : 0 < n := by
      rcases ha with ⟨_, h1, h2⟩ | ⟨_, _, _, _, _, h, _⟩
      · simp at h2
      · simp only [List.length_append, List.length_cons] at h; omega
    have hpos := ha.pos hn0
    obtain ⟨t0, cap0, hv0, hc0, q2, q3, q4, q5⟩ := hpos
    have hnd := hr.nd
    simp only [List.map_cons, List.nodup_cons, sid] at hnd
    refine Gh.freezeH hs hb (pis_bel _ _) fun o h1 h2 h3 => ?_
    obtain ⟨f1, f2, f3⟩ := PSl.fzr w0 hk ⟨t0, cap0, hv0, hc0, q2, q3, q4, q5⟩ (s := s) (cs := pis x) hb hne o
    rw [f3]
    have hcells : ∀ c ∈ cells, ∃ t l cap, c = .sl t 0 l cap := fun d hd => by
      obtain ⟨j, hj, rfl⟩ := List.mem_iff_getElem.1 hd
      obtain ⟨s', cap', h1, _⟩ := htl.2 j _ _ (List.getElem?_eq_getElem hj) (List.getElem?_eq_getElem (by rw [← htl.1]; exact hj))
      exact ⟨s', _, cap', h1⟩
    have e1 : sbs s o (pis x) (fr ++ .sl s 0 x.length cap :: cells) = (fr ++ [.fz true (.sl o 0 x.length cap) x.length (pis x)]) ++ cells := by
      rw [sbs_append, sbs_bel (Nat.zero_le _) (hall.bI 0)]
      simp only [sbs, sb, hf.ok, and_self, if_true]
      rw [sbs_sid hnd.1 hcells]; simp
    rw [e1] at f2
    have hfresh : o ∉ eads fr := fun hm => h2 t0 _ q2 (addrsL_app (eads_addrs hm))
    have hoc : Own σ0.top (max σ1.top (o + 1)) (.fz true (.sl o 0 x.length cap) x.length (pis x)) := (Owns.pis _ _ _).fz h1 (by omega) (by rw [eads_pis]; intro h; cases h)
    refine Gh.finRows w0 cells xs (M1 := M1 ++ [x]) (fr := fr ++ [.fz true (.sl o 0 x.length cap) x.length (pis x)]) (n := n) (f1.up (by show _ ≤ max σ1.top (o + 1); have := f1.top; show σ1.top ≤ _; omega)) (.inr ?_) (hall.snoc ⟨true, _, rfl⟩) ((ho.mono (Nat.le_refl _) (Nat.le_max_left _ _)).add hoc fun o' ho' => by rw [eads_one o' ho']; exact hfresh) ⟨?_, hnd.2⟩ fun v t g1 g2 g3 => k v t (by simpa using g1) g2 g3
    · obtain ⟨a1, a2, a3, a4, a5, a6, a7, a8⟩ := f2
      exact ⟨a1, a2, a3, a4, a5, a6, a7, a8⟩
    · refine ⟨htl.1, fun j c y hc hy => ?_⟩
      obtain ⟨s', cap', g1, g2, g3, g4, g5, g6⟩ := htl.2 j c y hc hy
      refine ⟨s', cap', g1, g2, ?_, g4, g5, g6⟩
      have hss : s' ≠ s := fun e => hnd.1 (List.mem_map.2 ⟨c, List.mem_of_getElem? hc, by rw [g1, e]; rfl⟩)
      show (((σ1.kill s).obj s').map (sbs s o (pis x))) = _
      rw [pobj_kill, if_neg hss, g3]
      simp only [Option.map_some]
      rw [sbs_bel (Nat.zero_le _) (pis_bel 0 y)]
end Go.Ab
