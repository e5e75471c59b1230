/- MATRICES IN SLOTS OF THEIR OWN: rows in slots, named in slots of matrices, named in one slot; all are frozen at a function's end, all new. -/
import Derived.Test.YtpkibanhkjboeaaHAbPj
set_option linter.unusedVariables false
set_option linter.unusedSimpArgs false
namespace Go.Ab
variable {σ0 σ1 σ2 : PHeap} {K : PV → PHeap → Prop} {n lo hi : Nat}
/-- A row's slot, room and numbers. -/
structure SR where
  s : Nat
  cap : Cap
  x : List Int
/-- A matrix's slot, room and rows. -/
structure SM where
  s : Nat
  cap : Cap
  rows : List SR
def SR.pv (q : SR) : PV := .sl q.s 0 q.x.length q.cap
def SM.pv (m : SM) : PV := .sl m.s 0 m.rows.length m.cap
def SM.val (m : SM) : List (List Int) := m.rows.map SR.x
def SR.ok (σ : PHeap) (b : Nat) (q : SR) : Prop := full 1 q.cap q.x.length ∧ σ.obj q.s = some (pis q.x) ∧ b ≤ q.s ∧ q.s < σ.next
def SM.ok (σ : PHeap) (b : Nat) (m : SM) : Prop := full 1 m.cap m.rows.length ∧ σ.obj m.s = some (m.rows.map SR.pv) ∧ b ≤ m.s ∧ m.s < σ.next ∧ ∀ q ∈ m.rows, q.ok σ b
/-- All slots. -/
def slotsR (rows : List SR) : List Nat := rows.map SR.s
def slotsM (ms : List SM) : List Nat := ms.flatMap fun m => m.s :: slotsR m.rows
theorem sbs_rows {r o : Nat} {cs : List PV} {rows : List SR} (h : r ∉ slotsR rows) : sbs r o cs (rows.map SR.pv) = rows.map SR.pv :=
  sbs_sid (by rw [List.map_map]; exact h) fun c hc => by obtain ⟨q, _, rfl⟩ := List.mem_map.1 hc; exact ⟨_, _, _, rfl⟩
theorem sbs_mats {r o : Nat} {cs : List PV} {ms : List SM} (h : r ∉ slotsM ms) : sbs r o cs (ms.map SM.pv) = ms.map SM.pv :=
  sbs_sid (by
    rw [List.map_map]
    intro hm
    obtain ⟨m, h1, h2⟩ := List.mem_map.1 hm
    exact h (List.mem_flatMap.2 ⟨m, h1, by rw [← h2]; exact List.mem_cons_self ..⟩)) fun c hc => by obtain ⟨q, _, rfl⟩ := List.mem_map.1 hc; exact ⟨_, _, _, rfl⟩
theorem fr_obj {σ : PHeap} {r o t u : Nat} {cs ds : List PV} (hne : t ≠ r) (ho : σ.obj t = some ds) : (((σ.kill r).sub r o cs).up u).obj t = some (sbs r o cs ds) := by
  show (((σ.kill r).obj t).map (sbs r o cs)) = _
  rw [pobj_kill, if_neg hne, ho]; rfl
theorem SR.ok.fr {σ : PHeap} {b r o u : Nat} {cs : List PV} {q : SR} (h : q.ok σ b) (hn : r ≠ q.s) : q.ok (((σ.kill r).sub r o cs).up u) b := by
  obtain ⟨h1, h2, h3, h4⟩ := h
  exact ⟨h1, by rw [fr_obj (Ne.symm hn) h2, sbs_bel (Nat.zero_le _) (pis_bel 0 _)], h3, h4⟩
theorem SM.ok.fr {σ : PHeap} {b r o u : Nat} {cs : List PV} {m : SM} (h : m.ok σ b) (hn : r ∉ m.s :: slotsR m.rows) : m.ok (((σ.kill r).sub r o cs).up u) b := by
  obtain ⟨h1, h2, h3, h4, h5⟩ := h
  simp only [List.mem_cons, not_or] at hn
  exact ⟨h1, by rw [fr_obj (Ne.symm hn.1) h2, sbs_rows hn.2], h3, h4, fun q hq => (h5 q hq).fr fun e => hn.2 (List.mem_map.2 ⟨q, hq, e.symm⟩)⟩
theorem Owns.right {a b : List PV} (h : Owns lo hi (a ++ b)) : Owns lo hi b := by
  have hn := h.nd
  rw [eads_append, List.nodup_append] at hn
  exact ⟨Whs_iff.2 fun x hx => Whs_iff.1 h.wh x (List.mem_append.2 (.inr hx)), hn.2.1, fun o ho => h.lt o (by rw [eads_append]; exact List.mem_append.2 (.inr ho))⟩
theorem Owns.left {a b : List PV} (h : Owns lo hi (a ++ b)) : Owns lo hi a := by
  have hn := h.nd
  rw [eads_append, List.nodup_append] at hn
  exact ⟨Whs_iff.2 fun x hx => Whs_iff.1 h.wh x (List.mem_append.2 (.inl hx)), hn.1, fun o ho => h.lt o (by rw [eads_append]; exact List.mem_append.2 (.inl ho))⟩
/-- The rows of one matrix are frozen. oc: what the outer slot t0 holds. -/
theorem Gh.rowsIn (w0 : PWF σ0) {w : PV} {t0 s : Nat} {FR : List PV} {oc : List PV} {ms : List SM} (hs0 : σ0.next ≤ s) (ht0 : σ0.next ≤ t0) (hts : t0 ≠ s) : ∀ (rows : List SR) {σ1 : PHeap} {fr : List PV} {M1 : List (List Int)}, Keep σ0 σ1 → σ1.obj s = some (fr ++ rows.map SR.pv) → σ1.obj t0 = some (FR ++ oc) →
    (∀ q ∈ rows, q.ok σ1 σ0.next) → (∀ m ∈ ms, m.ok σ1 σ0.next) → (slotsR rows).Nodup → (∀ r ∈ slotsR rows, r ≠ s ∧ r ≠ t0 ∧ r ∉ slotsM ms ∧ (∀ o cs, sb r o cs w = w) ∧ (∀ o cs, sbs r o cs oc = oc)) →
    All2 FI fr M1 → Bels 0 FR → Owns σ0.top σ1.top (FR ++ fr) →
    (∀ σ2 fr2, Keep σ0 σ2 → σ2.next = σ1.next → σ2.obj s = some fr2 → σ2.obj t0 = some (FR ++ oc) → (∀ m ∈ ms, m.ok σ2 σ0.next) → All2 FI fr2 (M1 ++ rows.map SR.x) → Owns σ0.top σ2.top (FR ++ fr2) → Gh σ0 K w σ2) → Gh σ0 K w σ1
  | [], σ1, fr, M1, hk, hs, ht, hq, hm, hnd, hne, hall, hF, ho, k => by
    refine k σ1 fr hk rfl (by simpa using hs) ht hm (by simpa using hall) ho
  | q :: rows, σ1, fr, M1, hk, hs, ht, hq, hm, hnd, hne, hall, hF, ho, k => by
    obtain ⟨h1, h2, h3, h4⟩ := hq q (List.mem_cons_self ..)
    obtain ⟨n1, n2, n3, n4, n5⟩ := hne q.s (List.mem_cons_self ..)
    simp only [slotsR, List.map_cons, List.nodup_cons] at hnd
    refine Gh.freezeH h2 h3 (pis_bel _ _) fun o g1 g2 g3 => ?_
    rw [n4]
    have es : sbs q.s o (pis q.x) (fr ++ (q :: rows).map SR.pv) = (fr ++ [.fz true (.sl o 0 q.x.length q.cap) q.x.length (pis q.x)]) ++ rows.map SR.pv := by
      rw [sbs_append, sbs_bel (Nat.zero_le _) (hall.bI 0), List.map_cons]
      simp only [sbs, SR.pv, sb, h1.ok, and_self, if_true]
      rw [sbs_rows hnd.1]; simp
    have et : sbs q.s o (pis q.x) (FR ++ oc) = FR ++ oc := by rw [sbs_append, sbs_bel (Nat.zero_le _) hF, n5]
    have hfr : o ∉ eads (FR ++ fr) := fun h => by
      rw [eads_append, List.mem_append] at h
      rcases h with h | h
      · exact g2 t0 _ ht (addrsL_app (eads_addrs h))
      · exact g2 s _ hs (addrsL_app (eads_addrs h))
    have hoc : Own σ0.top (max σ1.top (o + 1)) (.fz true (.sl o 0 q.x.length q.cap) q.x.length (pis q.x)) := (Owns.pis _ _ _).fz g1 (by omega) (by rw [eads_pis]; intro h; cases h)
    refine Gh.rowsIn w0 hs0 ht0 hts rows (M1 := M1 ++ [q.x]) (fr := fr ++ [.fz true (.sl o 0 q.x.length q.cap) q.x.length (pis q.x)]) (((hk.kill h3).sub w0 h3).up (by show σ1.top ≤ _; omega)) ?_ ?_ ?_ ?_ hnd.2 (fun r hr => hne r (List.mem_cons_of_mem _ hr)) (hall.snoc ⟨true, _, rfl⟩) hF ?_ ?_
    · rw [fr_obj (Ne.symm n1) hs, es]
    · rw [fr_obj (Ne.symm n2) ht, et]
    · exact fun q' hq' => (hq q' (List.mem_cons_of_mem _ hq')).fr fun e => hnd.1 (List.mem_map.2 ⟨q', hq', e.symm⟩)
    · exact fun m hm' => (hm m hm').fr fun h => n3 (List.mem_flatMap.2 ⟨m, hm', h⟩)
    · rw [← List.append_assoc]
      exact (ho.mono (Nat.le_refl _) (Nat.le_max_left _ _)).add hoc fun o' ho' => by rw [eads_one o' ho']; exact hfr
    · intro σ2 fr2 a1 a2 a3 a4 a5 a6 a7
      exact k σ2 fr2 a1 a2 a3 a4 a5 (by simpa using a6) a7
theorem sb_ne {r o t l off : Nat} {cap : Cap} {cs : List PV} (h : t ≠ r) : sb r o cs (.sl t off l cap) = .sl t off l cap := by
  simp only [sb]
  rw [if_neg fun e => h e.1]
/-- The matrices are frozen one by one, then what holds them. -/
theorem Gh.finMats (w0 : PWF σ0) : ∀ (ms : List SM) {σ1 : PHeap} {v : PV} {n : Nat} {FR : List PV} {N1 : List (List (List Int))}, Keep σ0 σ1 → PAcc σ0.next 1 σ1 v n (FR ++ ms.map SM.pv) → All2 FII FR N1 → Owns σ0.top σ1.top FR → (∀ m ∈ ms, m.ok σ1 σ0.next) → (slotsM ms).Nodup → (∀ r ∈ slotsM ms, ∀ off l c, v ≠ .sl r off l c) →
    (∀ v t, FIII v (N1 ++ ms.map SM.val) → Own σ0.top t v → σ0.top ≤ t → K v (σ0.up t)) → Gh σ0 K v σ1
  | [], σ1, v, n, FR, N1, hk, ha, hall, ho, hm, hnd, hne, k => by
    simp only [List.map_nil, List.append_nil] at ha k
    have hn : n = N1.length := by
      rcases ha with ⟨_, h1, h2⟩ | ⟨s, cap, _, _, _, h, _⟩
      · rw [← hall.1, h2, h1]; rfl
      · rw [← hall.1]; omega
    subst hn
    exact ha.own hk (hall.bL 0) ho fun a t h1 h2 => k _ t ⟨true, a, FR, rfl, hall⟩ h1 h2
  | m :: ms, σ1, v, n, FR, N1, hk, ha, hall, ho, hm, hnd, hne, k => by
    have hn0 : 0 < n := by
      rcases ha with ⟨_, h1, h2⟩ | ⟨_, _, _, _, _, h, _⟩
      · simp at h2
      · simp only [List.length_append, List.length_map, List.length_cons] at h; omega
    obtain ⟨t0, cap0, rfl, hc0, q2, q3, q4, q5⟩ := ha.pos hn0
    obtain ⟨m1, m2, m3, m4, m5⟩ := hm m (List.mem_cons_self ..)
    simp only [slotsM, List.flatMap_cons, List.cons_append, List.nodup_cons, List.nodup_append] at hnd
    obtain ⟨d1, d2, d3, d4⟩ := hnd
    simp only [List.mem_append, not_or] at d1
    have vne : ∀ r ∈ slotsM (m :: ms), t0 ≠ r := fun r hr e => hne r hr 0 n cap0 (by rw [e])
    have hms : ∀ r, r ∈ slotsM ms → r ∈ slotsM (m :: ms) := fun r hr => by
      simp only [slotsM, List.flatMap_cons, List.mem_append]; exact .inr hr
    have hself : m.s ∈ slotsM (m :: ms) := by simp [slotsM]
    have hrow : ∀ r ∈ slotsR m.rows, r ∈ slotsM (m :: ms) := fun r hr => by
      simp only [slotsM, List.flatMap_cons, List.cons_append, List.mem_cons, List.mem_append]; exact .inr (.inl hr)
    have hoc : ∀ r, r ≠ m.s → r ∉ slotsM ms → ∀ o cs, sbs r o cs (m.pv :: ms.map SM.pv) = m.pv :: ms.map SM.pv := fun r h1 h2 o cs => by
      simp only [sbs]
      rw [sbs_mats h2]
      unfold SM.pv
      rw [sb_ne (Ne.symm h1)]
    refine Gh.rowsIn w0 (FR := FR) (oc := m.pv :: ms.map SM.pv) (ms := ms) m3 q4 (vne _ hself) m.rows (fr := []) (M1 := []) hk (by simpa using m2) (by simpa using q2) m5 (fun m' hm' => hm m' (List.mem_cons_of_mem _ hm')) d2 (fun r hr => ?_) (All2.nil _) (hall.bL 0) (by simpa using ho) fun σ2 fr2 a1 a2 a3 a4 a5 a6 a7 => ?_
    · have e1 : r ≠ m.s := fun e => d1.1 (e ▸ hr)
      have e2 : r ∉ slotsM ms := fun h => d4 r hr r h rfl
      exact ⟨e1, Ne.symm (vne r (hrow r hr)), e2, fun o cs => sb_ne (vne r (hrow r hr)), hoc r e1 e2⟩
    rw [List.nil_append] at a6
    refine Gh.freezeH a3 m3 (a6.bI 0) fun o g1 g2 g3 => ?_
    rw [sb_ne (vne _ hself)]
    have et : sbs m.s o fr2 (FR ++ m.pv :: ms.map SM.pv) = (FR ++ [.fz true (.sl o 0 m.rows.length m.cap) m.rows.length fr2]) ++ ms.map SM.pv := by
      rw [sbs_append, sbs_bel (Nat.zero_le _) (hall.bL 0)]
      simp only [sbs, SM.pv, sb, m1.ok, and_self, if_true]
      rw [sbs_mats d1.2]; simp
    have hFF : o ∉ eads FR := fun h => g2 t0 _ a4 (addrsL_app (eads_addrs h))
    have hf2 : o ∉ eads fr2 := fun h => g2 m.s _ a3 (eads_addrs h)
    have hown2 : Own σ0.top (max σ2.top (o + 1)) (.fz true (.sl o 0 m.rows.length m.cap) m.rows.length fr2) := ((a7.right).mono (Nat.le_refl _) (Nat.le_max_left _ _)).fz g1 (by omega) hf2
    have hlen : m.rows.length = (m.rows.map SR.x).length := by rw [List.length_map]
    refine Gh.finMats w0 ms (n := n) (FR := FR ++ [.fz true (.sl o 0 m.rows.length m.cap) m.rows.length fr2]) (N1 := N1 ++ [m.val]) (((a1.kill m3).sub w0 m3).up (by show σ2.top ≤ _; omega)) (.inr ⟨t0, cap0, rfl, hc0, ?_, ?_, q4, ?_⟩) (hall.snoc ⟨true, _, fr2, by unfold SM.val; rw [← hlen], a6⟩) ?_ (fun m' hm' => (a5 m' hm').fr fun h => d1.2 (List.mem_flatMap.2 ⟨m', hm', h⟩)) d3 (fun r hr => hne r (hms r hr)) fun v t g1 g2 g3 => k v t (by simpa using g1) g2 g3
    · rw [fr_obj (vne _ hself) a4, et]
    · simp only [List.length_append, List.length_map, List.length_cons, List.length_nil] at q3 ⊢; omega
    · show t0 < σ2.next; omega
    · refine (a7.left.mono (Nat.le_refl _) (Nat.le_max_left _ _)).add hown2 fun o' ho' => ?_
      have hdis := a7.nd
      rw [eads_append, List.nodup_append] at hdis
      by_cases hne2 : fr2 = []
      · subst hne2; cases ho'
      · rw [ead_fz hne2, List.mem_cons] at ho'
        rcases ho' with rfl | ho'
        · exact hFF
        · exact fun h => hdis.2.2 _ h _ ho' rfl
end Go.Ab
