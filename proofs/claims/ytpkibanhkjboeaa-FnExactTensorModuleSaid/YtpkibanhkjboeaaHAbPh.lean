/- LISTS OF ROWS AND OF MATRICES THAT GROW IN SLOTS: what one step of a loop keeps. -/
import Derived.Test.YtpkibanhkjboeaaHAbPk
set_option linter.unusedVariables false
set_option linter.unusedSimpArgs false
namespace Go.Ab
variable {H hg hk h : PHeap} {K : PV × PHeap → Prop} {v : PV} {p d : Int}
/-- Rows made since hg. -/
structure RowsI (hg h : PHeap) (v : PV) (rows : List SR) : Prop where
  keep : Keep hg h
  acc : PAcc hg.next 1 h v rows.length (rows.map SR.pv)
  ok : ∀ q ∈ rows, q.ok h hg.next
  nd : (slotsR rows).Nodup
  ne : ∀ r ∈ slotsR rows, ∀ off l c, v ≠ .sl r off l c
theorem SR.ok.keep {b : Nat} {h' : PHeap} {q : SR} (a : q.ok h b) (k : Keep h h') : q.ok h' b := ⟨a.1, by rw [k.obj _ a.2.2.2]; exact a.2.1, a.2.2.1, Nat.lt_of_lt_of_le a.2.2.2 k.next⟩
theorem SM.ok.keep {b : Nat} {h' : PHeap} {m : SM} (a : m.ok h b) (k : Keep h h') : m.ok h' b := ⟨a.1, by rw [k.obj _ a.2.2.2.1]; exact a.2.1, a.2.2.1, Nat.lt_of_lt_of_le a.2.2.2.1 k.next, fun q hq => (a.2.2.2.2 q hq).keep k⟩
theorem RowsI.nil (hg : PHeap) : RowsI hg hg (.fz true .nils 0 []) [] := ⟨Keep.refl _, PAcc.nil _ _ _, fun q hq => (by cases hq), List.nodup_nil, fun r hr => (by cases hr)⟩
theorem RowsI.new (hg : PHeap) : RowsI hg (hg.new []) (.sl hg.next 0 0 (.known 0)) [] := ⟨keep_new _ _, (PSl.new _ 1 rfl (Nat.le_refl _)).acc, fun q hq => (by cases hq), List.nodup_nil, fun r hr => (by cases hr)⟩
/-- A row is appended. -/
theorem RowsI.push {rows : List SR} {t : Nat} {cap : Cap} {x : List Int} (a : RowsI hg hk v rows) (k1 : Keep hk h) (ht : hk.next ≤ t) (ht2 : t < h.next) (ho : h.obj t = some (pis x)) (hf : full 1 cap x.length) (hb : rows.length ≤ 1000)
    (k : ∀ v' h2, RowsI hg h2 v' (rows ++ [⟨t, cap, x⟩]) → Keep hg h2 → h.next < h2.next → K (v', h2)) : optK (pappend 1 24 (h.new [.sl t 0 x.length cap]) v (.sl h.next 0 1 (.known 1))) K := by
  have hkn := a.keep.next
  have hkp := a.keep.trans k1
  have vlt : ∀ u, hk.next ≤ u → ∀ off l c, v ≠ .sl u off l c := fun u hu => a.acc.ne hu
  refine PAcc.pushS (σb := hg) (bytes := 24) hkp (a.acc.keep k1) rfl (by omega) (by omega) fun v' h2 k2 a2 o2 n2 l2 => ?_
  have old : ∀ q ∈ rows, q.ok h2 hg.next ∧ q.s < hk.next := fun q hq => by
    obtain ⟨h1, h2', h3, h4⟩ := a.ok q hq
    have h5 := k1.next
    refine ⟨⟨h1, ?_, h3, by omega⟩, h4⟩
    rw [o2 _ (by omega) (a.ne _ (List.mem_map.2 ⟨q, hq, rfl⟩)), k1.obj _ h4]; exact h2'
  refine k v' h2 ⟨k2, ?_, fun q hq => ?_, ?_, fun r hr => ?_⟩ k2 l2
  · have := a2.acc
    simpa [SR.pv] using this
  · rcases List.mem_append.1 hq with hq | hq
    · exact (old q hq).1
    · rw [List.mem_singleton.1 hq]
      exact ⟨hf, by rw [o2 t ht2 (vlt t ht)]; exact ho, by show hg.next ≤ t; omega, by show t < h2.next; omega⟩
  · unfold slotsR
    rw [List.map_append, List.nodup_append]
    refine ⟨a.nd, by simp, fun y hy z hz e => ?_⟩
    obtain ⟨q, hq, rfl⟩ := List.mem_map.1 hy
    simp only [List.map_cons, List.map_nil, List.mem_singleton] at hz
    have := (old q hq).2
    omega
  · unfold slotsR at hr
    rw [List.map_append, List.mem_append] at hr
    rcases hr with hr | hr
    · obtain ⟨q, hq, rfl⟩ := List.mem_map.1 hr
      have h5 := k1.next
      have := (old q hq).2
      exact n2 _ (by omega)
    · simp only [List.map_cons, List.map_nil, List.mem_singleton] at hr
      subst hr
      exact n2 _ ht2
/-- A struct of three cells, at slot t, whose last cell is the matrices made since H. -/
structure MatsI (H h : PHeap) (t : Nat) (p d : Int) (v : PV) (ms : List SM) : Prop where
  keep : Keep H h
  obj : h.obj t = some [.int .i64 p, .int .i64 d, v]
  lt : t < h.next
  ge : H.next ≤ t
  acc : PAcc H.next 1 h v ms.length (ms.map SM.pv)
  ok : ∀ m ∈ ms, m.ok h H.next
  nd : (slotsM ms).Nodup
  ne : ∀ r ∈ slotsM ms, ∀ off l c, v ≠ .sl r off l c
  nt : ∀ off l c, v ≠ .sl t off l c
  nts : t ∉ slotsM ms
theorem mem_slotsM {r : Nat} {ms : List SM} : r ∈ slotsM ms ↔ ∃ m ∈ ms, r = m.s ∨ ∃ q ∈ m.rows, r = q.s := by
  simp only [slotsM, slotsR, List.mem_flatMap, List.mem_cons, List.mem_map]
  constructor
  · rintro ⟨m, hm, rfl | ⟨q, hq, rfl⟩⟩
    · exact ⟨m, hm, .inl rfl⟩
    · exact ⟨m, hm, .inr ⟨q, hq, rfl⟩⟩
  · rintro ⟨m, hm, rfl | ⟨q, hq, rfl⟩⟩
    · exact ⟨m, hm, .inl rfl⟩
    · exact ⟨m, hm, .inr ⟨q, hq, rfl⟩⟩
theorem slotsM_lt {b r : Nat} {ms : List SM} (hok : ∀ m ∈ ms, m.ok h b) (hr : r ∈ slotsM ms) : b ≤ r ∧ r < h.next := by
  obtain ⟨m, hm, rfl | ⟨q, hq, rfl⟩⟩ := mem_slotsM.1 hr
  · exact ⟨(hok m hm).2.2.1, (hok m hm).2.2.2.1⟩
  · have := (hok m hm).2.2.2.2 q hq
    exact ⟨this.2.2.1, this.2.2.2⟩
theorem SM.ok.mono {b : Nat} {h2 : PHeap} {m : SM} (a : m.ok h b) (hn : h.next ≤ h2.next) (ho : ∀ r ∈ m.s :: slotsR m.rows, h2.obj r = h.obj r) : m.ok h2 b := by
  obtain ⟨h1, h3, h4, h5, h6⟩ := a
  refine ⟨h1, by rw [ho _ (List.mem_cons_self ..)]; exact h3, h4, by omega, fun q hq => ?_⟩
  obtain ⟨g1, g2, g3, g4⟩ := h6 q hq
  exact ⟨g1, by rw [ho _ (List.mem_cons_of_mem _ (List.mem_map.2 ⟨q, hq, rfl⟩))]; exact g2, g3, by omega⟩
/-- A matrix is appended and written back. -/
theorem MatsI.push {t : Nat} {ms : List SM} {rows : List SR} {vR : PV} (a : MatsI H hg t p d v ms) (r : RowsI hg h vR rows) (hpos : 0 < rows.length) (hb : ms.length ≤ 1000)
    (k : ∀ v' h2 ms', v'.one = true → v'.cells = [v'] → h2.wr t 2 [v'] = some (h2.set t [.int .i64 p, .int .i64 d, v']) → MatsI H (h2.set t [.int .i64 p, .int .i64 d, v']) t p d v' ms' → ms'.map SM.val = ms.map SM.val ++ [rows.map SR.x] → ms'.length = ms.length + 1 → K (v', h2)) :
    optK (pappend 1 24 (h.new [vR]) v (.sl h.next 0 1 (.known 1))) K := by
  obtain ⟨s, cap, rfl, hf, q2, q3, q4, q5⟩ := r.acc.pos hpos
  have hgn := r.keep.next
  have hlt := a.lt
  have hge := a.ge
  have hkp := a.keep.trans r.keep
  have vlt : ∀ u, hg.next ≤ u → ∀ off l c, v ≠ .sl u off l c := fun u hu => a.acc.ne hu
  refine PAcc.pushS (σb := H) (bytes := 24) hkp (a.acc.keep r.keep) rfl (by omega) (by omega) fun v' h2 k2 a2 o2 n2 l2 => ?_
  have hob : h2.obj t = some [.int .i64 p, .int .i64 d, v] := by rw [o2 _ (by omega) a.nt, r.keep.obj _ a.lt]; exact a.obj
  have hone := a2.one
  have hcell := a2.cells
  have old : ∀ m ∈ ms, m.ok h2 H.next := fun m hm => ((a.ok m hm).keep r.keep).mono (by omega) fun u hu => by
    have hu' : u ∈ slotsM ms := mem_slotsM.2 ⟨m, hm, by
      rcases List.mem_cons.1 hu with h | h
      · exact .inl h
      · obtain ⟨q, hq, rfl⟩ := List.mem_map.1 h; exact .inr ⟨q, hq, rfl⟩⟩
    have := slotsM_lt a.ok hu'
    exact o2 _ (by omega) (a.ne u hu')
  have new : SM.ok h2 H.next ⟨s, cap, rows⟩ := by
    refine ⟨hf, by rw [o2 s q5 (vlt s q4)]; exact q2, by show H.next ≤ s; omega, by show s < h2.next; omega, fun q hq => ?_⟩
    obtain ⟨g1, g2, g3, g4⟩ := r.ok q hq
    exact ⟨g1, by rw [o2 q.s g4 (vlt _ g3)]; exact g2, by omega, by omega⟩
  have hsl : slotsM (ms ++ [⟨s, cap, rows⟩]) = slotsM ms ++ s :: slotsR rows := by simp [slotsM]
  have ntn : t ∉ slotsM (ms ++ [⟨s, cap, rows⟩]) := fun hm => by
    rw [hsl, List.mem_append] at hm
    rcases hm with hm | hm
    · exact a.nts hm
    · rcases List.mem_cons.1 hm with h | h
      · omega
      · obtain ⟨q, hq, h⟩ := List.mem_map.1 h
        have := (r.ok q hq).2.2.1
        omega
  have allok : ∀ m ∈ ms ++ [⟨s, cap, rows⟩], m.ok (h2.set t [.int .i64 p, .int .i64 d, v']) H.next := fun m hm => by
    have h0 : m.ok h2 H.next := by
      rcases List.mem_append.1 hm with hm | hm
      · exact old m hm
      · rw [List.mem_singleton.1 hm]; exact new
    refine h0.mono (Nat.le_refl _) fun u hu => ?_
    have : u ≠ t := fun e => ntn (mem_slotsM.2 ⟨m, hm, by
      rw [← e]
      rcases List.mem_cons.1 hu with h | h
      · exact .inl h
      · obtain ⟨q, hq, rfl⟩ := List.mem_map.1 h; exact .inr ⟨q, hq, rfl⟩⟩)
    rw [pobj_set, if_neg this]
  refine k v' h2 (ms ++ [⟨s, cap, rows⟩]) hone hcell ?_ ⟨k2.set hge _, by rw [pobj_set, if_pos rfl], by show t < h2.next; omega, hge, ?_, allok, ?_, fun u hu => ?_, n2 t (by omega), ntn⟩ (by simp [SM.val]) (by simp)
  · rw [obj_wr hob, if_pos ⟨by simp, by simp [hone]⟩]; rfl
  · have a3 : PSl H.next 1 (h2.set t [.int .i64 p, .int .i64 d, v']) v' (ms.length + 1) (ms.map SM.pv ++ [.sl s 0 rows.length cap]) := by
      obtain ⟨s3, cap3, rfl, b1, b2, b3, b4, b5⟩ := a2
      refine ⟨s3, cap3, rfl, b1, ?_, b3, b4, b5⟩
      rw [pobj_set, if_neg fun e => n2 t (by omega) 0 _ cap3 (by rw [e])]
      exact b2
    have := a3.acc
    simpa [SM.pv] using this
  · rw [hsl, List.nodup_append]
    refine ⟨a.nd, List.nodup_cons.2 ⟨fun hm => ?_, r.nd⟩, fun y hy z hz e => ?_⟩
    · exact r.ne s hm 0 _ cap rfl
    · have h1 := slotsM_lt a.ok hy
      rcases List.mem_cons.1 hz with h | h
      · omega
      · obtain ⟨q, hq, rfl⟩ := List.mem_map.1 h
        have := (r.ok q hq).2.2.1
        omega
  · rw [hsl, List.mem_append] at hu
    rcases hu with hu | hu
    · have h1 := slotsM_lt a.ok hu
      exact n2 u (by omega)
    · rcases List.mem_cons.1 hu with h | h
      · rw [h]; exact n2 s q5
      · obtain ⟨q, hq, rfl⟩ := List.mem_map.1 h
        exact n2 _ (r.ok q hq).2.2.2
theorem Gh.tagg3 {σ0 σ1 : PHeap} {K : PV → PHeap → Prop} {c : Int} {v : PV} (g : Gh σ0 (fun v σ => K (.tup [.agg [.int .i64 p, .int .i64 d, v], .int .i64 c]) σ) v σ1) : Gh σ0 K (.tup [.agg [.int .i64 p, .int .i64 d, v], .int .i64 c]) σ1 := by
  intro w ι Z h b r hv h1 h2 h3 h4
  obtain ⟨⟨_, _, hv', _⟩, _, _⟩ := hv
  obtain ⟨v2, σ2, ι2, Z2, g1, g2, g3, g4, g5, g6, g7, g8, g9⟩ := g w ι Z h b r hv' h1 h2 h3 h4
  exact ⟨.tup [.agg [.int .i64 p, .int .i64 d, v2], .int .i64 c], σ2, ι2, Z2, g1, ⟨⟨trivial, trivial, g2, trivial⟩, trivial, trivial⟩, g3, g4, g5, g6, g7, by simp only [er, ers, g8], g9⟩
theorem SM.ok.low {b b' : Nat} {m : SM} (a : m.ok h b) (hb : b' ≤ b) : m.ok h b' := ⟨a.1, a.2.1, Nat.le_trans hb a.2.2.1, a.2.2.2.1, fun q hq => ⟨(a.2.2.2.2 q hq).1, (a.2.2.2.2 q hq).2.1, Nat.le_trans hb (a.2.2.2.2 q hq).2.2.1, (a.2.2.2.2 q hq).2.2.2⟩⟩
end Go.Ab
