/-
  SLICES OF SLICES that a call makes: rows each in memory of its own, and the slice that they are appended to.
-/
import Derived.Test.YthgccplmmogcnaaCAbAid
set_option linter.unusedVariables false
set_option linter.unusedSimpArgs false
namespace Go.Ab
variable {h h' h0 h1 h2 : AHeap} {α : Type} {R : AHeap → AV → α → List Nat → Prop}

/-- What is one's own stays so where its objects stay. -/
def Framed (R : AHeap → AV → α → List Nat → Prop) : Prop := ∀ (h h' : AHeap) (v : AV) (x : α) (fp : List Nat), R h v x fp → (∀ o ∈ fp, h'.obj o = h.obj o) → R h' v x fp

theorem framedI : Framed OwnI := fun _ _ _ _ _ k => OwnI.frame k
theorem framedII : Framed OwnII := fun _ _ _ _ _ k => OwnII.frame k
theorem framedL (hR : Framed R) : Framed (OwnL R) := fun _ _ _ _ _ k => OwnL.frame (fun j => hR _ _ _ _ _ j) k

/-- RowsOf, each its own, none older than lo. -/
structure RowsOf (R : AHeap → AV → α → List Nat → Prop) (lo : Nat) (h : AHeap) (us : List AV) (fps : List (List Nat)) (xs : List α) : Prop where
  len : us.length = fps.length
  own : All2 (fun vf x => R h vf.1 x vf.2) (us.zip fps) xs
  nodup : fps.flatten.Nodup
  lo : ∀ o ∈ fps.flatten, lo ≤ o ∧ o < h.next

theorem RowsOf.nil (lo : Nat) (h : AHeap) : RowsOf R lo h [] [] [] := ⟨rfl, .nil _, by simp, by simp⟩

theorem RowsOf.len2 {lo : Nat} {us : List AV} {fps : List (List Nat)} {xs : List α} (r : RowsOf R lo h us fps xs) : us.length = xs.length := by
  have := r.own.1
  have := r.len
  simp at *
  omega

theorem RowsOf.frame (hR : Framed R) {lo : Nat} {us : List AV} {fps : List (List Nat)} {xs : List α} (r : RowsOf R lo h us fps xs) (hobj : ∀ o ∈ fps.flatten, h'.obj o = h.obj o) (hn : h.next ≤ h'.next) : RowsOf R lo h' us fps xs := by
  refine ⟨r.len, ⟨r.own.1, fun k a b ha hb => hR _ _ _ _ _ (r.own.2 k a b ha hb) fun o ho => hobj o ?_⟩, r.nodup, fun o ho => ⟨(r.lo o ho).1, Nat.lt_of_lt_of_le (r.lo o ho).2 hn⟩⟩
  exact List.mem_flatten.2 ⟨a.2, (List.of_mem_zip (List.mem_of_getElem? ha)).2, ho⟩

theorem RowsOf.snoc {lo : Nat} {us : List AV} {fps : List (List Nat)} {xs : List α} (r : RowsOf R lo h us fps xs) {u : AV} {x : α} {fp : List Nat} (hu : R h u x fp) (hnd : fp.Nodup) (hlo : ∀ o ∈ fp, lo ≤ o ∧ o < h.next) (hdis : ∀ o ∈ fp, o ∉ fps.flatten) :
    RowsOf R lo h (us ++ [u]) (fps ++ [fp]) (xs ++ [x]) := by
  refine ⟨by simp [r.len], ?_, ?_, ?_⟩
  · rw [List.zip_append r.len]
    exact r.own.snoc hu
  · rw [List.flatten_append, List.nodup_append]
    refine ⟨r.nodup, by simpa using hnd, fun a ha b hb e => ?_⟩
    simp at hb
    subst e
    exact hdis a hb ha
  · intro o ho
    rw [List.flatten_append, List.mem_append] at ho
    rcases ho with ho | ho
    · exact r.lo o ho
    · simp at ho; exact hlo o ho

/-- A slice of rows that grows by append, in a call that began with the heap h0; pr: objects that are not among its own. -/
def AR (R : AHeap → AV → α → List Nat → Prop) (h0 : AHeap) (pr : List Nat) (h : AHeap) (v : AV) (xs : List α) : Prop :=
  ∃ us ow fps, Acc h v us ow ∧ RowsOf R h0.next h us fps xs ∧ (∀ o ∈ ow, h0.next ≤ o ∧ o < h.next ∧ o ∉ fps.flatten) ∧ (∀ o ∈ pr, o < h.next ∧ o ∉ ow ∧ o ∉ fps.flatten) ∧ Ext h0 h

theorem AR.ext {pr : List Nat} {v : AV} {xs : List α} (a : AR R h0 pr h v xs) : Ext h0 h := by obtain ⟨_, _, _, _, _, _, _, h⟩ := a; exact h
theorem AR.len {pr : List Nat} {v : AV} {xs : List α} (a : AR R h0 pr h v xs) : aLen v = some (.int .i64 xs.length) := by
  obtain ⟨us, ow, fps, ha, hr, _⟩ := a
  rw [ha.len, hr.len2]
theorem AR.pr {pr : List Nat} {v : AV} {xs : List α} (a : AR R h0 pr h v xs) : ∀ o ∈ pr, o < h.next := by
  obtain ⟨_, _, _, _, _, _, h, _⟩ := a; exact fun o ho => (h o ho).1

theorem AR.nil {pr : List Nat} (hx : Ext h0 h) (hpr : ∀ o ∈ pr, o < h.next) : AR R h0 pr h .nils [] :=
  ⟨[], [], [], Acc.nil h, RowsOf.nil _ _, by simp, fun o ho => ⟨hpr o ho, by simp, by simp⟩, hx⟩
theorem AR.empty {pr : List Nat} (hx : Ext h0 h) (hpr : ∀ o ∈ pr, o < h.next) : AR R h0 pr (h.new ⟨true, []⟩) (.sl h.next 0 0 (.known 0)) [] :=
  ⟨[], [h.next], [], Acc.empty (new_obj_eq _), RowsOf.nil _ _, fun o ho => by simp at ho; subst ho; exact ⟨hx.next, by simp [new_next], by simp⟩,
    fun o ho => ⟨by have := hpr o ho; simp only [new_next]; omega, by simp; have := hpr o ho; omega, by simp⟩, hx.trans (Ext.new hx.wf _)⟩

/-- A change elsewhere. -/
theorem AR.other (hR : Framed R) {pr : List Nat} {v : AV} {xs : List α} (a : AR R h0 pr h v xs) (hx : Ext h h') : AR R h0 pr h' v xs := by
  obtain ⟨us, ow, fps, ha, hr, how, hpr, he⟩ := a
  exact ⟨us, ow, fps, ha.frame fun o ho => hx.obj o (how o ho).2.1, hr.frame hR (fun o ho => hx.obj o (hr.lo o ho).2) hx.next, fun o ho => ⟨(how o ho).1, hx.lt (how o ho).2.1, (how o ho).2.2⟩,
    fun o ho => ⟨hx.lt (hpr o ho).1, (hpr o ho).2⟩, he.trans hx⟩
theorem AR.set (hR : Framed R) {pr : List Nat} {v : AV} {xs : List α} (a : AR R h0 pr h v xs) {o : Nat} (ho : o ∈ pr) (hlo : h0.next ≤ o) (cs : List AV) : AR R h0 pr (h.set o cs) v xs := by
  obtain ⟨us, ow, fps, ha, hr, how, hpr, he⟩ := a
  have h1 := hpr o ho
  exact ⟨us, ow, fps, ha.frame fun x hx => set_obj_ne (fun (e : x = o) => h1.2.1 (e ▸ hx)) _, hr.frame hR (fun x hx => set_obj_ne (fun (e : x = o) => h1.2.2 (e ▸ hx)) _) (Nat.le_refl _), how, hpr, he.set hlo h1.1 cs⟩
theorem AR.protect {pr : List Nat} {v : AV} {xs : List α} (a : AR R h0 pr h v xs) (hR : Framed R) (ob : AObj) : AR R h0 (h.next :: pr) (h.new ob) v xs := by
  obtain ⟨us, ow, fps, h1, h2, h3, h4, h5⟩ := a.other hR (Ext.new a.ext.wf ob)
  obtain ⟨us', ow', fps', g1, g2, g3, g4, g5⟩ := a
  refine ⟨us', ow', fps', g1.frame fun o ho => new_obj_ne (by have := (g3 o ho).2.1; omega) _, g2.frame hR (fun o ho => new_obj_ne (by have := (g2.lo o ho).2; omega) _) (by simp [new_next]),
    fun o ho => ⟨(g3 o ho).1, by have := (g3 o ho).2.1; simp only [new_next]; omega, (g3 o ho).2.2⟩, fun o ho => ?_, h5⟩
  rcases List.mem_cons.1 ho with rfl | ho
  · exact ⟨by simp [new_next], fun hm => by have := (g3 _ hm).2.1; omega, fun hm => by have := (g2.lo _ hm).2; omega⟩
  · exact ⟨by have := (g4 o ho).1; simp only [new_next]; omega, (g4 o ho).2⟩

theorem AR.push (hR : Framed R) {pr : List Nat} {v : AV} {xs : List α} (a : AR R h0 pr h1 v xs) (hx : Ext h1 h2) {u : AV} {x : α} {fp : List Nat} (hu : R h2 u x fp) (hnd : fp.Nodup) (hlo : ∀ o ∈ fp, h1.next ≤ o ∧ o < h2.next) (hone : u.one = true)
    {bytes : Nat} (hb : (xs.length + 1) * bytes ≤ 140737488355328) (h63 : xs.length + 1 ≤ 4611686018427387904) {K : AV × AHeap → Prop}
    (hK : ∀ v' h', AR R h0 pr h' v' (xs ++ [x]) → (∀ o ∈ pr, h'.obj o = h2.obj o) → h2.next ≤ h'.next → K (v', h')) :
    optK (aappend 1 bytes (h2.new ⟨true, [u]⟩) v (.sl h2.next 0 1 (.known 1))) K := by
  have a' := a
  obtain ⟨us, ow, fps, ha, hr, how, hpr, he⟩ := a
  have hfr : ∀ o ∈ fps.flatten, h2.obj o = h1.obj o := fun o ho => hx.obj o (hr.lo o ho).2
  have ha2 : Acc h2 v us ow := ha.frame fun o ho => hx.obj o (how o ho).2.1
  have hr2 := (hr.frame hR hfr hx.next).snoc hu hnd (fun o ho => ⟨Nat.le_trans he.next (hlo o ho).1, (hlo o ho).2⟩) (fun o ho hm => by have := (hr.lo o hm).2; have := (hlo o ho).1; omega)
  have hul := hr.len2
  refine ha2.push hx.wf hone (by rw [hul]; exact hb) (by rw [hul]; exact h63) ?_
  intro v' h' ow' hacc hg
  have hd : ∀ o ∈ (fps ++ [fp]).flatten, o < h2.next ∧ o ∉ ow := by
    intro o ho
    rw [List.flatten_append, List.mem_append] at ho
    rcases ho with ho | ho
    · exact ⟨hx.lt (hr.lo o ho).2, fun hm => (how o hm).2.2 ho⟩
    · simp at ho
      exact ⟨(hlo o ho).2, fun hm => by have := (how o hm).2.1; have := (hlo o ho).1; omega⟩
  refine hK v' h' ⟨us ++ [u], ow', fps ++ [fp], hacc, hr2.frame hR (fun o ho => hg.obj o (hd o ho).1 (hd o ho).2) hg.next, fun o ho => ⟨Nat.le_trans (Nat.le_trans he.next hx.next) (hg.new o ho).1, (hg.new o ho).2, fun hm => ?_⟩,
    fun o ho => ⟨Nat.lt_of_lt_of_le (hx.lt (hpr o ho).1) hg.next, fun hm => ?_, fun hm => ?_⟩, ?_⟩ (fun o ho => hg.obj o (hx.lt (hpr o ho).1) (hpr o ho).2.1) hg.next
  · have := (hd o hm).1; have := (hg.new o ho).1; omega
  · have := (hg.new o hm).1; have := hx.lt (hpr o ho).1; omega
  · rw [List.flatten_append, List.mem_append] at hm
    rcases hm with hm | hm
    · exact (hpr o ho).2.2 hm
    · simp at hm; have := (hlo o hm).1; have := (hpr o ho).1; omega
  · exact Grew.ext (he.trans hx) hg fun o ho => (how o ho).1

theorem AR.done {pr : List Nat} {v : AV} {xs : List α} (a : AR R h0 pr h v xs) : ∃ fp, OwnL R h v xs fp ∧ fp.Nodup ∧ (∀ o ∈ fp, h0.next ≤ o ∧ o < h.next) ∧ ∀ o ∈ pr, o ∉ fp := by
  obtain ⟨us, ow, fps, ha, hr, how, hpr, he⟩ := a
  refine ⟨ow ++ fps.flatten, ha.ownL hr.own hr.len, ?_, ?_, ?_⟩
  · rw [List.nodup_append]
    refine ⟨?_, hr.nodup, fun x hx y hy e => (how x hx).2.2 (e ▸ hy)⟩
    rcases ha with ⟨_, _, rfl⟩ | ⟨_, _, _, _, rfl⟩ | ⟨_, _, _, _, rfl, _⟩ <;> simp
  · intro o ho
    rcases List.mem_append.1 ho with ho | ho
    · exact ⟨(how o ho).1, (how o ho).2.1⟩
    · exact hr.lo o ho
  · intro o ho hm
    rcases List.mem_append.1 hm with hm | hm
    · exact (hpr o ho).2.1 hm
    · exact (hpr o ho).2.2 hm

theorem AR.mono {pr pr' : List Nat} {v : AV} {xs : List α} (a : AR R h0 pr h v xs) (hs : ∀ o ∈ pr', o ∈ pr) : AR R h0 pr' h v xs := by
  obtain ⟨us, ow, fps, ha, hr, how, hpr, he⟩ := a
  exact ⟨us, ow, fps, ha, hr, how, fun o ho => hpr o (hs o ho), he⟩

theorem OwnI.nodup {v : AV} {xs : List Int} {fp : List Nat} (hO : OwnI h v xs fp) : fp.Nodup := by
  rcases hO with ⟨_, _, rfl⟩ | ⟨o, _, _, _, rfl⟩ <;> simp
theorem OwnI.one {v : AV} {xs : List Int} {fp : List Nat} (hO : OwnI h v xs fp) : v.one = true := hO.is.one
theorem OwnL.one {v : AV} {xs : List α} {fp : List Nat} (hO : OwnL R h v xs fp) : v.one = true := by
  rcases hO with ⟨rfl, _, _⟩ | ⟨o, cap, vs, fps, rfl, _⟩ <;> rfl

/-- A fixed row of slots that is filled from the left. -/
theorem RowsOf.fill (hR : Framed R) {lo o i n : Nat} {us : List AV} {fps : List (List Nat)} {xs : List α} {z : AV} (r : RowsOf R lo h us fps xs) (ho : h.obj o = some ⟨true, us ++ List.replicate (n - i) z⟩) (hi : us.length = i) (hlt : i < n) (hof : o ∉ fps.flatten)
    (hx : Ext h h') (hoh : o < h.next) {u : AV} {x : α} {fp : List Nat} (hu : R h' u x fp) (hone : u.one = true) (hnd : fp.Nodup) (hlo : ∀ a ∈ fp, h.next ≤ a ∧ a < h'.next) (hll : lo ≤ h.next) :
    ∃ h3, h'.wr o i [u] = some h3 ∧ h3 = h'.set o (us ++ [u] ++ List.replicate (n - (i + 1)) z) ∧ RowsOf R lo h3 (us ++ [u]) (fps ++ [fp]) (xs ++ [x]) ∧ h3.obj o = some ⟨true, us ++ [u] ++ List.replicate (n - (i + 1)) z⟩ ∧ o ∉ (fps ++ [fp]).flatten := by
  have ho' : h'.obj o = some ⟨true, us ++ List.replicate (n - i) z⟩ := hx.ob hoh ho
  have hfo : o ∉ fp := fun hm => by have := (hlo o hm).1; omega
  have hset : (us ++ List.replicate (n - i) z).set i u = us ++ [u] ++ List.replicate (n - (i + 1)) z := by
    obtain ⟨k, hk⟩ : ∃ k, n - i = k + 1 := ⟨n - i - 1, by omega⟩
    rw [hk, List.replicate_succ, List.set_append, if_neg (by omega), hi, Nat.sub_self, List.set_cons_zero, List.append_assoc, List.singleton_append]
    congr 3
    omega
  refine ⟨_, by rw [wr_one ho' (by simp; omega) hone, hset], rfl, ?_, set_obj_eq _ _, by rw [List.flatten_append, List.mem_append]; simp [hof, hfo]⟩
  have h2 := (r.frame hR (fun a ha => hx.obj a (r.lo a ha).2) hx.next).snoc hu hnd (fun a ha => ⟨Nat.le_trans hll (hlo a ha).1, (hlo a ha).2⟩) (fun a ha hm => by have := (r.lo a hm).2; have := (hlo a ha).1; omega)
  refine h2.frame hR (fun a ha => set_obj_ne (fun e => ?_) _) (Nat.le_refl _)
  subst e
  rw [List.flatten_append, List.mem_append] at ha
  rcases ha with ha | ha
  · exact hof ha
  · simp at ha; exact hfo ha

end Go.Ab
namespace Go.Ab
variable {h h' h0 h1 h2 : AHeap} {α : Type} {R : AHeap → AV → α → List Nat → Prop}

theorem flatten_disj : ∀ {l : List (List Nat)} {i j : Nat} {a b : List Nat}, l.flatten.Nodup → i ≠ j → l[i]? = some a → l[j]? = some b → ∀ x ∈ a, x ∉ b
  | [], _, _, _, _, _, _, hi, _ => by simp at hi
  | c :: l, i, j, a, b, hn, hne, hi, hj => by
    rw [List.flatten_cons, List.nodup_append] at hn
    intro x hx hxb
    cases i with
    | zero =>
      simp at hi; subst hi
      cases j with
      | zero => exact hne rfl
      | succ j => exact hn.2.2 x hx x (List.mem_flatten.2 ⟨b, List.mem_of_getElem? (by simpa using hj), hxb⟩) rfl
    | succ i =>
      cases j with
      | zero =>
        simp at hj; subst hj
        exact hn.2.2 x hxb x (List.mem_flatten.2 ⟨a, List.mem_of_getElem? (by simpa using hi), hx⟩) rfl
      | succ j => exact flatten_disj (i := i) (j := j) hn.2.1 (by omega) (by simpa using hi) (by simpa using hj) x hx hxb

theorem All2.upd (hR : Framed R) {us : List AV} {fps : List (List Nat)} {xs : List α} (hl : us.length = fps.length) (h2 : All2 (fun vf x => R h vf.1 x vf.2) (us.zip fps) xs) (hn : fps.flatten.Nodup) {i : Nat} {u : AV} {fp : List Nat} {y : α}
    (hu : us[i]? = some u) (hf : fps[i]? = some fp) (hr : R h' u y fp) (hobj : ∀ o, o ∉ fp → h'.obj o = h.obj o) : All2 (fun vf x => R h' vf.1 x vf.2) (us.zip fps) (xs.set i y) := by
  refine ⟨by simpa using h2.1, fun k a b ha hb => ?_⟩
  rw [List.getElem?_set] at hb
  have ha' := (List.getElem?_zip_eq_some).1 ha
  by_cases e : i = k
  · subst e
    rw [if_pos rfl] at hb
    split at hb
    · cases hb
      rw [hu, hf] at ha'
      cases ha'.1; 
      have := ha'.2
      cases this
      have h3 := ha'.1
      cases a
      simp at ha'
      obtain ⟨rfl, rfl⟩ := ha'
      exact hr
    · cases hb
  · rw [if_neg e] at hb
    refine hR _ _ _ _ _ (h2.2 k a b ha hb) fun o ho => hobj o fun hm => ?_
    exact flatten_disj hn e hf ha'.2 o hm ho
/-- An element of an old slice of slices, seen later: its memory is old too. -/
theorem IsII.row {h h' : AHeap} {v : AV} {xs : List (List Int)} (hI : IsII h v xs) (hw : HWF h) (hx : Ext h h') {i : Nat} (hi : i < xs.length) (k : IntKind) :
    ∃ p u, aIndex 1 v (.int k i) = some p ∧ ldv false 1 p h' = some u ∧ IsI h' u xs[i] ∧ ∀ o off n c, u = .sl o off n c → o < h.next := by
  rcases hI with ⟨rfl, rfl⟩ | ⟨o, off, cap, vs, rfl, hr, h2⟩
  · simp at hi
  · obtain ⟨u, hu, hR⟩ := h2.get hi
    obtain ⟨ob, ho⟩ := rd_obj hr
    refine ⟨_, u, aIndex_nat hi, by rw [ldv_one, Nat.mul_one, rd1_congr (hx.obj o (hw.lt ho)), rd1_of_rd hr hi, hu], hR.mono hw hx, ?_⟩
    rintro o2 off2 n2 c2 rfl
    rcases hR with ⟨hc, _⟩ | ⟨o3, off3, cap3, hc, hr3⟩
    · cases hc
    · cases hc
      obtain ⟨ob3, ho3⟩ := rd_obj hr3
      exact hw.lt ho3

theorem Acc.cells {v : AV} {vs : List AV} {ow : List Nat} (ha : Acc h v vs ow) : v.cells = [v] := by
  rcases ha with ⟨rfl, _⟩ | ⟨_, rfl, _⟩ | ⟨_, rfl, _⟩ <;> rfl
theorem Acc.one {v : AV} {vs : List AV} {ow : List Nat} (ha : Acc h v vs ow) : v.one = true := by
  rcases ha with ⟨rfl, _⟩ | ⟨_, rfl, _⟩ | ⟨_, rfl, _⟩ <;> rfl
theorem AR.cells {pr : List Nat} {v : AV} {xs : List α} (a : AR R h0 pr h v xs) : v.cells = [v] := by
  obtain ⟨_, _, _, ha, _⟩ := a; exact ha.cells
theorem AR.one {pr : List Nat} {v : AV} {xs : List α} (a : AR R h0 pr h v xs) : v.one = true := by
  obtain ⟨_, _, _, ha, _⟩ := a; exact ha.one
theorem OwnI.cells {v : AV} {xs : List Int} {fp : List Nat} (hO : OwnI h v xs fp) : v.cells = [v] := hO.is.cells
theorem OwnL.cells {v : AV} {xs : List α} {fp : List Nat} (hO : OwnL R h v xs fp) : v.cells = [v] := by
  rcases hO with ⟨rfl, _⟩ | ⟨_, _, _, _, rfl, _⟩ <;> rfl

end Go.Ab
