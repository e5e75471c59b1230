/- The heap that a call finds: what an argument reads as, laid as objects that nobody writes. -/
import Derived.Test.YthgccplmmogcnaaCAbRows
import Derived.Deep.Matrix
set_option linter.unusedVariables false
namespace Go.Ab
open Go.ChangeShapes Go.WideShapes Go.RowKit Go.Deep
variable {B : Nat} {w0 w : World} {j : Inj} {h : AHeap}

theorem MR.empty (w : World) : MR w.heap.size w (fun _ => none) ⟨0, fun _ => none⟩ w :=
  ⟨Below.refl _ _, Nat.le_refl _, fun _ _ => ⟨rfl, rfl⟩, fun _ _ _ ho => (by cases ho), fun _ _ _ _ _ _ _ ho => (by cases ho)⟩

theorem MR.wf (m : MR B w0 j h w) : HWF h := fun o ho => (m.fresh o ho).1

theorem Inj.le_put (m : MR B w0 j h w) (l : Loc) : j.le (j.put h.next l) := by
  intro o l' ho
  have := m.lt ho
  simp [Inj.put, Nat.ne_of_lt this, ho]

/-- One object more, that lies in the world of before. -/
theorem MR.lay (m : MR B w0 j h w) {cells : List AV} {l : Loc} (hone : cells.all AV.one = true) (hb : l.blk < B) {cur : Array Value} {ty : TypeId} {fz : Nat × Nat} (hrow : w.heap[l.blk]? = some (.cells cur ty fz))
    (hc : ∀ i v, cells[i]? = some v → ∃ cv, cur[l.base + i]? = some cv ∧ VI j v cv) : MR B w0 (j.put h.next l) (h.new ⟨false, cells⟩) w := by
  have hle := Inj.le_put m l
  refine ⟨m.below, m.bnd, fun o ho => ?_, fun o ob l' ho hl => ?_, fun o o' ob ob' l1 l2 hne ho ho' hl hl' hrw => ?_⟩
  · simp only [AHeap.new] at ho
    have : o ≠ h.next := by omega
    simp only [AHeap.new, Inj.put, if_neg this]
    exact m.fresh o (by omega)
  · by_cases e : o = h.next
    · subst e
      simp only [AHeap.new, if_true, Option.some.injEq] at ho
      simp only [Inj.put, if_true, Option.some.injEq] at hl
      subst ho; subst hl
      exact ⟨hone, cur, ty, fz, hrow, fun i v hi => by obtain ⟨cv, a, b⟩ := hc i v hi; exact ⟨cv, a, VI.mono hle _ _ b⟩, fun x => (by cases x), fun _ => hb⟩
    · simp only [AHeap.new, if_neg e] at ho
      simp only [Inj.put, if_neg e] at hl
      obtain ⟨a, cur', ty', fz', b, c, d⟩ := m.obj o ob l' ho hl
      exact ⟨a, cur', ty', fz', b, fun i v hi => by obtain ⟨cv, x, y⟩ := c i v hi; exact ⟨cv, x, VI.mono hle _ _ y⟩, d⟩
  · by_cases e : o = h.next
    · subst e
      simp only [AHeap.new, if_true, Option.some.injEq] at ho
      subst ho; cases hrw
    · simp only [AHeap.new, if_neg e] at ho
      simp only [Inj.put, if_neg e] at hl
      by_cases e' : o' = h.next
      · subst e'
        simp only [Inj.put, if_true, Option.some.injEq] at hl'
        subst hl'
        obtain ⟨_, _, _, _, _, _, d, _⟩ := m.obj o ob l1 ho hl
        have := (d hrw).2.2
        omega
      · simp only [AHeap.new, if_neg e'] at ho'
        simp only [Inj.put, if_neg e'] at hl'
        exact m.apart o o' ob ob' l1 l2 hne ho ho' hl hl' hrw

theorem cell_at {a : Addr} {v : Value} (hc : w.cell? a = some v) : a.spot = none ∧ ∃ cur ty fz, w.heap[a.block]? = some (.cells cur ty fz) ∧ cur[a.off]? = some v := by
  unfold World.cell? at hc
  split at hc
  · rename_i c t f hb
    split at hc
    · cases hc
    · rename_i hs
      exact ⟨by simpa using hs, c, t, f, hb, hc⟩
  · cases hc

/-- Numbers that lie in the world. -/
theorem MR.layInts (m : MR w.heap.size w0 j h w) {a : Addr} {len cap : Nat} {zs : List Int} {od : Nat} {ld : Loc} {ob : AObj} (hd : j od = some ld) (hod : h.obj od = some ob) (hl : len ≤ cap) (hz : zs.length = cap)
    (hcell : ∀ i, i < cap → w.cell? (a.add i) = some (.int .i64 (zs.getD i 0))) :
    ∃ j' h' u, MR w.heap.size w0 j' h' w ∧ j.le j' ∧ Ext h h' ∧ VI j' u (.slice (some a) len cap) ∧ IsI h' u (zs.take len) ∧ u.one = true := by
  by_cases hc : cap = 0
  · subst hc
    obtain rfl : len = 0 := by omega
    obtain rfl : zs = [] := by simpa using hz
    exact ⟨j, h, .sl od 0 0 (.known 0), m, Inj.le.refl _, Ext.refl m.wf, ⟨ld, a, hd, rfl, .inr ⟨rfl, rfl⟩⟩, .inr ⟨od, 0, _, rfl, by rw [rd_of_obj hod (by simp)]; rfl⟩, rfl⟩
  · obtain ⟨hs, cur, ty, fz, hb, h0⟩ := cell_at (hcell 0 (by omega))
    obtain ⟨blk, off, spot⟩ := a
    have hspot : spot = none := by simpa [Addr.add] using hs
    subst hspot
    have hblk : blk < w.heap.size := by
      rcases Nat.lt_or_ge blk w.heap.size with x | x
      · exact x
      · simp [Addr.add] at hb; rw [Array.getElem?_eq_none x] at hb; cases hb
    have hb' : w.heap[blk]? = some (.cells cur ty fz) := by simpa [Addr.add] using hb
    have hlay := m.lay (cells := ints zs) (l := ⟨blk, off, 0⟩) (ints_one zs) hblk hb' (by
      intro i v hi
      rw [ints_get] at hi
      obtain ⟨z, hz', rfl⟩ := Option.map_eq_some_iff.1 hi
      have hi' : i < zs.length := by
        rcases Nat.lt_or_ge i zs.length with x | x
        · exact x
        · rw [List.getElem?_eq_none x] at hz'; cases hz'
      obtain ⟨_, cur', ty', fz', hb2, hc2⟩ := cell_at (hcell i (by omega))
      rw [show ((⟨blk, off, none⟩ : Addr).add i).block = blk by unfold Addr.add; split <;> rfl] at hb2
      rw [hb'] at hb2
      cases hb2
      rw [show ((⟨blk, off, none⟩ : Addr).add i).off = off + i by unfold Addr.add; split <;> simp_all] at hc2
      refine ⟨_, hc2, ?_⟩
      rw [List.getD_eq_getElem?_getD, hz']
      rfl)
    refine ⟨_, _, .sl h.next 0 len (.known cap), hlay, Inj.le_put m _, Ext.new m.wf _, ⟨⟨blk, off, 0⟩, _, by simp [Inj.put], rfl, .inl rfl⟩, .inr ⟨h.next, 0, .known cap, by rw [List.length_take, Nat.min_eq_left (by omega)], ?_⟩, rfl⟩
    rw [rd_of_obj (new_obj_eq _) (by rw [ints_length, List.length_take]; omega), List.drop_zero, ints_take]
    rw [List.length_take, Nat.min_eq_left (by omega)]

/-- What a row of numbers is, as the kit's 'open_int_rows' tells it. -/
def RowAt (w : World) (A : Option Addr) (L C : Nat) (Z : List Int) : Prop :=
  L ≤ C ∧ C ≤ maxLen ∧ Z.length = C ∧ (A = none → C = 0) ∧ ∀ a', A = some a' → ∀ c, c < C → w.cell? (a'.add c) = some (.int .i64 (Z.getD c 0))

theorem MR.layRow (m : MR w.heap.size w0 j h w) {A : Option Addr} {L C : Nat} {Z : List Int} {od : Nat} {ld : Loc} {ob : AObj} (hd : j od = some ld) (hod : h.obj od = some ob) (hr : RowAt w A L C Z) :
    ∃ j' h' u, MR w.heap.size w0 j' h' w ∧ j.le j' ∧ Ext h h' ∧ VI j' u (.slice A L C) ∧ IsI h' u (Z.take L) ∧ u.one = true := by
  obtain ⟨h1, h2, h3, h4, h5⟩ := hr
  cases A with
  | none =>
    obtain rfl := h4 rfl
    obtain rfl : L = 0 := by omega
    exact ⟨j, h, .nils, m, Inj.le.refl _, Ext.refl m.wf, rfl, .inl ⟨rfl, rfl⟩, rfl⟩
  | some a => exact m.layInts hd hod h1 h3 (h5 a rfl)

theorem MR.layRows (m : MR w.heap.size w0 j h w) {A : Nat → Option Addr} {L C : Nat → Nat} {Z : Nat → List Int} {od : Nat} {ld : Loc} {ob : AObj} (hd : j od = some ld) (hod : h.obj od = some ob) : ∀ (n : Nat), (∀ r, r < n → RowAt w (A r) (L r) (C r) (Z r)) →
    ∃ (j' : Inj) (h' : AHeap) (us : List AV), MR w.heap.size w0 j' h' w ∧ j.le j' ∧ Ext h h' ∧ us.length = n ∧ us.all AV.one = true ∧ ∀ r, r < n → ∃ u, us[r]? = some u ∧ VI j' u (.slice (A r) (L r) (C r)) ∧ IsI h' u ((Z r).take (L r))
  | 0, _ => ⟨j, h, [], m, Inj.le.refl _, Ext.refl m.wf, rfl, rfl, fun r hr => by omega⟩
  | n + 1, hr => by
    obtain ⟨j1, h1, us, m1, l1, e1, hl, ho, hu⟩ := m.layRows hd hod n fun r h => hr r (by omega)
    obtain ⟨j2, h2, u, m2, l2, e2, v2, i2, o2⟩ := m1.layRow (l1 _ _ hd) (e1.ob (m.lt hd) hod) (hr n (by omega))
    refine ⟨j2, h2, us ++ [u], m2, l1.trans l2, e1.trans e2, by simp [hl], by simp [ho, o2], fun r hlt => ?_⟩
    by_cases e : r = n
    · subst e
      exact ⟨u, by rw [← hl]; simp, v2, i2⟩
    · obtain ⟨x, q1, q2, q3⟩ := hu r (by omega)
      exact ⟨x, by rw [List.getElem?_append_left (by omega)]; exact q1, VI.mono l2 _ _ q2, q3.mono m1.wf e2⟩

theorem blk_lt {b : Nat} {o : Obj} (hb : w.heap[b]? = some o) : b < w.heap.size := by
  rcases Nat.lt_or_ge b w.heap.size with x | x
  · exact x
  · rw [Array.getElem?_eq_none x] at hb; cases hb

/-- A slice of slices of numbers, as it is read. -/
theorem MR.layII {H : Type} {enc : TypeId × Value → H} {P : Program} {held : Bool} (m : MR w.heap.size w0 j h w) {t e q : TypeId} {fuel : Nat} {v : Value} {x : DataW H × List MemPlace} (ht : P.underlying t = some (.slice e)) (he : P.underlying e = some (.slice q)) (hq : P.underlying q = some (.int .i64))
    (ce : P.cellsOf e = 1) (cq : P.cellsOf q = 1) (hx : DataW.trod enc P w 0 (fun _ => true) held fuel t [v] = some x)
    (hpl : ∀ a len cap, v = .slice (some a) len cap → a.spot = none ∧ ∃ cur ty fz, w.heap[a.block]? = some (.cells cur ty fz)) :
    ∃ j' h' av xs, MR w.heap.size w0 j' h' w ∧ j.le j' ∧ Ext h h' ∧ VI j' av v ∧ IsII h' av xs ∧ xs.length ≤ 9223372036854775807 ∧ ∀ y ∈ xs, y.length ≤ 9223372036854775807 := by
  rcases open_int_rows ht he hq ce cq hx with ⟨hv, rfl⟩ | ⟨a, len, cap, A, L, C, Z, hv, _, hl, hm, rfl, hr⟩
  · simp only [List.cons.injEq, and_true] at hv
    subst hv
    exact ⟨j, h, .nils, [], m, Inj.le.refl _, Ext.refl m.wf, rfl, .inl ⟨rfl, rfl⟩, by simp, by simp⟩
  · simp only [List.cons.injEq, and_true] at hv
    subst hv
    obtain ⟨hs, cur, ty, fz, hb⟩ := hpl a len cap rfl
    obtain ⟨blk, off, spot⟩ := a
    simp only at hs hb
    subst hs
    have hblk := blk_lt hb
    have m1 := m.lay (cells := []) (l := ⟨blk, off, 0⟩) rfl hblk hb (fun i v hi => by simp at hi)
    have hrow : ∀ r, r < cap → RowAt w (A r) (L r) (C r) (Z r) := fun r hlt => by
      obtain ⟨_, q1, q2, q3, _, q5, q6⟩ := hr r hlt
      exact ⟨q1, q2, q3, q5, fun a' ha => (q6 a' ha).2⟩
    obtain ⟨j2, h2, us, m2, l2, e2, hul, hone, hu⟩ := m1.layRows (od := h.next) (ld := ⟨blk, off, 0⟩) (by simp [Inj.put]) (new_obj_eq _) len (fun r hlt => hrow r (by omega))
    have m3 := m2.lay (cells := us) (l := ⟨blk, off, 0⟩) hone hblk hb (by
      intro i v hi
      have hi' : i < len := by
        rcases Nat.lt_or_ge i us.length with y | y
        · omega
        · rw [List.getElem?_eq_none y] at hi; cases hi
      obtain ⟨u, q1, q2, _⟩ := hu i hi'
      rw [q1] at hi
      cases hi
      obtain ⟨_, cur', ty', fz', hb2, hc2⟩ := cell_at (hr i (by omega)).1
      rw [show ((⟨blk, off, none⟩ : Addr).add i).block = blk by unfold Addr.add; split <;> rfl] at hb2
      rw [hb] at hb2
      cases hb2
      rw [show ((⟨blk, off, none⟩ : Addr).add i).off = off + i by unfold Addr.add; split <;> simp_all] at hc2
      exact ⟨_, hc2, q2⟩)
    have e1 := Ext.new m.wf ⟨false, []⟩
    have e3 := Ext.new m2.wf ⟨false, us⟩
    refine ⟨_, _, .sl h2.next 0 len (.known cap), (List.range len).map fun r => (Z r).take (L r), m3, (Inj.le_put m _).trans (l2.trans (Inj.le_put m2 _)), e1.trans (e2.trans e3), ⟨⟨blk, off, 0⟩, _, by simp [Inj.put], rfl, .inl rfl⟩, .inr ⟨h2.next, 0, .known cap, us, by simp, ?_, ?_⟩, ?_, ?_⟩
    · rw [rd_of_obj (new_obj_eq _) (by simp [hul]), List.drop_zero, List.length_map, List.length_range, List.take_of_length_le (by simp; omega)]
    · refine ⟨by simp [hul], fun k a b ha hb => ?_⟩
      have hk : k < len := by
        rcases Nat.lt_or_ge k us.length with y | y
        · omega
        · rw [List.getElem?_eq_none y] at ha; cases ha
      obtain ⟨u, q1, _, q3⟩ := hu k hk
      rw [q1] at ha
      cases ha
      rw [List.getElem?_map, List.getElem?_range hk] at hb
      cases hb
      exact q3.mono m2.wf e3
    · simp only [List.length_map, List.length_range]
      have : maxLen = 9223372036854775807 := rfl
      omega
    · intro y hy
      obtain ⟨r, hr', rfl⟩ := List.mem_map.1 hy
      have hr2 := hrow r (by have := List.mem_range.1 hr'; omega)
      rw [List.length_take]
      have : maxLen = 9223372036854775807 := rfl
      have := hr2.2.1
      have := hr2.2.2.1
      omega

end Go.Ab
