/-
  LAWS OF THE ABSTRACT HEAP for plain reasoning: what stays, what a slice reads as, whose an object is, append to a slice that grows.
-/
import Derived.Test.YthgccplmmogcnaaCAbStep
set_option linter.unusedVariables false
set_option linter.unusedSimpArgs false
namespace Go.Ab

variable {P : Program} {h h' h'' : AHeap}

theorem wrap64 {n : Int} (h1 : -9223372036854775808 ≤ n) (h2 : n ≤ 9223372036854775807) : IntKind.i64.wrap n = n := by
  rw [IntKind.wrap_i64]; omega

/-- Nothing lies beyond the next object. -/
def HWF (h : AHeap) : Prop := ∀ o, h.next ≤ o → h.obj o = none

theorem ACalls.wf {f : FuncId} {args : List AV} {K : AV → AHeap → Prop} (H : HWF h → ACalls P f args h K) : ACalls P f args h K :=
  fun B w0 j w cargs m va => H (fun o ho => (m.fresh o ho).1) B w0 j w cargs m va

/-- All that was there is as it was. -/
structure Ext (h h' : AHeap) : Prop where
  next : h.next ≤ h'.next
  obj : ∀ o, o < h.next → h'.obj o = h.obj o
  wf : HWF h'

theorem Ext.refl (hw : HWF h) : Ext h h := ⟨Nat.le_refl _, fun _ _ => rfl, hw⟩
theorem Ext.trans (a : Ext h h') (b : Ext h' h'') : Ext h h'' :=
  ⟨Nat.le_trans a.next b.next, fun o ho => (b.obj o (Nat.lt_of_lt_of_le ho a.next)).trans (a.obj o ho), b.wf⟩

theorem HWF.lt (hw : HWF h) {o : Nat} {ob : AObj} (ho : h.obj o = some ob) : o < h.next := by
  rcases Nat.lt_or_ge o h.next with x | x
  · exact x
  · rw [hw o x] at ho; cases ho

theorem HWF.new (hw : HWF h) (ob : AObj) : HWF (h.new ob) := by
  intro o ho
  simp only [AHeap.new] at ho ⊢
  rw [if_neg (by omega)]
  exact hw o (by omega)

theorem HWF.set (hw : HWF h) {o : Nat} (ho : o < h.next) (cs : List AV) : HWF (h.set o cs) := by
  intro x hx
  simp only [AHeap.set] at hx ⊢
  rw [if_neg (by omega)]
  exact hw x hx

theorem HWF.kill (hw : HWF h) (o : Nat) : HWF (h.kill o) := by
  intro x hx
  simp only [AHeap.kill] at hx ⊢
  split
  · rfl
  · exact hw x hx

theorem new_obj_eq (ob : AObj) : (h.new ob).obj h.next = some ob := by simp [AHeap.new]
theorem new_obj_ne {o : Nat} (ho : o ≠ h.next) (ob : AObj) : (h.new ob).obj o = h.obj o := by simp [AHeap.new, ho]
theorem new_next (ob : AObj) : (h.new ob).next = h.next + 1 := rfl
theorem set_obj_eq (o : Nat) (cs : List AV) : (h.set o cs).obj o = some ⟨true, cs⟩ := by simp [AHeap.set]
theorem set_obj_ne {o o' : Nat} (ho : o' ≠ o) (cs : List AV) : (h.set o cs).obj o' = h.obj o' := by simp [AHeap.set, ho]
theorem set_next (o : Nat) (cs : List AV) : (h.set o cs).next = h.next := rfl
theorem kill_next (o : Nat) : (h.kill o).next = h.next := rfl
theorem kill_obj_ne {o o' : Nat} (ho : o' ≠ o) : (h.kill o).obj o' = h.obj o' := by simp [AHeap.kill, ho]
theorem set_set (o : Nat) (c d : List AV) : (h.set o c).set o d = h.set o d := by
  simp only [AHeap.set]
  congr 1
  funext x
  by_cases hx : x = o <;> simp [hx]
theorem set_self {o : Nat} {cs : List AV} (ho : h.obj o = some ⟨true, cs⟩) : h.set o cs = h := by
  cases h with
  | mk n f =>
    simp only [AHeap.set]
    congr 1
    funext x
    by_cases hx : x = o
    · subst hx; simp at ho ⊢; exact ho.symm
    · simp [hx]

theorem Ext.new (hw : HWF h) (ob : AObj) : Ext h (h.new ob) := ⟨by simp [AHeap.new], fun o ho => new_obj_ne (by omega) _, hw.new ob⟩
theorem Ext.set (a : Ext h h') {o : Nat} (h1 : h.next ≤ o) (h2 : o < h'.next) (cs : List AV) : Ext h (h'.set o cs) :=
  ⟨a.next, fun x hx => (set_obj_ne (by omega) _).trans (a.obj x hx), a.wf.set h2 cs⟩
theorem Ext.lt (a : Ext h h') {o : Nat} (ho : o < h.next) : o < h'.next := Nat.lt_of_lt_of_le ho a.next

theorem rd_of_obj {o off n : Nat} {ob : AObj} (ho : h.obj o = some ob) (hl : off + n ≤ ob.cells.length) : h.rd o off n = some ((ob.cells.drop off).take n) := by
  simp [AHeap.rd, ho, hl]
theorem rd_whole {o n : Nat} {ob : AObj} (ho : h.obj o = some ob) (hl : n = ob.cells.length) : h.rd o 0 n = some ob.cells := by
  subst hl
  simp [AHeap.rd, ho]
theorem rd_congr {o off n : Nat} (ho : h'.obj o = h.obj o) : h'.rd o off n = h.rd o off n := by simp [AHeap.rd, ho]
theorem rd1_congr {o off : Nat} (ho : h'.obj o = h.obj o) : h'.rd1 o off = h.rd1 o off := by simp [AHeap.rd1, ho]
theorem rd1_of_obj {o i : Nat} {ob : AObj} (ho : h.obj o = some ob) : h.rd1 o i = ob.cells[i]? := by simp [AHeap.rd1, ho]
theorem rd_obj {o off n : Nat} {vs : List AV} (hr : h.rd o off n = some vs) : ∃ ob, h.obj o = some ob := by
  obtain ⟨ob, ho, _⟩ := AHeap.rd_some hr; exact ⟨ob, ho⟩
theorem rd_length {o off n : Nat} {vs : List AV} (hr : h.rd o off n = some vs) : vs.length = n := by
  obtain ⟨ob, _, hl, rfl⟩ := AHeap.rd_some hr
  simp; omega
theorem rd1_of_rd {o off n k : Nat} {vs : List AV} (hr : h.rd o off n = some vs) (hk : k < n) : h.rd1 o (off + k) = vs[k]? := by
  obtain ⟨ob, ho, hl, rfl⟩ := AHeap.rd_some hr
  rw [rd1_of_obj ho, List.getElem?_take, if_pos hk, List.getElem?_drop]
theorem rd_sub {o off n a b : Nat} {vs : List AV} (hr : h.rd o off n = some vs) (hab : a + b ≤ n) : h.rd o (off + a) b = some ((vs.drop a).take b) := by
  obtain ⟨ob, ho, hl, rfl⟩ := AHeap.rd_some hr
  rw [rd_of_obj ho (by omega)]
  congr 1
  rw [List.drop_take, List.take_take, List.drop_drop]
  congr 1
  omega

theorem wr_one {o i : Nat} {cs : List AV} {v : AV} (ho : h.obj o = some ⟨true, cs⟩) (hi : i < cs.length) (hv : v.one = true) : h.wr o i [v] = some (h.set o (cs.set i v)) := by
  simp only [AHeap.wr, ho, Option.bind_some, List.length_cons, List.length_nil, List.all_cons, List.all_nil, hv, Bool.and_true]
  rw [if_pos ⟨trivial, by omega, trivial⟩]
  congr 2
  apply List.ext_getElem?
  intro k
  rw [List.getElem?_set, List.append_assoc]
  rcases Nat.lt_trichotomy k i with x | x | x
  · rw [if_neg (by omega), List.getElem?_append_left (by simp; omega), List.getElem?_take, if_pos x]
  · subst x
    rw [if_pos rfl, if_pos hi, List.getElem?_append_right (by rw [List.length_take]; omega), List.length_take]
    have : k - min k cs.length = 0 := by omega
    rw [this]
    rfl
  · rw [if_neg (by omega), List.getElem?_append_right (by simp; omega)]
    have e1 : k - (List.take i cs).length = (k - i - 1) + 1 := by rw [List.length_take]; omega
    rw [e1, List.cons_append, List.getElem?_cons_succ, List.nil_append, List.getElem?_drop]
    congr 1; omega

/- WHAT A VALUE READS AS -/

def ints (xs : List Int) : List AV := xs.map (.int .i64)
theorem ints_length (xs : List Int) : (ints xs).length = xs.length := by simp [ints]
theorem ints_get (xs : List Int) (k : Nat) : (ints xs)[k]? = (xs[k]?).map (.int .i64) := by simp [ints]
theorem ints_set (xs : List Int) (k : Nat) (x : Int) : (ints xs).set k (.int .i64 x) = ints (xs.set k x) := by simp [ints, List.map_set]
theorem ints_append (xs ys : List Int) : ints xs ++ ints ys = ints (xs ++ ys) := by simp [ints]
theorem ints_one (xs : List Int) : (ints xs).all AV.one = true := by
  rw [List.all_eq_true]
  intro x hx
  simp only [ints, List.mem_map] at hx
  obtain ⟨y, _, rfl⟩ := hx
  rfl
theorem ints_take (xs : List Int) (k : Nat) : (ints xs).take k = ints (xs.take k) := by simp [ints, List.map_take]
theorem ints_drop (xs : List Int) (k : Nat) : (ints xs).drop k = ints (xs.drop k) := by simp [ints, List.map_drop]
theorem ints_replicate (n : Nat) (x : Int) : List.replicate n (AV.int .i64 x) = ints (List.replicate n x) := by simp [ints]
theorem ints_cons (x : Int) (xs : List Int) : ints (x :: xs) = .int .i64 x :: ints xs := rfl

/-- How many of each of two lists' places go together. -/
def All2 {α β : Type} (R : α → β → Prop) (as : List α) (bs : List β) : Prop := as.length = bs.length ∧ ∀ (k : Nat) (a : α) (b : β), as[k]? = some a → bs[k]? = some b → R a b

theorem All2.nil {α β : Type} (R : α → β → Prop) : All2 R [] [] := ⟨rfl, fun k a b h => by simp at h⟩
theorem All2.snoc {α β : Type} {R : α → β → Prop} {as : List α} {bs : List β} {a : α} {b : β} (h : All2 R as bs) (hr : R a b) : All2 R (as ++ [a]) (bs ++ [b]) := by
  refine ⟨by simp [h.1], fun k x y hx hy => ?_⟩
  rcases Nat.lt_trichotomy k as.length with e | e | e
  · rw [List.getElem?_append_left e] at hx
    rw [List.getElem?_append_left (by rw [← h.1]; exact e)] at hy
    exact h.2 k x y hx hy
  · rw [List.getElem?_append_right (by omega), e] at hx
    rw [List.getElem?_append_right (by rw [← h.1]; omega), e, h.1] at hy
    simp at hx hy
    subst hx; subst hy
    exact hr
  · rw [List.getElem?_eq_none (by simp; omega)] at hx
    cases hx
theorem All2.mono {α β : Type} {R R' : α → β → Prop} {as : List α} {bs : List β} (h : All2 R as bs) (hr : ∀ a b, R a b → R' a b) : All2 R' as bs := ⟨h.1, fun k a b x y => hr a b (h.2 k a b x y)⟩
theorem All2.get {α β : Type} {R : α → β → Prop} {as : List α} {bs : List β} (h : All2 R as bs) {k : Nat} (hk : k < bs.length) : ∃ a, as[k]? = some a ∧ R a bs[k] := by
  have hk' : k < as.length := by rw [h.1]; exact hk
  exact ⟨as[k], List.getElem?_eq_getElem hk', h.2 k _ _ (List.getElem?_eq_getElem hk') (List.getElem?_eq_getElem hk)⟩
theorem All2.cons {α β : Type} {R : α → β → Prop} {as : List α} {bs : List β} {a : α} {b : β} (h : All2 R as bs) (hr : R a b) : All2 R (a :: as) (b :: bs) := by
  refine ⟨by simp [h.1], fun k x y hx hy => ?_⟩
  cases k with
  | zero => simp at hx hy; subst hx; subst hy; exact hr
  | succ k => exact h.2 k x y (by simpa using hx) (by simpa using hy)
theorem All2.set {α β : Type} {R : α → β → Prop} {as : List α} {bs : List β} {a : α} {b : β} (h : All2 R as bs) (i : Nat) (hr : R a b) : All2 R (as.set i a) (bs.set i b) := by
  refine ⟨by simp [h.1], fun k x y hx hy => ?_⟩
  rw [List.getElem?_set] at hx hy
  have := h.1
  by_cases e : i = k
  · rw [if_pos e] at hx hy
    split at hx
    · cases hx
      split at hy
      · cases hy; exact hr
      · cases hy
    · cases hx
  · rw [if_neg e] at hx hy
    exact h.2 k x y hx hy

/-- A slice of int64 reads as these numbers. -/
def IsI (h : AHeap) (v : AV) (xs : List Int) : Prop := (v = .nils ∧ xs = []) ∨ ∃ o off cap, v = .sl o off xs.length cap ∧ h.rd o off xs.length = some (ints xs)

/-- A slice whose elements take one cell each. -/
def IsL {α : Type} (R : AHeap → AV → α → Prop) (h : AHeap) (v : AV) (xs : List α) : Prop :=
  (v = .nils ∧ xs = []) ∨ ∃ o off cap vs, v = .sl o off xs.length cap ∧ h.rd o off xs.length = some vs ∧ All2 (R h) vs xs

abbrev IsII : AHeap → AV → List (List Int) → Prop := IsL IsI
abbrev IsIII : AHeap → AV → List (List (List Int)) → Prop := IsL IsII

theorem IsI.len {v : AV} {xs : List Int} (hI : IsI h v xs) : aLen v = some (.int .i64 xs.length) := by
  rcases hI with ⟨rfl, rfl⟩ | ⟨o, off, cap, rfl, _⟩ <;> rfl
theorem IsL.len {α : Type} {R : AHeap → AV → α → Prop} {v : AV} {xs : List α} (hI : IsL R h v xs) : aLen v = some (.int .i64 xs.length) := by
  rcases hI with ⟨rfl, rfl⟩ | ⟨o, off, cap, vs, rfl, _⟩ <;> rfl
theorem IsI.one {v : AV} {xs : List Int} (hI : IsI h v xs) : v.one = true := by
  rcases hI with ⟨rfl, rfl⟩ | ⟨o, off, cap, rfl, _⟩ <;> rfl
theorem IsI.cells {v : AV} {xs : List Int} (hI : IsI h v xs) : v.cells = [v] := by
  rcases hI with ⟨rfl, rfl⟩ | ⟨o, off, cap, rfl, _⟩ <;> rfl
theorem IsL.one {α : Type} {R : AHeap → AV → α → Prop} {v : AV} {xs : List α} (hI : IsL R h v xs) : v.one = true := by
  rcases hI with ⟨rfl, rfl⟩ | ⟨o, off, cap, vs, rfl, _⟩ <;> rfl
theorem IsL.cells {α : Type} {R : AHeap → AV → α → Prop} {v : AV} {xs : List α} (hI : IsL R h v xs) : v.cells = [v] := by
  rcases hI with ⟨rfl, rfl⟩ | ⟨o, off, cap, vs, rfl, _⟩ <;> rfl

theorem IsI.idx {v : AV} {xs : List Int} (hI : IsI h v xs) {i : Nat} (hi : i < xs.length) (k : IntKind) : ∃ p, aIndex 1 v (.int k i) = some p ∧ ldv false 1 p h = some (.int .i64 xs[i]) := by
  rcases hI with ⟨rfl, rfl⟩ | ⟨o, off, cap, rfl, hr⟩
  · simp at hi
  · refine ⟨_, aIndex_nat hi, ?_⟩
    rw [ldv_one, Nat.mul_one, rd1_of_rd hr hi, ints_get, List.getElem?_eq_getElem hi]
    rfl
theorem IsL.idx {α : Type} {R : AHeap → AV → α → Prop} {v : AV} {xs : List α} (hI : IsL R h v xs) {i : Nat} (hi : i < xs.length) (k : IntKind) : ∃ p u, aIndex 1 v (.int k i) = some p ∧ ldv false 1 p h = some u ∧ R h u xs[i] := by
  rcases hI with ⟨rfl, rfl⟩ | ⟨o, off, cap, vs, rfl, hr, h2⟩
  · simp at hi
  · obtain ⟨u, hu, hR⟩ := h2.get hi
    exact ⟨_, u, aIndex_nat hi, by rw [ldv_one, Nat.mul_one, rd1_of_rd hr hi, hu], hR⟩

theorem IsI.mono {v : AV} {xs : List Int} (hI : IsI h v xs) (hw : HWF h) (hx : Ext h h') : IsI h' v xs := by
  rcases hI with ⟨rfl, rfl⟩ | ⟨o, off, cap, rfl, hr⟩
  · exact .inl ⟨rfl, rfl⟩
  · obtain ⟨ob, ho⟩ := rd_obj hr
    exact .inr ⟨o, off, cap, rfl, by rw [rd_congr (hx.obj o (hw.lt ho))]; exact hr⟩
theorem IsL.mono {α : Type} {R : AHeap → AV → α → Prop} (hR : ∀ (v : AV) (x : α), R h v x → R h' v x) {v : AV} {xs : List α} (hI : IsL R h v xs) (hw : HWF h) (hx : Ext h h') : IsL R h' v xs := by
  rcases hI with ⟨rfl, rfl⟩ | ⟨o, off, cap, vs, rfl, hr, h2⟩
  · exact .inl ⟨rfl, rfl⟩
  · obtain ⟨ob, ho⟩ := rd_obj hr
    exact .inr ⟨o, off, cap, vs, rfl, by rw [rd_congr (hx.obj o (hw.lt ho))]; exact hr, h2.mono hR⟩
theorem IsII.mono {v : AV} {xs : List (List Int)} (hI : IsII h v xs) (hw : HWF h) (hx : Ext h h') : IsII h' v xs := IsL.mono (fun _ _ k => IsI.mono k hw hx) hI hw hx
theorem IsIII.mono {v : AV} {xs : List (List (List Int))} (hI : IsIII h v xs) (hw : HWF h) (hx : Ext h h') : IsIII h' v xs := IsL.mono (fun _ _ k => IsII.mono k hw hx) hI hw hx

/- WHOSE IT IS: an object that nobody else holds -/

/-- The slice is a whole object of its own, of int64. -/
def OwnI (h : AHeap) (v : AV) (xs : List Int) (fp : List Nat) : Prop := (v = .nils ∧ xs = [] ∧ fp = []) ∨ ∃ o cap, v = .sl o 0 xs.length cap ∧ h.obj o = some ⟨true, ints xs⟩ ∧ fp = [o]

/-- .. of slices that are their own. -/
def OwnL {α : Type} (R : AHeap → AV → α → List Nat → Prop) (h : AHeap) (v : AV) (xs : List α) (fp : List Nat) : Prop :=
  (v = .nils ∧ xs = [] ∧ fp = []) ∨ ∃ o cap vs fps, v = .sl o 0 xs.length cap ∧ h.obj o = some ⟨true, vs⟩ ∧ vs.all AV.one = true ∧ All2 (fun vf x => R h vf.1 x vf.2) (vs.zip fps) xs ∧ vs.length = fps.length ∧ fp = o :: fps.flatten

abbrev OwnII : AHeap → AV → List (List Int) → List Nat → Prop := OwnL OwnI

theorem OwnI.is {v : AV} {xs : List Int} {fp : List Nat} (hO : OwnI h v xs fp) : IsI h v xs := by
  rcases hO with ⟨rfl, rfl, rfl⟩ | ⟨o, cap, rfl, ho, rfl⟩
  · exact .inl ⟨rfl, rfl⟩
  · exact .inr ⟨o, 0, cap, rfl, rd_whole ho (by simp [ints])⟩

theorem OwnI.frame {v : AV} {xs : List Int} {fp : List Nat} (hO : OwnI h v xs fp) (hf : ∀ o ∈ fp, h'.obj o = h.obj o) : OwnI h' v xs fp := by
  rcases hO with ⟨rfl, rfl, rfl⟩ | ⟨o, cap, rfl, ho, rfl⟩
  · exact .inl ⟨rfl, rfl, rfl⟩
  · exact .inr ⟨o, cap, rfl, by rw [hf o (by simp)]; exact ho, rfl⟩

theorem OwnL.frame {α : Type} {R : AHeap → AV → α → List Nat → Prop} (hR : ∀ {v : AV} {x : α} {fp : List Nat}, R h v x fp → (∀ o ∈ fp, h'.obj o = h.obj o) → R h' v x fp) {v : AV} {xs : List α} {fp : List Nat}
    (hO : OwnL R h v xs fp) (hf : ∀ o ∈ fp, h'.obj o = h.obj o) : OwnL R h' v xs fp := by
  rcases hO with ⟨rfl, rfl, rfl⟩ | ⟨o, cap, vs, fps, rfl, ho, h1, h2, h3, rfl⟩
  · exact .inl ⟨rfl, rfl, rfl⟩
  · refine .inr ⟨o, cap, vs, fps, rfl, by rw [hf o (by simp)]; exact ho, h1, ⟨h2.1, fun k a b ha hb => hR (h2.2 k a b ha hb) fun x hx => hf x ?_⟩, h3, rfl⟩
    have ha' : a ∈ vs.zip fps := List.mem_of_getElem? ha
    exact List.mem_cons_of_mem _ (List.mem_flatten.2 ⟨a.2, (List.of_mem_zip ha').2, hx⟩)

theorem OwnL.is {α : Type} {R : AHeap → AV → α → List Nat → Prop} {R' : AHeap → AV → α → Prop} (hR : ∀ {v : AV} {x : α} {fp : List Nat}, R h v x fp → R' h v x) {v : AV} {xs : List α} {fp : List Nat}
    (hO : OwnL R h v xs fp) : IsL R' h v xs := by
  rcases hO with ⟨rfl, rfl, rfl⟩ | ⟨o, cap, vs, fps, rfl, ho, h1, h2, h3, rfl⟩
  · exact .inl ⟨rfl, rfl⟩
  · have hl : vs.length = xs.length := by have := h2.1; simp at this; omega
    refine .inr ⟨o, 0, cap, vs, rfl, rd_whole ho hl.symm, hl, fun k a b ha hb => ?_⟩
    have hk : k < vs.length := (List.getElem?_eq_some_iff.1 ha).1
    refine hR (h2.2 k (a, fps[k]) b ?_ hb)
    rw [List.getElem?_zip_eq_some]
    exact ⟨ha, List.getElem?_eq_getElem (by omega)⟩

theorem OwnII.is {v : AV} {xs : List (List Int)} {fp : List Nat} (hO : OwnII h v xs fp) : IsII h v xs := OwnL.is (fun k => OwnI.is k) hO
theorem OwnII.frame {v : AV} {xs : List (List Int)} {fp : List Nat} (hO : OwnII h v xs fp) (hf : ∀ o ∈ fp, h'.obj o = h.obj o) : OwnII h' v xs fp := OwnL.frame (fun k => OwnI.frame k) hO hf

theorem OwnI.lt {v : AV} {xs : List Int} {fp : List Nat} (hO : OwnI h v xs fp) (hw : HWF h) : ∀ o ∈ fp, o < h.next := by
  rcases hO with ⟨rfl, rfl, rfl⟩ | ⟨o, cap, rfl, ho, rfl⟩
  · intro o ho; cases ho
  · intro x hx; simp at hx; subst hx; exact hw.lt ho
theorem OwnL.lt {α : Type} {R : AHeap → AV → α → List Nat → Prop} (hR : ∀ {v : AV} {x : α} {fp : List Nat}, R h v x fp → ∀ o ∈ fp, o < h.next) {v : AV} {xs : List α} {fp : List Nat} (hO : OwnL R h v xs fp) (hw : HWF h) : ∀ o ∈ fp, o < h.next := by
  rcases hO with ⟨rfl, rfl, rfl⟩ | ⟨o, cap, vs, fps, rfl, ho, h1, h2, h3, rfl⟩
  · intro o ho; cases ho
  · intro x hx
    rcases List.mem_cons.1 hx with rfl | hx
    · exact hw.lt ho
    · obtain ⟨fp, hfp, hx⟩ := List.mem_flatten.1 hx
      obtain ⟨k, hk, rfl⟩ := List.getElem_of_mem hfp
      have hl := h2.1
      simp at hl
      refine hR (h2.2 k (vs[k], fps[k]) xs[k] ?_ (List.getElem?_eq_getElem (by omega))) x hx
      rw [List.getElem?_zip_eq_some]
      exact ⟨List.getElem?_eq_getElem (by omega), List.getElem?_eq_getElem hk⟩
theorem OwnII.lt {v : AV} {xs : List (List Int)} {fp : List Nat} (hO : OwnII h v xs fp) (hw : HWF h) : ∀ o ∈ fp, o < h.next := OwnL.lt (fun k => OwnI.lt k hw) hO hw

/- A SLICE THAT GROWS BY APPEND -/

/-- A slice that is nil, an empty literal, or has been made by append, of which the object is its own. -/
def Acc (h : AHeap) (v : AV) (vs : List AV) (ow : List Nat) : Prop := (v = .nils ∧ vs = [] ∧ ow = []) ∨ (∃ o, v = .sl o 0 0 (.known 0) ∧ vs = [] ∧ h.obj o = some ⟨true, []⟩ ∧ ow = [o]) ∨
  ∃ o, v = .sl o 0 vs.length (.grown 1) ∧ h.obj o = some ⟨true, vs⟩ ∧ vs.all AV.one = true ∧ ow = [o] ∧ vs ≠ []

theorem Acc.nil (h : AHeap) : Acc h .nils [] [] := .inl ⟨rfl, rfl, rfl⟩
theorem Acc.empty {o : Nat} (ho : h.obj o = some ⟨true, []⟩) : Acc h (.sl o 0 0 (.known 0)) [] [o] := .inr (.inl ⟨o, rfl, rfl, ho, rfl⟩)
theorem Acc.len {v : AV} {vs : List AV} {ow : List Nat} (ha : Acc h v vs ow) : aLen v = some (.int .i64 vs.length) := by
  rcases ha with ⟨rfl, rfl, rfl⟩ | ⟨o, rfl, rfl, _⟩ | ⟨o, rfl, _⟩ <;> rfl
theorem Acc.lt {v : AV} {vs : List AV} {ow : List Nat} (ha : Acc h v vs ow) (hw : HWF h) : ∀ o ∈ ow, o < h.next := by
  rcases ha with ⟨rfl, rfl, rfl⟩ | ⟨o, rfl, rfl, ho, rfl⟩ | ⟨o, rfl, ho, _, rfl, _⟩
  · intro o ho; cases ho
  · intro x hx; simp at hx; subst hx; exact hw.lt ho
  · intro x hx; simp at hx; subst hx; exact hw.lt ho
theorem Acc.frame {v : AV} {vs : List AV} {ow : List Nat} (ha : Acc h v vs ow) (hf : ∀ o ∈ ow, h'.obj o = h.obj o) : Acc h' v vs ow := by
  rcases ha with ⟨rfl, rfl, rfl⟩ | ⟨o, rfl, rfl, ho, rfl⟩ | ⟨o, rfl, ho, h1, rfl, h2⟩
  · exact .inl ⟨rfl, rfl, rfl⟩
  · exact .inr (.inl ⟨o, rfl, rfl, by rw [hf o (by simp)]; exact ho, rfl⟩)
  · exact .inr (.inr ⟨o, rfl, by rw [hf o (by simp)]; exact ho, h1, rfl, h2⟩)
theorem Acc.ownI {v : AV} {xs : List Int} {ow : List Nat} (ha : Acc h v (ints xs) ow) : OwnI h v xs ow := by
  rcases ha with ⟨rfl, h0, rfl⟩ | ⟨o, rfl, h0, ho, rfl⟩ | ⟨o, rfl, ho, h1, rfl, h2⟩
  · have : xs = [] := by simpa [ints] using h0
    subst this; exact .inl ⟨rfl, rfl, rfl⟩
  · have : xs = [] := by simpa [ints] using h0
    subst this; exact .inr ⟨o, _, rfl, ho, rfl⟩
  · exact .inr ⟨o, _, by rw [ints_length], ho, rfl⟩
theorem Acc.ownL {α : Type} {R : AHeap → AV → α → List Nat → Prop} {v : AV} {vs : List AV} {xs : List α} {ow : List Nat} {fps : List (List Nat)} (ha : Acc h v vs ow) (h2 : All2 (fun vf x => R h vf.1 x vf.2) (vs.zip fps) xs)
    (h3 : vs.length = fps.length) : OwnL R h v xs (ow ++ fps.flatten) := by
  have hl : vs.length = xs.length := by have := h2.1; simp at this; omega
  rcases ha with ⟨rfl, rfl, rfl⟩ | ⟨o, rfl, rfl, ho, rfl⟩ | ⟨o, rfl, ho, h1, rfl, hne⟩
  · have e1 : fps = [] := List.eq_nil_of_length_eq_zero h3.symm
    have e2 : xs = [] := List.eq_nil_of_length_eq_zero hl.symm
    subst e1; subst e2; exact .inl ⟨rfl, rfl, rfl⟩
  · have e1 : fps = [] := List.eq_nil_of_length_eq_zero h3.symm
    have e2 : xs = [] := List.eq_nil_of_length_eq_zero hl.symm
    subst e1; subst e2; exact .inr ⟨o, _, [], [], rfl, ho, rfl, h2, rfl, rfl⟩
  · exact .inr ⟨o, _, vs, fps, by rw [hl], ho, h1, h2, h3, rfl⟩

/-- What an append leaves: all but the old row is as it was. -/
structure Grew (h h' : AHeap) (ow ow' : List Nat) : Prop where
  next : h.next ≤ h'.next
  obj : ∀ o, o < h.next → o ∉ ow → h'.obj o = h.obj o
  wf : HWF h'
  new : ∀ o ∈ ow', (h.next ≤ o ∧ o < h'.next)

theorem Acc.append {v : AV} {vs : List AV} {ow : List Nat} (ha : Acc h v vs ow) (hw : HWF h) {o2 off2 m bytes : Nat} {cap2 : Cap} {news : List AV} (hr : h.rd o2 off2 m = some news) (hone : news.all AV.one = true) (hm : m ≠ 0)
    (hb : (vs.length + m) * bytes ≤ 140737488355328) (h63 : vs.length + m ≤ 4611686018427387904) {K : AV × AHeap → Prop} (hK : ∀ v' h' ow', Acc h' v' (vs ++ news) ow' → Grew h h' ow ow' → K (v', h')) :
    optK (aappend 1 bytes h v (.sl o2 off2 m cap2)) K := by
  have hnl := rd_length hr
  have hne : vs ++ news ≠ [] := by
    intro x
    have : (vs ++ news).length = 0 := by rw [x]; rfl
    rw [List.length_append] at this
    omega
  simp only [aappend, alen, Option.bind_some, if_neg hm, afirst, Nat.le_refl, if_true, Nat.mul_one, hr]
  rcases ha with ⟨rfl, rfl, rfl⟩ | ⟨o, rfl, rfl, ho, rfl⟩ | ⟨o, rfl, ho, h1, rfl, _⟩
  · simp only [agrow]
    rw [if_pos ⟨by simpa using hb, by simpa using h63⟩]
    rw [optK_some]
    refine hK _ _ [h.next] (.inr (.inr ⟨h.next, by simp [hnl], by simp [AHeap.new], by simpa using hone, rfl, hne⟩)) ⟨by simp [AHeap.new], fun o ho _ => new_obj_ne (by omega) _, hw.new _, fun o ho => by simp at ho; subst ho; simp [AHeap.new]⟩
  · have hlt := hw.lt ho
    have hr0 : h.rd o 0 (0 * 1) = some [] := rd_whole ho rfl
    simp only [agrow]
    rw [if_neg (by omega), if_pos ⟨by simpa using hb, by simpa using h63⟩, hr0]
    simp only [Option.map_some, Nat.zero_add]
    rw [optK_some]
    refine hK _ _ [h.next] (.inr (.inr ⟨h.next, by simp [hnl], by simp [AHeap.new], by simpa using hone, rfl, hne⟩)) ⟨by simp [AHeap.new], fun o ho _ => new_obj_ne (by omega) _, hw.new _, fun o ho => by simp at ho; subst ho; simp [AHeap.new]⟩
  · have hlt := hw.lt ho
    simp only [agrow]
    rw [if_pos (by refine ⟨hb, h63, ?_⟩ <;> trivial), ho]
    simp only [Option.bind_some, Nat.mul_one, Nat.zero_add, List.drop_zero, Nat.le_refl, and_self, if_true, List.take_length]
    rw [optK_some]
    refine hK _ _ [h.next] (.inr (.inr ⟨h.next, by simp [hnl], by simp [AHeap.new, AHeap.kill], by simp [h1, hone], rfl, hne⟩)) ⟨by simp [AHeap.new, AHeap.kill], fun x hx hxo => ?_, (hw.kill o).new _, fun x hx => by simp at hx; subst hx; simp [AHeap.new, AHeap.kill]⟩
    rw [new_obj_ne (by simp only [AHeap.kill]; omega), kill_obj_ne (by simpa using hxo)]

/-- append of nothing. -/
theorem Acc.append_zero {v : AV} {vs : List AV} {ow : List Nat} (ha : Acc h v vs ow) {x : AV} (hx : alen x = some 0) {bytes : Nat} {K : AV × AHeap → Prop} (hK : K (v, h)) : optK (aappend 1 bytes h v x) K := by
  simp only [aappend, hx, Option.bind_some, if_true]
  rcases ha with ⟨rfl, rfl, rfl⟩ | ⟨o, rfl, rfl, ho, rfl⟩ | ⟨o, rfl, ho, h1, rfl, _⟩
  · exact ⟨_, rfl, hK⟩
  · exact ⟨_, rfl, hK⟩
  · exact ⟨_, rfl, hK⟩

/-- 'out = append(out, x)': the new cell is laid down first. -/
theorem Acc.push {v : AV} {vs : List AV} {ow : List Nat} (ha : Acc h v vs ow) (hw : HWF h) {bytes : Nat} {c : AV} (hone : c.one = true)
    (hb : (vs.length + 1) * bytes ≤ 140737488355328) (h63 : vs.length + 1 ≤ 4611686018427387904) {K : AV × AHeap → Prop} (hK : ∀ v' h' ow', Acc h' v' (vs ++ [c]) ow' → Grew h h' ow ow' → K (v', h')) :
    optK (aappend 1 bytes (h.new ⟨true, [c]⟩) v (.sl h.next 0 1 (.known 1))) K := by
  have hlt := ha.lt hw
  refine (ha.frame (h' := h.new ⟨true, [c]⟩) fun o ho => new_obj_ne (by have := hlt o ho; omega) _).append (hw.new _) (news := [c]) (rd_whole (new_obj_eq _) rfl) (by simp [hone]) Nat.one_ne_zero hb h63 ?_
  intro v' h' ow' hacc hg
  refine hK v' h' ow' hacc ⟨Nat.le_trans (by simp [AHeap.new]) hg.next, fun o ho hno => (hg.obj o (by simp only [new_next]; omega) hno).trans (new_obj_ne (by omega) _), hg.wf, fun o ho => ⟨by have := (hg.new o ho).1; simp only [new_next] at this; omega, (hg.new o ho).2⟩⟩

theorem Grew.ext (hx : Ext h h') {ow ow' : List Nat} (hg : Grew h' h'' ow ow') (hlo : ∀ o ∈ ow, h.next ≤ o) : Ext h h'' :=
  ⟨Nat.le_trans hx.next hg.next, fun o ho => (hg.obj o (by have := hx.next; omega) (fun hm => by have := hlo o hm; omega)).trans (hx.obj o ho), hg.wf⟩

/-- append of what reads as numbers. -/
theorem Acc.appendI {v x : AV} {xs ys : List Int} {ow : List Nat} (ha : Acc h v (ints xs) ow) (hw : HWF h) (hx : IsI h x ys) {bytes : Nat} (hb : (xs.length + ys.length) * bytes ≤ 140737488355328) (h63 : xs.length + ys.length ≤ 4611686018427387904)
    {lo : Nat} (hlo : ∀ o ∈ ow, lo ≤ o) (hln : lo ≤ h.next) {K : AV × AHeap → Prop} (hK : ∀ v' h' ow', Acc h' v' (ints (xs ++ ys)) ow' → (∀ o, o < h.next → o ∉ ow → h'.obj o = h.obj o) → h.next ≤ h'.next → HWF h' → (∀ o ∈ ow', lo ≤ o) → K (v', h')) :
    optK (aappend 1 bytes h v x) K := by
  by_cases h0 : ys.length = 0
  · have hy : ys = [] := List.eq_nil_of_length_eq_zero h0
    subst hy
    refine ha.append_zero ?_ (hK v h ow (by simpa using ha) (fun _ _ _ => rfl) (Nat.le_refl _) hw hlo)
    rcases hx with ⟨rfl, _⟩ | ⟨o, off, cap, rfl, _⟩ <;> rfl
  · rcases hx with ⟨_, rfl⟩ | ⟨o, off, cap, rfl, hr⟩
    · exact absurd rfl h0
    · refine ha.append hw hr (ints_one ys) h0 (by rw [ints_length]; exact hb) (by rw [ints_length]; exact h63) ?_
      intro v' h' ow' hacc hg
      rw [ints_append] at hacc
      exact hK v' h' ow' hacc hg.obj hg.next hg.wf fun o ho => Nat.le_trans hln (hg.new o ho).1

end Go.Ab
