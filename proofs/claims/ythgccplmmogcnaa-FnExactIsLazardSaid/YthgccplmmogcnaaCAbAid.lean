/-
  Small aids for the proofs of functions.
-/
import Derived.Test.YthgccplmmogcnaaCAbHeap
set_option linter.unusedVariables false
namespace Go.Ab
variable {P : Program} {h h' : AHeap} {K : AV → AHeap → Prop}

theorem kt {p : Prop} [Decidable p] (hk : K (.bool (decide p)) h) (hp : p) : K (.bool true) h := by
  rw [decide_eq_true hp] at hk; exact hk
theorem kf {p : Prop} [Decidable p] (hk : K (.bool (decide p)) h) (hp : ¬ p) : K (.bool false) h := by
  rw [decide_eq_false hp] at hk; exact hk
theorem ke {p q : Prop} [Decidable p] [Decidable q] (hk : K (.bool (decide p)) h) (hp : p ↔ q) : K (.bool (decide q)) h := by
  have : decide q = decide p := decide_eq_decide.2 hp.symm
  rw [this]; exact hk
theorem knot (b : Bool) (x y : Prop) : condK (.bool (!b)) x y = if b = true then y else x := by cases b <;> rfl

theorem wrapN {n : Int} (h1 : -9223372036854775808 ≤ n) (h2 : n ≤ 9223372036854775807) : IntKind.i64.wrap n = n := wrap64 h1 h2
theorem castS (i : Nat) : (i : Int) + 1 = ((i + 1 : Nat) : Int) := by omega
theorem aIndex_in {sz o off len : Nat} {c : Cap} {k : IntKind} {n : Int} (h0 : 0 ≤ n) (h1 : n < len) : aIndex sz (.sl o off len c) (.int k n) = some (.ptr o (off + n.toNat * sz)) := by
  rw [aIndex_sl, if_pos ⟨h0, h1⟩]

theorem wrapS {i n : Nat} (hi : i < n) (hn : n ≤ 4611686018427387904) : IntKind.i64.wrap ((i : Int) + 1) = ((i + 1 : Nat) : Int) := by
  rw [wrap64 (by omega) (by omega)]; omega
theorem wrapA {a b : Nat} (hn : a + b ≤ 4611686018427387904) : IntKind.i64.wrap ((a : Int) + (b : Int)) = ((a + b : Nat) : Int) := by
  rw [wrap64 (by omega) (by omega)]; omega
theorem cells_int (k : IntKind) (n : Int) : AV.cells (.int k n) = [.int k n] := rfl
theorem one_int (k : IntKind) (n : Int) : AV.one (.int k n) = true := rfl
theorem cells_bool (b : Bool) : AV.cells (.bool b) = [.bool b] := rfl
theorem one_bool (b : Bool) : AV.one (.bool b) = true := rfl
theorem cells_str (s : List UInt8) : AV.cells (.str s) = [.str s] := rfl
theorem one_str (s : List UInt8) : AV.one (.str s) = true := rfl
theorem cells_nilp  : AV.cells (.nilp) = [.nilp] := rfl
theorem one_nilp  : AV.one (.nilp) = true := rfl
theorem cells_ptr (o i : Nat) : AV.cells (.ptr o i) = [.ptr o i] := rfl
theorem one_ptr (o i : Nat) : AV.one (.ptr o i) = true := rfl
theorem cells_nils  : AV.cells (.nils) = [.nils] := rfl
theorem one_nils  : AV.one (.nils) = true := rfl
theorem cells_sl (o off n : Nat) (c : Cap) : AV.cells (.sl o off n c) = [.sl o off n c] := rfl
theorem one_sl (o off n : Nat) (c : Cap) : AV.one (.sl o off n c) = true := rfl
theorem cells_nilf  : AV.cells (.nilf) = [.nilf] := rfl
theorem one_nilf  : AV.one (.nilf) = true := rfl
theorem cells_clo (f : FuncId) (a b : List AV) : AV.cells (.clo f a b) = [.clo f a b] := rfl
theorem one_clo (f : FuncId) (a b : List AV) : AV.one (.clo f a b) = true := rfl
theorem cells_agg (cs : List AV) : AV.cells (.agg cs) = cs := rfl
/-- Of lists. -/
theorem forall_snoc {xs : List Int} {i : Nat} (hi : i < xs.length) {p : Int → Prop} (h : ∀ x ∈ xs.take i, p x) (hx : p xs[i]) : ∀ x ∈ xs.take (i + 1), p x := by
  rw [List.take_succ_eq_append_getElem hi]
  intro x hm
  rcases List.mem_append.1 hm with hm | hm
  · exact h x hm
  · simp at hm; subst hm; exact hx
theorem forall_all {α : Type} {xs : List α} {i : Nat} (hi : ¬ i < xs.length) {p : α → Prop} (h : ∀ x ∈ xs.take i, p x) : ∀ x ∈ xs, p x := by
  rwa [List.take_of_length_le (by omega)] at h
theorem forallA_snoc {α : Type} {xs : List α} {i : Nat} (hi : i < xs.length) {p : α → Prop} (h : ∀ x ∈ xs.take i, p x) (hx : p xs[i]) : ∀ x ∈ xs.take (i + 1), p x := by
  rw [List.take_succ_eq_append_getElem hi]
  intro x hm
  rcases List.mem_append.1 hm with hm | hm
  · exact h x hm
  · simp at hm; subst hm; exact hx

theorem afill_nil (cs : List AV) : afill cs [] = some cs := rfl
theorem afill_cons (cs : List AV) (off size : Nat) (v : AV) (r : List (Nat × Nat × AV)) : afill cs ((off, size, v) :: r) =
    if v.cells.length = size ∧ off + size ≤ cs.length ∧ v.cells.all AV.one = true then afill (cs.take off ++ v.cells ++ cs.drop (off + size)) r else none := rfl
theorem zeros_zero (z : List AV) : zeros z 0 = [] := rfl
theorem zeros_one1 (v : AV) : zeros [v] 1 = [v] := rfl
theorem zeros_single (v : AV) (n : Nat) : zeros [v] n = List.replicate n v := by
  simp [zeros, List.flatten_replicate_singleton]
/-- A literal of one element. -/
theorem afill_one {v : AV} (z : AV) (hc : v.cells = [v]) (h1 : v.one = true) : afill (zeros [z] 1) [(0, 1, v)] = some [v] := by
  rw [zeros_one1, afill_cons, if_pos ⟨by rw [hc]; rfl, by simp, by rw [hc]; simp [h1]⟩, hc]
  rfl
theorem afill_onei (z : AV) (k : IntKind) (x : Int) : afill (zeros [z] 1) [(0, 1, .int k x)] = some [.int k x] := rfl

theorem Ext.is {v : AV} {xs : List Int} (hx : Ext h h') (hw : HWF h) (hI : IsI h v xs) : IsI h' v xs := hI.mono hw hx
theorem take_set_rep {α : Type} (l : List α) (z : α) {i : Nat} (hi : i < l.length) : (l.take i ++ List.replicate (l.length - i) z).set i l[i] = l.take (i + 1) ++ List.replicate (l.length - (i + 1)) z := by
  obtain ⟨k, hk⟩ : ∃ k, l.length - i = k + 1 := ⟨l.length - i - 1, by omega⟩
  have h1 : (l.take i).length = i := by rw [List.length_take]; omega
  rw [hk, List.replicate_succ, List.set_append, if_neg (by omega), h1, Nat.sub_self, List.set_cons_zero, List.take_succ_eq_append_getElem hi, List.append_assoc, List.singleton_append]
  congr 3
  omega
theorem new_set (h : AHeap) (a b : List AV) : (h.new ⟨true, a⟩).set h.next b = h.new ⟨true, b⟩ := by
  simp only [AHeap.set, AHeap.new]
  congr 1
  funext x
  by_cases hx : x = h.next <;> simp [hx]
theorem rd1_new (ob : AObj) (o i : Nat) : (h.new ob).rd1 o i = if o = h.next then ob.cells[i]? else h.rd1 o i := by
  by_cases hx : o = h.next <;> simp [AHeap.rd1, AHeap.new, hx]
theorem rd_new (ob : AObj) (o i n : Nat) : (h.new ob).rd o i n = if o = h.next then (if i + n ≤ ob.cells.length then some ((ob.cells.drop i).take n) else none) else h.rd o i n := by
  by_cases hx : o = h.next <;> simp [AHeap.rd, AHeap.new, hx]
theorem wr_new (ob : AObj) (o i : Nat) (vs : List AV) : (h.new ob).wr o i vs =
    if o = h.next then (if ob.rw = true ∧ i + vs.length ≤ ob.cells.length ∧ vs.all AV.one = true then some (h.new ⟨true, ob.cells.take i ++ vs ++ ob.cells.drop (i + vs.length)⟩) else none)
    else (h.wr o i vs).map fun h' => h'.new ob := by
  by_cases hx : o = h.next
  · subst hx
    simp only [AHeap.wr, new_obj_eq, Option.bind_some, if_true]
    split
    · congr 1
      simp only [AHeap.set, AHeap.new]
      congr 1
      funext x
      by_cases hy : x = h.next <;> simp [hy]
    · rfl
  · simp only [AHeap.wr, new_obj_ne hx, if_neg hx]
    cases ho : h.obj o with
    | none => rfl
    | some ob' =>
      simp only [Option.bind_some]
      split
      · simp only [Option.map_some]
        congr 1
        simp only [AHeap.set, AHeap.new]
        congr 1
        funext x
        by_cases hy : x = o
        · subst hy; simp [hx]
        · simp [hy]
      · rfl
theorem Ext.rd1 (hx : Ext h h') {o : Nat} (ho : o < h.next) (i : Nat) : h'.rd1 o i = h.rd1 o i := rd1_congr (hx.obj o ho)
theorem Ext.rd (hx : Ext h h') {o : Nat} (ho : o < h.next) (i n : Nat) : h'.rd o i n = h.rd o i n := rd_congr (hx.obj o ho)
theorem Ext.ob (hx : Ext h h') {o : Nat} {ob : AObj} (ho : o < h.next) (h1 : h.obj o = some ob) : h'.obj o = some ob := by rw [hx.obj o ho]; exact h1
theorem wr_obj {o i : Nat} {cs vs : List AV} (ho : h.obj o = some ⟨true, cs⟩) (hl : i + vs.length ≤ cs.length) (hv : vs.all AV.one = true) : h.wr o i vs = some (h.set o (cs.take i ++ vs ++ cs.drop (i + vs.length))) := by
  simp only [AHeap.wr, ho, Option.bind_some]
  rw [if_pos ⟨trivial, hl, hv⟩]
theorem rd_obj3 {o : Nat} {b : Bool} {x y z : AV} (ho : h.obj o = some ⟨b, [x, y, z]⟩) : h.rd o 0 3 = some [x, y, z] := rd_whole ho rfl
/- The boxes that a function lays down as it begins. -/
theorem box1 (hw : HWF h) (c0 : List AV) : ∃ hh, h.new ⟨true, c0⟩ = hh ∧ Ext h hh ∧ hh.next = h.next + 1 ∧ ∀ k, Ext hh k → k.obj h.next = some ⟨true, c0⟩ := by
  have hx1 := Ext.new hw ⟨true, c0⟩
  exact ⟨_, rfl, hx1, rfl, fun k hk => hk.ob (by simp [AHeap.new]) (by simp [AHeap.new])⟩
theorem box2 (hw : HWF h) (c0 c1 : List AV) : ∃ hh, (h.new ⟨true, c0⟩).new ⟨true, c1⟩ = hh ∧ Ext h hh ∧ hh.next = h.next + 2 ∧ ∀ k, Ext hh k → k.obj h.next = some ⟨true, c0⟩ ∧ k.obj (h.next + 1) = some ⟨true, c1⟩ := by
  have hx1 := Ext.new hw ⟨true, c0⟩
  have hx2 := hx1.trans (Ext.new hx1.wf ⟨true, c1⟩)
  exact ⟨_, rfl, hx2, rfl, fun k hk => ⟨hk.ob (by simp [AHeap.new]; omega) (by simp [AHeap.new]), hk.ob (by simp [AHeap.new]) (by simp [AHeap.new])⟩⟩
theorem box3 (hw : HWF h) (c0 c1 c2 : List AV) : ∃ hh, ((h.new ⟨true, c0⟩).new ⟨true, c1⟩).new ⟨true, c2⟩ = hh ∧ Ext h hh ∧ hh.next = h.next + 3 ∧ ∀ k, Ext hh k → k.obj h.next = some ⟨true, c0⟩ ∧ k.obj (h.next + 1) = some ⟨true, c1⟩ ∧ k.obj (h.next + 2) = some ⟨true, c2⟩ := by
  obtain ⟨hh, rfl, hx, hn, hq⟩ := box2 hw c0 c1
  have hx3 := Ext.new hx.wf ⟨true, c2⟩
  exact ⟨_, rfl, hx.trans hx3, by rw [new_next, hn], fun k hk => ⟨(hq k (hx3.trans hk)).1, (hq k (hx3.trans hk)).2, hk.ob (by rw [new_next, hn]; omega) (by rw [← hn]; exact new_obj_eq _)⟩⟩
theorem box4 (hw : HWF h) (c0 c1 c2 c3 : List AV) : ∃ hh, (((h.new ⟨true, c0⟩).new ⟨true, c1⟩).new ⟨true, c2⟩).new ⟨true, c3⟩ = hh ∧ Ext h hh ∧ hh.next = h.next + 4 ∧ ∀ k, Ext hh k → k.obj h.next = some ⟨true, c0⟩ ∧ k.obj (h.next + 1) = some ⟨true, c1⟩ ∧ k.obj (h.next + 2) = some ⟨true, c2⟩ ∧ k.obj (h.next + 3) = some ⟨true, c3⟩ := by
  obtain ⟨hh, rfl, hx, hn, hq⟩ := box3 hw c0 c1 c2
  have hx3 := Ext.new hx.wf ⟨true, c3⟩
  exact ⟨_, rfl, hx.trans hx3, by rw [new_next, hn], fun k hk => ⟨(hq k (hx3.trans hk)).1, (hq k (hx3.trans hk)).2.1, (hq k (hx3.trans hk)).2.2, hk.ob (by rw [new_next, hn]; omega) (by rw [← hn]; exact new_obj_eq _)⟩⟩
end Go.Ab
