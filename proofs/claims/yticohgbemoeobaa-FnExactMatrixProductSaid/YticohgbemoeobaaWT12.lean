/- The law of the product of matrices: the given statement. -/
import Derived.Test.YticohgbemoeobaaWT11
import Derived.Test.YticohgbemoeobaaAbClose
import Derived.Test.YticohgbemoeobaaRows
import Derived.Lib.SmallJoins
import Derived.WalkKit
import Derived.ProofKit
namespace Go.Proofs.Yticohgbemoeobaa
open Go.ChangeShapes Go.WideShapes Go.ChangeAt Go.RowKit Go.Ab Go.Joins
set_option linter.unusedVariables false

theorem own : ownKnob Try.prog.godebug = none := by kernel_rfl
theorem laidOut : laidOutB Try.prog = true := by kernel_rfl
theorem cell22 : Try.prog.cellsOf 22 = 1 := by kernel_rfl
theorem cell24 : Try.prog.cellsOf 24 = 3 := by kernel_rfl
theorem types24 : Try.prog.cellTypes Try.prog.depth 24 = some [2, 2, 22] := by kernel_rfl

set_option maxRecDepth 100000 in
/-- A matrix that is handed over. -/
theorem layMatrix {H : Type} {enc : TypeId × Value → H} {W w0 : World} {j : Inj} {h : AHeap} {b0 : Nat} {v : Value} {d : DataW H} {p : List MemPlace} (m : MR W.heap.size w0 j h W) (hv : Value.okWide Try.prog W .any b0 24 v) (ht : DataW.Trod enc Try.prog W 0 (fun _ => true) true 24 v d p) :
    ∃ (j' : Inj) (h' : AHeap) (a c : Int) (av : AV) (xs : List (List Int)), MR W.heap.size w0 j' h' W ∧ j.le j' ∧ Ext h h' ∧ VI j' (.agg [.int .i64 a, .int .i64 c, av]) v ∧ IsII h' av xs ∧ xs.length ≤ 9223372036854775807 ∧ ∀ y ∈ xs, y.length ≤ 9223372036854775807 := by
  obtain ⟨v0, v1, v2, y0, y1, y2, n, rfl, rfl, rfl, t0, t1, t2⟩ := open_agg3 Try.underlying24 (by kernel_rfl) cell24 hv ht
  obtain ⟨a, ha, _, _⟩ := DataW.trod_int Try.underlying2 t0
  obtain ⟨c, hc, _, _⟩ := DataW.trod_int Try.underlying2 t1
  simp only [List.cons.injEq, and_true] at ha hc
  subst ha; subst hc
  have hpl := okWide_place Try.underlying22 (okWide_field Try.underlying24 types24 hv (i := 2) (u := 22) rfl (v := v2) rfl)
  obtain ⟨j', h', av, xs, m', l, e, hvi, hI, b1, b2⟩ := m.layII Try.underlying22 Try.underlying42 Try.underlying2 (by kernel_rfl) (by kernel_rfl) t2 hpl
  exact ⟨j', h', a, c, av, xs, m', l, e, ⟨_, ⟨_, _, rfl, rfl, _, _, rfl, rfl, _, _, rfl, hvi, rfl⟩, rfl⟩, hI, b1, b2⟩

set_option maxRecDepth 100000 in
theorem productContract {H : Type} {enc : TypeId × Value → H} (W : World) (base : Nat) (args : Array Value) (ds gs : List (DataW H)) (before : List MemPlace)
    (hval : ∀ (j : Nat) t v, Try.f3.params[j]? = some t → args[j]? = some v → Value.okWide Try.prog W .any base t v)
    (hW : DataW.Whole enc Try.prog Try.f3.params.toList Rows.fnExactMatrixProductSpec.vars false W args.toList ds gs before) :
    Calls Try.prog 3 args W fun e W' => ∃ v, e = .returned v ∧ Rows.fnExactMatrixProductSpec.post enc Try.prog Try.f3 false true false false W args v W' := by
  have hW' := hW
  obtain ⟨p, q, hA0, hV, rfl, hfz, hnd⟩ := hW
  have hA : DataW.TrodAll enc Try.prog W 0 (fun _ => true) true Try.f3.params.toList args.toList ds p := hA0
  rw [Try.params3] at hA hval
  obtain ⟨v0, vs0, d0, ds0, p0, q0, hargs, rfl, rfl, t0, r0⟩ := trodAll_cons hA
  obtain ⟨v1, vs1, d1, ds1, p1, q1, rfl, rfl, rfl, t1, r1⟩ := trodAll_cons r0
  obtain ⟨rfl, rfl, rfl⟩ := trodAll_nil r1
  obtain rfl : args = #[v0, v1] := by cases args; simp_all
  obtain ⟨j1, h1, a, c, av, xs, m1, l1, e1, i1, I1, b1, b2⟩ := layMatrix (MR.empty W) (hval 0 24 v0 rfl rfl) t0
  obtain ⟨j2, h2, a2, c2, bv, ys, m2, l2, e2, i2, I2, b3, b4⟩ := layMatrix m1 (hval 1 24 v1 rfl rfl) t1
  refine ((FnExactMatrixProduct_ok (I1.mono m1.wf e2) I2 b1 b2 b3 b4 (fun _ _ => rfl)).calls m2 (cargs := #[v0, v1]) ⟨_, _, rfl, VI.mono l2 _ _ i1, _, _, rfl, i2, rfl⟩).mono fun e W' ⟨he, hb⟩ => ?_
  exact ⟨_, he, post_of_below rfl laidOut (by rw [Try.params3]; intro t ht; simp only [List.mem_cons, List.not_mem_nil, or_false, or_self] at ht; subst ht; exact ⟨by kernel_rfl, of_decide_eq_true (by kernel_rfl)⟩) (by kernel_rfl) Try.underlying4 rfl hW' hb⟩

set_option maxRecDepth 100000 in
theorem productLifted (os : Os) (started : os.Started) (H : Type) (enc : TypeId × Value → H) :
    ReturnsInHanded {} Try.checked os 3 .any (Rows.fnExactMatrixProductSpec.pre6 enc Try.prog Try.f3 Rows.fnExactMatrixProductRow.domain false) (Rows.fnExactMatrixProductSpec.post enc Try.prog Try.f3 false true false false) := by
  refine returnsInHanded_of_change (C := Try.checked) own started (by kernel_rfl) Try.func3
    (ChangeSpec.witness6 (enc := enc) (C := Try.checked) false ⟨#[], #[.agg #[.int .i64 0, .int .i64 0, .slice none 0 0], .agg #[.int .i64 0, .int .i64 0, .slice none 0 0]], []⟩ 8 (by kernel_rfl) (by kernel_rfl) (by kernel_rfl) (by kernel_rfl)) ?_
  intro W base args ds gs before hval hW _ _
  exact productContract W base args ds gs before hval hW

theorem productProved : Rows.FnExactMatrixProductSaid :=
  OpenClaim.holds_of_wide 3 Try.f3 rfl rfl rfl rfl rfl rfl rfl ⟨rfl, rfl, rfl, rfl, rfl⟩ rfl rfl rfl rfl rfl (by kernel_rfl) Try.func3 (by kernel_rfl)
    (of_decide_eq_true (by kernel_rfl)) (by unfold Func.isWrapper; first | (rw [if_pos (by decide +kernel)]; kernel_rfl) | (rw [if_neg (by decide +kernel)]; exact ⟨rfl, rfl⟩))
    (fun os started H enc _ => productLifted os started H enc)

end Go.Proofs.Yticohgbemoeobaa
