/- The law of isomorphisms of Lie rings: the given statement. -/
import Derived.Test.YthgccplmmogcnaaBVU13
import Derived.Test.YthgccplmmogcnaaBVU21
namespace Go.Proofs.Ythgccplmmogcnaa
open Go.ChangeShapes Go.WideShapes Go.ChangeAt Go.RowKit Go.Ab Go.Joins Go.Lie Go.Proofs
set_option linter.unusedVariables false

set_option maxRecDepth 100000 in
theorem lieIsoContract {H : Type} {enc : TypeId × Value → H} (W : World) (base : Nat) (args : Array Value) (ds gs : List (DataW H)) (before : List MemPlace)
    (hval : ∀ (j : Nat) t v, Try.f5.params[j]? = some t → args[j]? = some v → Value.okWide Try.prog W .any base t v)
    (hW : DataW.Whole enc Try.prog Try.f5.params.toList Rows.fnExactIsLieIsomorphismSpec.vars false W args.toList ds gs before) :
    Calls Try.prog 5 args W fun e W' => ∃ v, e = .returned v ∧ Rows.fnExactIsLieIsomorphismSpec.post enc Try.prog Try.f5 false true false false W args v W' := by
  have hW' := hW
  obtain ⟨p, q, hA0, hV, rfl, hfz, hnd⟩ := hW
  have hA : DataW.TrodAll enc Try.prog W 0 (fun _ => true) true Try.f5.params.toList args.toList ds p := hA0
  rw [Try.params5] at hA hval
  obtain ⟨v0, vs0, d0, ds0, p0, q0, hargs, rfl, rfl, t0, r0⟩ := trodAll_cons hA
  obtain ⟨v1, vs1, d1, ds1, p1, q1, rfl, rfl, rfl, t1, r1⟩ := trodAll_cons r0
  obtain ⟨v2, vs2, d2, ds2, p2, q2, rfl, rfl, rfl, ⟨n2, t2⟩, r2⟩ := trodAll_cons r1
  obtain ⟨rfl, rfl, rfl⟩ := trodAll_nil r2
  obtain rfl : args = #[v0, v1, v2] := by cases args; simp_all
  obtain ⟨j1, h1, a1, vP1, vB1, W1, B1, m1, l1, e1, i1, o1, R1, x1⟩ := layLie (MR.empty W) (hval 0 25 v0 rfl rfl) t0
  obtain ⟨j2, h2, a2, vP2, vB2, W2, B2, m2, l2, e2, i2, o2, R2, x2⟩ := layLie m1 (hval 1 25 v1 rfl rfl) t1
  obtain ⟨s0, s1, s2, hv2⟩ := okWide_slice Try.underlying22 (hval 2 22 v2 rfl rfl)
  have hc2 : v2.cells.toList = [v2] := by rw [hv2]; rfl
  rw [hc2] at t2
  obtain ⟨j3, h3, vL, im, m3, l3, e3, i3, o3, _, R3, y3, z3⟩ := layII _ j2 h2 true n2 _ _ m2 t2
  have pc := FnExactIsLieIsomorphism_ok (σ := PHeap.start h3) (K := fun v _ => v = .bool true) (p := a1) (p' := a2) R1 R2 x1 x2 R3 y3 z3 (fun _ => rfl)
  have ac := pc.law m3.wf ⟨(e2.trans e3).vok o1, e3.vok o2, o3, trivial⟩
  refine (ac.calls m3 (cargs := #[v0, v1, v2]) ⟨_, _, rfl, VI.mono (l2.trans l3) _ _ i1, _, _, rfl, VI.mono l3 _ _ i2, _, _, rfl, i3, rfl⟩).mono fun e W' ⟨he, hb⟩ => ?_
  exact ⟨_, he, post_of_below rfl laidOut (by rw [Try.params5]; intro t ht; simp only [List.mem_cons, List.not_mem_nil, or_false] at ht; rcases ht with rfl | rfl | rfl <;> exact ⟨by kernel_rfl, of_decide_eq_true (by kernel_rfl)⟩) (by kernel_rfl) Try.underlying4 rfl hW' hb⟩

set_option maxRecDepth 100000 in
theorem lieIsoLifted (os : Os) (started : os.Started) (H : Type) (enc : TypeId × Value → H) :
    ReturnsInHanded {} Try.checked os 5 .any (Rows.fnExactIsLieIsomorphismSpec.pre6 enc Try.prog Try.f5 Rows.fnExactIsLieIsomorphismRow.domain false) (Rows.fnExactIsLieIsomorphismSpec.post enc Try.prog Try.f5 false true false false) := by
  refine returnsInHanded_of_change (C := Try.checked) own started (by kernel_rfl) Try.func5
    (ChangeSpec.witness6 (enc := enc) (C := Try.checked) false ⟨#[], #[.agg #[.int .i64 0, .slice none 0 0, .slice none 0 0], .agg #[.int .i64 0, .slice none 0 0, .slice none 0 0], .slice none 0 0], []⟩ 8 (by kernel_rfl) (by kernel_rfl) (by kernel_rfl) (by kernel_rfl)) ?_
  intro W base args ds gs before hval hW _ _
  exact lieIsoContract W base args ds gs before hval hW

theorem lieIsoProved : Rows.FnExactIsLieIsomorphismSaid :=
  OpenClaim.holds_of_wide 5 Try.f5 rfl rfl rfl rfl rfl rfl rfl ⟨rfl, rfl, rfl, rfl, rfl⟩ rfl rfl rfl rfl rfl (by kernel_rfl) Try.func5 (by kernel_rfl)
    (of_decide_eq_true (by kernel_rfl)) (by unfold Func.isWrapper; first | (rw [if_pos (by decide +kernel)]; kernel_rfl) | (rw [if_neg (by decide +kernel)]; exact ⟨rfl, rfl⟩))
    (fun os started H enc _ => lieIsoLifted os started H enc)

end Go.Proofs.Ythgccplmmogcnaa
