/- The given statement on roots in Lazard rings: its law holds for every input. -/
import Derived.Test.YtpcjbkbcaiphmaaHP27
import Derived.Test.YtpcjbkbcaiphmaaHP28
import Derived.Test.YtpcjbkbcaiphmaaHP29
import Derived.Test.YtpcjbkbcaiphmaaHP30
import Derived.Test.YtpcjbkbcaiphmaaHP33
import Derived.Test.YtpcjbkbcaiphmaaHP38
import Derived.Test.YtpcjbkbcaiphmaaHP39
open Nat renaming reduceLeDiff → nQ7, reduceEqDiff → nQ10, reduceBEq → nQ11, reduceAdd → nQ12, reduceLT → nQ16, reduceSub → nQ17, reduceMul → nQ18
open Int renaming reduceEq → iQ2, reduceLT → iQ3, reduceLE → iQ4, reduceNeg → iQ5, reduceToNat → iQ6, ofNat_le → iQ7
open List renaming reduceReplicate → lQ19, getElem?_drop → lQ20
set_option linter.unusedSimpArgs false
set_option linter.unusedVariables false
namespace Go.Proofs
open Go.Ab Go.Lie
variable {σ : PHeap} {K : PV → PHeap → Prop} {p : Int} {W : List (List Int)} {B : List (List (List Int))} {vC : PV} {bs x z : List Int} {k : Int}
theorem RootR.zero {c : Int} (h : RootR p W B k x z c) (hc : c = 0) : CodeL p W B [x] 0 ∧ (1 ≤ k ∧ k ≤ 1000000) ∧ k % p ≠ 0 ∧ DivL p W.length W k x z := by
  rcases h with ⟨c', h1, h2, h3, h4⟩ | ⟨_, _, h4, _⟩ | ⟨h1, h2, _, h4⟩
  · omega
  · omega
  · exact ⟨h1, h2.1, h2.2, h4⟩
theorem root_times (h : RootR p W B k x z 0) : lmul p W k z = x := by
  obtain ⟨hc, hk, hm, hd⟩ := h.zero rfl
  obtain ⟨⟨hl, he⟩, hz⟩ := hc.zero
  have o := hl.1.w
  have hx := he x (by simp)
  have := (lmul_eqv o hd.el k).trans (hd.eqv (cop_of_mod hl.1.1 hm))
  exact eqv_unique o (lmix_el o hd.el hd.el).1 hx.1 (lmix_el o hd.el hd.el).2 hx.2 this
theorem times_root {z' : List Int} {c : Int} (h : RootR p W B k x z 0) (g : RootR p W B k (lmul p W k x) z' c) : z' = x ∧ c = 0 := by
  obtain ⟨hc, hk, hm, hd⟩ := h.zero rfl
  obtain ⟨⟨hl, he⟩, hz⟩ := hc.zero
  have o := hl.1.w
  have hx := he x (by simp)
  have hcop := cop_of_mod hl.1.1 hm
  have hy := lmix_el o hx hx (k := k) (m := 0)
  have e := dv_of o hcop hy hx (lmul_eqv o hx k).symm
  have hd2 := dv_spec o hy (k := k)
  rw [← e] at hd2
  exact g.unique (.inr (.inr ⟨.inr (.inr ⟨⟨hl, el1 hy⟩, hz, rfl⟩), ⟨hk, hm⟩, rfl, hd2⟩))
theorem FnRoots_ok (hb : FB vC bs) (hbd : ∀ b ∈ bs, 0 ≤ b ∧ b ≤ 255) (hk : ∀ σ', K (.bool true) σ') : PCalls Try.prog 3 [vC] σ K := by
  refine pcalls_of_vp mix Try.func3 cf3 rfl ?_
  dsimp only [if3, qI, eI, nI, qD, eD]
  simp only [pwA, if_true, if_false, eq_self, nm_eq, reduceCtorEq, ↓reduceIte, nQ10, nQ7, nQ11, nQ12, nQ16, nQ17, nQ18, iQ2, iQ3, iQ4, iQ5, iQ6, lQ19, iQ7, lQ20, hb.one]
  refine big_ok hb fun t ht => ?_
  cases t with
  | true =>
    simp only [pwA, if_true, if_false, eq_self, nm_eq, reduceCtorEq, ↓reduceIte, nQ10, nQ7, nQ11, nQ12, nQ16, nQ17, nQ18, iQ2, iQ3, iQ4, iQ5, iQ6, lQ19, iQ7, lQ20]
    exact hk _
  | false =>
  have hlen : bs.length ≤ 4096 := by
    rcases Nat.lt_or_ge 4096 bs.length with e | e
    · have := ht.2 e; cases this
    · exact e
  simp only [pwA, if_true, if_false, eq_self, nm_eq, reduceCtorEq, ↓reduceIte, nQ10, nQ7, nQ11, nQ12, nQ16, nQ17, nQ18, iQ2, iQ3, iQ4, iQ5, iQ6, lQ19, iQ7, lQ20, hb.one]
  refine DrawRootOf_ok hb ⟨by omega, hbd⟩ fun p vP vB W B k vx x d hR hkb hvx hxl => ?_
  have g1 := hR.P.one
  have g2 := hR.B.one
  have sz := d.sz
  simp only [pwA, if_true, if_false, eq_self, nm_eq, reduceCtorEq, ↓reduceIte, nQ10, nQ7, nQ11, nQ12, nQ16, nQ17, nQ18, iQ2, iQ3, iQ4, iQ5, iQ6, lQ19, iQ7, lQ20, g1, g2]
  refine RootOf_T hR sz hvx (by omega) fun v z c t hz hv ho ht => ?_
  simp only [pwA, if_true, if_false, eq_self, nm_eq, reduceCtorEq, ↓reduceIte, nQ10, nQ7, nQ11, nQ12, nQ16, nQ17, nQ18, iQ2, iQ3, iQ4, iQ5, iQ6, lQ19, iQ7, lQ20, g1, g2]
  refine l33Root_ok hR sz hvx (by omega) fun v2 z2 c2 hz2 hv2 => ?_
  obtain ⟨rfl, rfl⟩ := hz.unique hz2
  have hzl := hz.bd
  simp only [pwA, if_true, if_false, eq_self, nm_eq, reduceCtorEq, ↓reduceIte, nQ10, nQ7, nQ11, nQ12, nQ16, nQ17, nQ18, iQ2, iQ3, iQ4, iQ5, iQ6, lQ19, iQ7, lQ20, g1, g2]
  refine likeInts_ok hv hv2 (by omega) fun t ht => ?_
  obtain rfl : t = true := ht.2 rfl
  by_cases hc : c = 0
  rotate_left
  · simp only [pwA, if_true, if_false, eq_self, nm_eq, reduceCtorEq, ↓reduceIte, nQ10, nQ7, nQ11, nQ12, nQ16, nQ17, nQ18, iQ2, iQ3, iQ4, iQ5, iQ6, lQ19, iQ7, lQ20, hc, decide_false]
    exact hk _
  subst hc
  obtain ⟨hcl, hkb', hm, hd⟩ := hz.zero rfl
  obtain ⟨⟨hl, he⟩, hlz⟩ := hcl.zero
  have hx := he x (by simp)
  have o := hl.1.w
  simp only [pwA, if_true, if_false, eq_self, nm_eq, reduceCtorEq, ↓reduceIte, nQ10, nQ7, nQ11, nQ12, nQ16, nQ17, nQ18, iQ2, iQ3, iQ4, iQ5, iQ6, lQ19, iQ7, lQ20, g1, g2]
  refine TimesLie_F hR sz hv2 (by omega) fun v3 z3 c3 h3 hv3 => ?_
  obtain ⟨rfl, rfl⟩ := h3.ok hl (el1 hd.el) (by omega)
  simp only [pwA, if_true, if_false, eq_self, nm_eq, reduceCtorEq, ↓reduceIte, nQ10, nQ7, nQ11, nQ12, nQ16, nQ17, nQ18, iQ2, iQ3, iQ4, iQ5, iQ6, lQ19, iQ7, lQ20, g1, g2]
  refine TimesLie_F hR sz hvx (by omega) fun v4 z4 c4 h4 hv4 => ?_
  obtain ⟨rfl, rfl⟩ := h4.ok hl (el1 hx) (by omega)
  simp only [pwA, if_true, if_false, eq_self, nm_eq, reduceCtorEq, ↓reduceIte, nQ10, nQ7, nQ11, nQ12, nQ16, nQ17, nQ18, iQ2, iQ3, iQ4, iQ5, iQ6, lQ19, iQ7, lQ20, g1, g2]
  refine TimesLie_S hR sz hvx (by omega) fun v5 z5 c5 h5 hv5 => ?_
  obtain ⟨rfl, rfl⟩ := h5.ok hl (el1 hx) (by omega)
  have hyl := (lmix_el o hx hx (k := k) (m := 0)).1
  have hyl2 := (lmix_el o hd.el hd.el (k := k) (m := 0)).1
  have hW6 := d.wl
  simp only [pwA, if_true, if_false, eq_self, nm_eq, reduceCtorEq, ↓reduceIte, nQ10, nQ7, nQ11, nQ12, nQ16, nQ17, nQ18, iQ2, iQ3, iQ4, iQ5, iQ6, lQ19, iQ7, lQ20, g1, g2]
  refine RootOf_T hR sz hv5 (by rw [hyl]; omega) fun v6 z6 c6 t6 h6 hv6 ho6 ht6 => ?_
  obtain ⟨rfl, rfl⟩ := times_root hz h6
  simp only [pwA, if_true, if_false, eq_self, nm_eq, reduceCtorEq, ↓reduceIte, nQ10, nQ7, nQ11, nQ12, nQ16, nQ17, nQ18, iQ2, iQ3, iQ4, iQ5, iQ6, lQ19, iQ7, lQ20, decide_true]
  refine likeInts_ok hv3 hvx (by rw [hyl2]; omega) fun t ht => ?_
  obtain rfl : t = true := ht.2 (root_times hz)
  simp only [pwA, if_true, if_false, eq_self, nm_eq, reduceCtorEq, ↓reduceIte, nQ10, nQ7, nQ11, nQ12, nQ16, nQ17, nQ18, iQ2, iQ3, iQ4, iQ5, iQ6, lQ19, iQ7, lQ20, decide_true]
  refine likeInts_ok hv4 hv5 (by rw [hyl]; omega) fun t ht => ?_
  obtain rfl : t = true := ht.2 rfl
  simp only [pwA, if_true, if_false, eq_self, nm_eq, reduceCtorEq, ↓reduceIte, nQ10, nQ7, nQ11, nQ12, nQ16, nQ17, nQ18, iQ2, iQ3, iQ4, iQ5, iQ6, lQ19, iQ7, lQ20, decide_true]
  refine likeInts_ok hv6 hvx (by omega) fun t ht => ?_
  obtain rfl : t = true := ht.2 rfl
  simp only [pwA, if_true, if_false, eq_self, nm_eq, reduceCtorEq, ↓reduceIte, nQ10, nQ7, nQ11, nQ12, nQ16, nQ17, nQ18, iQ2, iQ3, iQ4, iQ5, iQ6, lQ19, iQ7, lQ20, decide_true]
  exact hk _
end Go.Proofs
namespace Go.Proofs.Ytpcjbkbcaiphmaa
open Go.ChangeShapes Go.WideShapes Go.ChangeAt Go.RowKit Go.Ab Go.Joins Go.Lie Go.Proofs
set_option maxRecDepth 100000 in
theorem rootsContract {H : Type} {enc : TypeId × Value → H} (W : World) (base : Nat) (args : Array Value) (ds gs : List (DataW H)) (before : List MemPlace)
    (hval : ∀ (j : Nat) t v, Try.f3.params[j]? = some t → args[j]? = some v → Value.okWide Try.prog W .any base t v)
    (hW : DataW.Whole enc Try.prog Try.f3.params.toList Rows.fnRootsSpec.vars false W args.toList ds gs before) :
    Calls Try.prog 3 args W fun e W' => ∃ v, e = .returned v ∧ Rows.fnRootsSpec.post enc Try.prog Try.f3 false true false false W args v W' := by
  have hW' := hW
  obtain ⟨p, q, hA0, hV, rfl, hfz, hnd⟩ := hW
  have hA : DataW.TrodAll enc Try.prog W 0 (fun _ => true) true Try.f3.params.toList args.toList ds p := hA0
  rw [Try.params3] at hA hval
  obtain ⟨v0, vs0, d0, ds0, p0, q0, hargs, rfl, rfl, t0, r0⟩ := trodAll_cons hA
  obtain ⟨rfl, rfl, rfl⟩ := trodAll_nil r0
  obtain rfl : args = #[v0] := by cases args; simp_all
  obtain ⟨n0, t0⟩ := t0
  obtain ⟨s0, s0', s0'', hv0⟩ := okWide_slice Try.underlying22 (hval 0 22 v0 rfl rfl)
  have hc0 : v0.cells.toList = [v0] := by rw [hv0]; rfl
  rw [hc0] at t0
  obtain ⟨j0, h0, vX0, X0, m0, l0, e0, i0, o0, _, R0, y0⟩ := layB _ _ _ true n0 _ _ (MR.empty W) t0
  have pc : PCalls Try.prog 3 [vX0] (PHeap.start h0) (fun v _ => v = .bool true) := FnRoots_ok R0 y0 (fun _ => rfl)
  have ac := pc.law m0.wf ⟨o0, trivial⟩
  refine (ac.calls m0 (cargs := #[v0]) ⟨_, _, rfl, i0, rfl⟩).mono fun e W' ⟨he, hb⟩ => ?_
  exact ⟨_, he, post_of_below rfl laidOut (by rw [Try.params3]; intro t ht; simp only [List.mem_cons, List.not_mem_nil, or_false] at ht; rcases ht with rfl <;> exact ⟨by kernel_rfl, of_decide_eq_true (by kernel_rfl)⟩) (by kernel_rfl) Try.underlying4 rfl hW' hb⟩
set_option maxRecDepth 100000 in
theorem rootsLifted (os : Os) (started : os.Started) (H : Type) (enc : TypeId × Value → H) :
    ReturnsInHanded {} Try.checked os 3 .any (Rows.fnRootsSpec.pre6 enc Try.prog Try.f3 Rows.fnRootsRow.domain false) (Rows.fnRootsSpec.post enc Try.prog Try.f3 false true false false) := by
  refine returnsInHanded_of_change (C := Try.checked) own started (by kernel_rfl) Try.func3
    (ChangeSpec.witness6 (enc := enc) (C := Try.checked) false ⟨#[], #[.slice none 0 0], []⟩ 8 (by kernel_rfl) (by kernel_rfl) (by kernel_rfl) (by kernel_rfl)) ?_
  intro W base args ds gs before hval hW _ _
  exact rootsContract W base args ds gs before hval hW
theorem rootsProved : Rows.FnRootsSaid :=
  OpenClaim.holds_of_wide 3 Try.f3 rfl rfl rfl rfl rfl rfl rfl ⟨rfl, rfl, rfl, rfl, rfl⟩ rfl rfl rfl rfl rfl (by kernel_rfl) Try.func3 (by kernel_rfl)
    (of_decide_eq_true (by kernel_rfl)) (by unfold Func.isWrapper; first | (rw [if_pos (by decide +kernel)]; kernel_rfl) | (rw [if_neg (by decide +kernel)]; exact ⟨rfl, rfl⟩))
    (fun os started H enc _ => rootsLifted os started H enc)
end Go.Proofs.Ytpcjbkbcaiphmaa
