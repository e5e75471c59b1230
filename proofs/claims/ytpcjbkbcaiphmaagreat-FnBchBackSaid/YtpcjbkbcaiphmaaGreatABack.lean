/- The given statement on Lazard rings (FnBchBack): its law holds for every input. -/
import Derived.Test.YtpcjbkbcaiphmaaGreatAP27
import Derived.Test.YtpcjbkbcaiphmaaGreatAP28
import Derived.Test.YtpcjbkbcaiphmaaGreatAP29
import Derived.Test.YtpcjbkbcaiphmaaGreatAP30
import Derived.Test.YtpcjbkbcaiphmaaGreatAP33
import Derived.Test.YtpcjbkbcaiphmaaGreatAP38
import Derived.Test.YtpcjbkbcaiphmaaGreatAP39
import Derived.Test.YtpcjbkbcaiphmaaGreatAP40
open Nat renaming reduceLeDiff → nQ7, reduceEqDiff → nQ10, reduceBEq → nQ11, reduceAdd → nQ12, reduceLT → nQ16, reduceSub → nQ17, reduceMul → nQ18
open Int renaming reduceEq → iQ2, reduceLT → iQ3, reduceLE → iQ4, reduceNeg → iQ5, reduceToNat → iQ6, ofNat_le → iQ7
open List renaming reduceReplicate → lQ19, getElem?_drop → lQ20
set_option linter.unusedSimpArgs false
set_option linter.unusedVariables false
namespace Go.Proofs
open Go.Ab Go.Lie
variable {σ : PHeap} {K : PV → PHeap → Prop} {p : Int} {W : List (List Int)} {B : List (List (List Int))} {vC : PV} {bs x y z : List Int} {k : Int}
theorem FnBchBack_ok (hb : FB vC bs) (hbd : ∀ b ∈ bs, 0 ≤ b ∧ b ≤ 255) (hk : ∀ σ', K (.bool true) σ') : PCalls Tryz.prog 4 [vC] σ K := by
  have hb1 := hb.one
  have hb2 := hb.cells
  refine pcalls_of_vp mix Tryz.func4 cf4 rfl ?_
  dsimp only [if4, qI, eI, nI, qD, eD]
  simp only [pwA, if_true, if_false, eq_self, nm_eq, reduceCtorEq, ↓reduceIte, nQ10, nQ7, nQ11, nQ12, nQ16, nQ17, nQ18, iQ2, iQ3, iQ4, iQ5, iQ6, lQ19, iQ7, lQ20, hb1]
  refine big_ok hb fun t ht => ?_
  cases t with
  | true =>
    simp only [pwA, if_true, if_false, eq_self, nm_eq, reduceCtorEq, ↓reduceIte, nQ10, nQ7, nQ11, nQ12, nQ16, nQ17, nQ18, iQ2, iQ3, iQ4, iQ5, iQ6, lQ19, iQ7, lQ20]
    exact hk _
  | false =>
  have hlen : bs.length ≤ 4096 := by
    rcases Nat.lt_or_ge 4096 bs.length with e | e
    · have := ht.2 e; cases this
    · exact e
  clear ht
  have hB : Byt bs := ⟨by omega, hbd⟩
  simp only [pwA, if_true, if_false, eq_self, nm_eq, reduceCtorEq, ↓reduceIte, nQ10, nQ7, nQ11, nQ12, nQ16, nQ17, nQ18, iQ2, iQ3, iQ4, iQ5, iQ6, lQ19, iQ7, lQ20, hb1]
  refine DrawSumByProducts_ok hb hB fun p vP vB W B vx x vy y d hR hvx hxl hvy hyl => ?_
  have g1 := hR.P.one
  have g2 := hR.B.one
  have sz := d.sz
  have szx : x.length ≤ 1048576 := by omega
  have szy : y.length ≤ 1048576 := by omega
  simp only [pwA, if_true, if_false, eq_self, nm_eq, reduceCtorEq, ↓reduceIte, nQ10, nQ7, nQ11, nQ12, nQ16, nQ17, nQ18, iQ2, iQ3, iQ4, iQ5, iQ6, lQ19, iQ7, lQ20, g1, g2]
  refine SumByProducts_T hR sz hvx szx hvy szy fun v1 z1 c1 t1 hz1 hv1 ho1 ht1 => ?_
  simp only [pwA, if_true, if_false, eq_self, nm_eq, reduceCtorEq, ↓reduceIte, nQ10, nQ7, nQ11, nQ12, nQ16, nQ17, nQ18, iQ2, iQ3, iQ4, iQ5, iQ6, lQ19, iQ7, lQ20, g1, g2]
  refine BracketByProducts_T hR sz hvx szx hvy szy fun v2 z2 c2 t2 hz2 hv2 ho2 ht2 => ?_
  simp only [pwA, if_true, if_false, eq_self, nm_eq, reduceCtorEq, ↓reduceIte, nQ10, nQ7, nQ11, nQ12, nQ16, nQ17, nQ18, iQ2, iQ3, iQ4, iQ5, iQ6, lQ19, iQ7, lQ20, g1, g2]
  refine BchTerms_T hR sz hvx szx hvy szy fun v3 z3 c3 t3 hz3 hv3 ho3 ht3 => ?_
  simp only [pwA, if_true, if_false, eq_self, nm_eq, reduceCtorEq, ↓reduceIte, nQ10, nQ7, nQ11, nQ12, nQ16, nQ17, nQ18, iQ2, iQ3, iQ4, iQ5, iQ6, lQ19, iQ7, lQ20, g1, g2]
  refine l33BchTerms_ok hR sz hvx szx hvy szy fun v4 z4 c4 hz4 hv4 => ?_
  obtain ⟨rfl, rfl⟩ := hz3.unique hz4
  obtain rfl := hz1.code hz3
  obtain rfl := hz2.code hz1
  simp only [pwA, if_true, if_false, eq_self, nm_eq, reduceCtorEq, ↓reduceIte, nQ10, nQ7, nQ11, nQ12, nQ16, nQ17, nQ18, iQ2, iQ3, iQ4, iQ5, iQ6, lQ19, iQ7, lQ20, decide_true]
  refine likeRows5_ok hv3 hv4 (terms_bd hz3) fun t ht => ?_
  obtain rfl : t = true := ht.2 rfl
  by_cases hc : c2 = 0
  rotate_left
  · simp only [pwA, if_true, if_false, eq_self, nm_eq, reduceCtorEq, ↓reduceIte, nQ10, nQ7, nQ11, nQ12, nQ16, nQ17, nQ18, iQ2, iQ3, iQ4, iQ5, iQ6, lQ19, iQ7, lQ20, hc, decide_false]
    exact hk _
  subst hc
  obtain ⟨⟨⟨hl, he⟩, hlz⟩, rfl⟩ := hz1.zero rfl
  obtain ⟨_, rfl⟩ := hz2.zero rfl
  obtain ⟨_, rfl⟩ := hz3.zero rfl
  obtain ⟨cc, lz⟩ := Lz.of hl hlz
  have o := hl.1.w
  have q := hl.1.b
  have hx := he x (by simp)
  have hy := he y (by simp)
  have hW6 := d.wl
  have exy := el2' hx hy
  have hsx : El p W.length (ladd p W x y) := lmix_el o hx hy
  have hbx := br_el o q (a := x) (b := y)
  simp only [pwA, if_true, if_false, eq_self, nm_eq, reduceCtorEq, ↓reduceIte, nQ10, nQ7, nQ11, nQ12, nQ16, nQ17, nQ18, iQ2, iQ3, iQ4, iQ5, iQ6, lQ19, iQ7, lQ20, g1, g2]
  refine AddLie_F hR sz hvx szx hvy szy fun v5 z5 c5 hz5 hv5 => ?_
  obtain ⟨rfl, rfl⟩ := hz5.ok hl exy trivial
  simp only [pwA, if_true, if_false, eq_self, nm_eq, reduceCtorEq, ↓reduceIte, nQ10, nQ7, nQ11, nQ12, nQ16, nQ17, nQ18, iQ2, iQ3, iQ4, iQ5, iQ6, lQ19, iQ7, lQ20, g1, g2]
  refine Bracket_F hR sz hvx szx hvy szy fun v6 z6 c6 hz6 hv6 => ?_
  obtain ⟨rfl, rfl⟩ := hz6.ok hl exy trivial
  simp only [pwA, if_true, if_false, eq_self, nm_eq, reduceCtorEq, ↓reduceIte, nQ10, nQ7, nQ11, nQ12, nQ16, nQ17, nQ18, iQ2, iQ3, iQ4, iQ5, iQ6, lQ19, iQ7, lQ20, g1, g2]
  refine AddLie_S hR sz hvx szx hvy szy fun v7 z7 c7 hz7 hv7 => ?_
  obtain ⟨rfl, rfl⟩ := hz7.ok hl exy trivial
  simp only [pwA, if_true, if_false, eq_self, nm_eq, reduceCtorEq, ↓reduceIte, nQ10, nQ7, nQ11, nQ12, nQ16, nQ17, nQ18, iQ2, iQ3, iQ4, iQ5, iQ6, lQ19, iQ7, lQ20, g1, g2]
  refine Bracket_S hR sz hvx szx hvy szy fun v8 z8 c8 hz8 hv8 => ?_
  obtain ⟨rfl, rfl⟩ := hz8.ok hl exy trivial
  simp only [pwA, if_true, if_false, eq_self, nm_eq, reduceCtorEq, ↓reduceIte, nQ10, nQ7, nQ11, nQ12, nQ16, nQ17, nQ18, iQ2, iQ3, iQ4, iQ5, iQ6, lQ19, iQ7, lQ20, decide_true]
  refine likeInts_ok hv5 hv7 (by rw [hsx.1]; omega) fun t ht => ?_
  obtain rfl : t = true := ht.2 (rfl)
  simp only [pwA, if_true, if_false, eq_self, nm_eq, reduceCtorEq, ↓reduceIte, nQ10, nQ7, nQ11, nQ12, nQ16, nQ17, nQ18, iQ2, iQ3, iQ4, iQ5, iQ6, lQ19, iQ7, lQ20, decide_true]
  refine likeInts_ok hv6 hv8 (by rw [hbx.1]; omega) fun t ht => ?_
  obtain rfl : t = true := ht.2 (rfl)
  simp only [pwA, if_true, if_false, eq_self, nm_eq, reduceCtorEq, ↓reduceIte, nQ10, nQ7, nQ11, nQ12, nQ16, nQ17, nQ18, iQ2, iQ3, iQ4, iQ5, iQ6, lQ19, iQ7, lQ20, decide_true]
  refine likeInts_ok hv1 hv7 (by rw [lz.sumP hx hy, hsx.1]; omega) fun t ht => ?_
  obtain rfl : t = true := ht.2 (lz.sumP hx hy)
  simp only [pwA, if_true, if_false, eq_self, nm_eq, reduceCtorEq, ↓reduceIte, nQ10, nQ7, nQ11, nQ12, nQ16, nQ17, nQ18, iQ2, iQ3, iQ4, iQ5, iQ6, lQ19, iQ7, lQ20, decide_true]
  refine likeInts_ok hv2 hv8 (by rw [lz.brkP hx hy, hbx.1]; omega) fun t ht => ?_
  obtain rfl : t = true := ht.2 (lz.brkP hx hy)
  obtain ⟨w4, a4, r4, rfl, hr4⟩ := hv4
  have hd2 := dv_el o hbx (k := 2)
  have hd12 := dv_el o (third_el o q (x := x) (y := y)) (k := 12)
  obtain ⟨wa, aa, ha⟩ := hr4.rowI (k := 0) (by simp [terms])
  obtain ⟨wb, ab, hb_⟩ := hr4.rowI (k := 1) (by simp [terms])
  obtain ⟨wc, ac, hc_⟩ := hr4.rowI (k := 2) (by simp [terms])
  have hl3 : (terms p W.length W B x y).length = 3 := rfl
  simp only [terms, List.getElem_cons_zero, List.getElem_cons_succ] at ha hb_ hc_
  have i03 : (0 : Int) < ((terms p W.length W B x y).length : Int) := by rw [hl3]; decide
  have i13 : (1 : Int) < ((terms p W.length W B x y).length : Int) := by rw [hl3]; decide
  have i23 : (2 : Int) < ((terms p W.length W B x y).length : Int) := by rw [hl3]; decide
  have l1 := hsx.1
  have l2 := hd2.1
  have l3 := hd12.1
  simp only [pwA, if_true, if_false, eq_self, nm_eq, reduceCtorEq, ↓reduceIte, nQ10, nQ7, nQ11, nQ12, nQ16, nQ17, nQ18, iQ2, iQ3, iQ4, iQ5, iQ6, lQ19, iQ7, lQ20, g1, g2, ha, hb_, i03, i13]
  refine AddLie_S hR sz ⟨wa, aa, rfl⟩ (by omega) ⟨wb, ab, rfl⟩ (by omega) fun v9 z9 c9 hz9 hv9 => ?_
  obtain ⟨rfl, rfl⟩ := hz9.ok hl (el2' hsx hd2) trivial
  have hh : El p W.length (ladd p W (ladd p W x y) (dv p W.length W 2 (br p W B W.length x y))) := lmix_el o hsx hd2
  have l4 := hh.1
  simp only [pwA, if_true, if_false, eq_self, nm_eq, reduceCtorEq, ↓reduceIte, nQ10, nQ7, nQ11, nQ12, nQ16, nQ17, nQ18, iQ2, iQ3, iQ4, iQ5, iQ6, lQ19, iQ7, lQ20, g1, g2, hc_, i23]
  refine AddLie_F hR sz hv9 (by omega) ⟨wc, ac, rfl⟩ (by omega) fun v10 z10 c10 hz10 hv10 => ?_
  obtain ⟨rfl, rfl⟩ := hz10.ok hl (el2' hh hd12) trivial
  simp only [pwA, if_true, if_false, eq_self, nm_eq, reduceCtorEq, ↓reduceIte, nQ10, nQ7, nQ11, nQ12, nQ16, nQ17, nQ18, iQ2, iQ3, iQ4, iQ5, iQ6, lQ19, iQ7, lQ20, g1, g2]
  refine BchProduct_T hR sz hvx szx hvy szy fun v11 z11 c11 t11 hz11 hv11 ho11 ht11 => ?_
  simp only [pwA, if_true, if_false, eq_self, nm_eq, reduceCtorEq, ↓reduceIte, nQ10, nQ7, nQ11, nQ12, nQ16, nQ17, nQ18, iQ2, iQ3, iQ4, iQ5, iQ6, lQ19, iQ7, lQ20, g1, g2]
  refine l33Product_ok hR sz hvx szx hvy szy fun v12 z12 c12 hz12 hv12 => ?_
  obtain ⟨rfl, rfl⟩ := hz11.unique hz12
  obtain rfl := hz11.code hz1
  obtain ⟨_, rfl⟩ := hz11.zero rfl
  have hbl := (bch_el o q hx hy).1
  simp only [pwA, if_true, if_false, eq_self, nm_eq, reduceCtorEq, ↓reduceIte, nQ10, nQ7, nQ11, nQ12, nQ16, nQ17, nQ18, iQ2, iQ3, iQ4, iQ5, iQ6, lQ19, iQ7, lQ20, decide_true]
  refine likeInts_ok hv11 hv12 (by rw [hbl]; omega) fun t ht => ?_
  obtain rfl : t = true := ht.2 (rfl)
  simp only [pwA, if_true, if_false, eq_self, nm_eq, reduceCtorEq, ↓reduceIte, nQ10, nQ7, nQ11, nQ12, nQ16, nQ17, nQ18, iQ2, iQ3, iQ4, iQ5, iQ6, lQ19, iQ7, lQ20, decide_true]
  refine likeInts_ok hv10 hv12 (by rw [show ladd p W (ladd p W (ladd p W x y) (dv p W.length W 2 (br p W B W.length x y))) (dv p W.length W 12 (third3 p W B W.length x y)) = bch p W.length W B x y from rfl, hbl]; omega) fun t ht => ?_
  obtain rfl : t = true := ht.2 (rfl)
  simp only [pwA, if_true, if_false, eq_self, nm_eq, reduceCtorEq, ↓reduceIte, nQ10, nQ7, nQ11, nQ12, nQ16, nQ17, nQ18, iQ2, iQ3, iQ4, iQ5, iQ6, lQ19, iQ7, lQ20, decide_true]
  exact hk _
end Go.Proofs
namespace Go.Proofs.YtpcjbkbcaiphmaaGreat
open Go.ChangeShapes Go.WideShapes Go.ChangeAt Go.RowKit Go.Ab Go.Joins Go.Lie Go.Proofs
set_option maxRecDepth 100000 in
theorem bchBackContract {H : Type} {enc : TypeId × Value → H} (W : World) (base : Nat) (args : Array Value) (ds gs : List (DataW H)) (before : List MemPlace)
    (hval : ∀ (j : Nat) t v, Tryz.f4.params[j]? = some t → args[j]? = some v → Value.okWide Tryz.prog W .any base t v)
    (hW : DataW.Whole enc Tryz.prog Tryz.f4.params.toList Rows.fnBchBackSpec.vars false W args.toList ds gs before) :
    Calls Tryz.prog 4 args W fun e W' => ∃ v, e = .returned v ∧ Rows.fnBchBackSpec.post enc Tryz.prog Tryz.f4 false true false false W args v W' := by
  have hW' := hW
  obtain ⟨p, q, hA0, hV, rfl, hfz, hnd⟩ := hW
  have hA : DataW.TrodAll enc Tryz.prog W 0 (fun _ => true) true Tryz.f4.params.toList args.toList ds p := hA0
  rw [Tryz.params4] at hA hval
  obtain ⟨v0, vs0, d0, ds0, p0, q0, hargs, rfl, rfl, t0, r0⟩ := trodAll_cons hA
  obtain ⟨rfl, rfl, rfl⟩ := trodAll_nil r0
  obtain rfl : args = #[v0] := by cases args; simp_all
  obtain ⟨n0, t0⟩ := t0
  obtain ⟨s0, s0', s0'', hv0⟩ := okWide_slice Tryz.underlying22 (hval 0 22 v0 rfl rfl)
  have hc0 : v0.cells.toList = [v0] := by rw [hv0]; rfl
  rw [hc0] at t0
  obtain ⟨j0, h0, vX0, X0, m0, l0, e0, i0, o0, _, R0, y0⟩ := layB _ _ _ true n0 _ _ (MR.empty W) t0
  have pc : PCalls Tryz.prog 4 [vX0] (PHeap.start h0) (fun v _ => v = .bool true) := FnBchBack_ok R0 y0 (fun _ => rfl)
  have ac := pc.law m0.wf ⟨o0, trivial⟩
  refine (ac.calls m0 (cargs := #[v0]) ⟨_, _, rfl, i0, rfl⟩).mono fun e W' ⟨he, hb⟩ => ?_
  exact ⟨_, he, post_of_below rfl laidOut (by rw [Tryz.params4]; intro t ht; simp only [List.mem_cons, List.not_mem_nil, or_false] at ht; rcases ht with rfl <;> exact ⟨by kernel_rfl, of_decide_eq_true (by kernel_rfl)⟩) (by kernel_rfl) Tryz.underlying4 rfl hW' hb⟩
set_option maxRecDepth 100000 in
theorem bchBackLifted (os : Os) (started : os.Started) (H : Type) (enc : TypeId × Value → H) :
    ReturnsInHanded {} Tryz.checked os 4 .any (Rows.fnBchBackSpec.pre6 enc Tryz.prog Tryz.f4 Rows.fnBchBackRow.domain false) (Rows.fnBchBackSpec.post enc Tryz.prog Tryz.f4 false true false false) := by
  refine returnsInHanded_of_change (C := Tryz.checked) own started (by kernel_rfl) Tryz.func4
    (ChangeSpec.witness6 (enc := enc) (C := Tryz.checked) false ⟨#[], #[.slice none 0 0], []⟩ 8 (by kernel_rfl) (by kernel_rfl) (by kernel_rfl) (by kernel_rfl)) ?_
  intro W base args ds gs before hval hW _ _
  exact bchBackContract W base args ds gs before hval hW
set_option maxRecDepth 100000 in
theorem bchBackNamed : Tryz.prog.funcNamed Rows.fnBchBackRow.func = some 4 := by kernel_rfl
set_option maxHeartbeats 1600000 in
set_option maxRecDepth 100000 in
theorem bchBackClosed : joinedFacts Tryz.prog 4 Tryz.f4 Rows.fnBchBackSpec Rows.fnBchBackRow = true := by
  unfold joinedFacts
  simp only [Bool.and_eq_true]
  repeat' apply And.intro
  all_goals (as_aux_lemma => kernel_rfl)
theorem bchBackProved : Rows.FnBchBackSaid :=
  OpenClaim.holds_of_wide 4 Tryz.f4 rfl rfl rfl rfl rfl rfl rfl ⟨rfl, rfl, rfl, rfl, rfl⟩ rfl rfl rfl rfl rfl bchBackNamed Tryz.func4 bchBackClosed
    (of_decide_eq_true (by kernel_rfl)) (by unfold Func.isWrapper; first | (rw [if_pos (by decide +kernel)]; kernel_rfl) | (rw [if_neg (by decide +kernel)]; exact ⟨rfl, rfl⟩))
    (fun os started H enc _ => bchBackLifted os started H enc)
end Go.Proofs.YtpcjbkbcaiphmaaGreat
