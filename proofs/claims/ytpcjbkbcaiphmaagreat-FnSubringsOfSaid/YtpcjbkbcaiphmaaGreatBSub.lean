/- The given statement on least subrings and ideals (FnSubringsOf): its law holds for every input. -/
import Derived.Test.YtpcjbkbcaiphmaaGreatBP27
import Derived.Test.YtpcjbkbcaiphmaaGreatBP28
import Derived.Test.YtpcjbkbcaiphmaaGreatBP29
import Derived.Test.YtpcjbkbcaiphmaaGreatBP32
import Derived.Test.YtpcjbkbcaiphmaaGreatBP36
import Derived.Test.YtpcjbkbcaiphmaaGreatBP37
open Nat renaming reduceLeDiff → nQ7, reduceEqDiff → nQ10, reduceBEq → nQ11, reduceAdd → nQ12, reduceLT → nQ16, reduceSub → nQ17, reduceMul → nQ18
open Int renaming reduceEq → iQ2, reduceLT → iQ3, reduceLE → iQ4, reduceNeg → iQ5, reduceToNat → iQ6, ofNat_le → iQ7
open List renaming reduceReplicate → lQ19, getElem?_drop → lQ20
set_option linter.unusedSimpArgs false
set_option linter.unusedVariables false
namespace Go.Proofs
open Go.Ab Go.Lie
variable {σ : PHeap} {K : PV → PHeap → Prop} {p : Int} {W : List (List Int)} {B : List (List (List Int))} {vC : PV} {bs : List Int}
theorem FnSubringsOf_ok (hb : FB vC bs) (hbd : ∀ b ∈ bs, 0 ≤ b ∧ b ≤ 255) (hk : ∀ σ', K (.bool true) σ') : PCalls Tryz.prog 6 [vC] σ K := by
  have hb1 := hb.one
  have hb2 := hb.cells
  refine pcalls_of_vp mix Tryz.func6 cf6 rfl ?_
  dsimp only [if6, qI, eI, nI, qD, eD]
  simp only [pwA, if_true, if_false, eq_self, nm_eq, reduceCtorEq, ↓reduceIte, nQ10, nQ7, nQ11, nQ12, nQ16, nQ17, nQ18, iQ2, iQ3, iQ4, iQ5, iQ6, lQ19, iQ7, lQ20, hb1]
  refine big_ok hb fun t ht => ?_
  cases t with
  | true =>
    simp only [pwA, if_true, if_false, eq_self, nm_eq, reduceCtorEq, ↓reduceIte, nQ10, nQ7, nQ11, nQ12, nQ16, nQ17, nQ18, iQ2, iQ3, iQ4, iQ5, iQ6, lQ19, iQ7, lQ20]
    exact hk _
  | false =>
  have hlen : bs.length ≤ 4096 := by
    rcases Nat.lt_or_ge 4096 bs.length with e | e
    · have := ht.2 e; cases this
    · exact e
  clear ht
  have hB : Byt bs := ⟨by omega, hbd⟩
  simp only [pwA, if_true, if_false, eq_self, nm_eq, reduceCtorEq, ↓reduceIte, nQ10, nQ7, nQ11, nQ12, nQ16, nQ17, nQ18, iQ2, iQ3, iQ4, iQ5, iQ6, lQ19, iQ7, lQ20, hb1]
  refine DrawSubringOf_ok hb hB fun p vP vB W B vL gens d hR hvL hgl hgx => ?_
  have g1 := hR.P.one
  have g2 := hR.B.one
  have sz := d.sz
  have szg : SzL gens := ⟨by omega, fun x hx => by have := hgx x hx; omega⟩
  simp only [pwA, if_true, if_false, eq_self, nm_eq, reduceCtorEq, ↓reduceIte, nQ10, nQ7, nQ11, nQ12, nQ16, nQ17, nQ18, iQ2, iQ3, iQ4, iQ5, iQ6, lQ19, iQ7, lQ20, g1, g2]
  refine SubringOf_F hR sz hvL szg fun v1 z1 c1 hz1 hv1 => ?_
  simp only [pwA, if_true, if_false, eq_self, nm_eq, reduceCtorEq, ↓reduceIte, nQ10, nQ7, nQ11, nQ12, nQ16, nQ17, nQ18, iQ2, iQ3, iQ4, iQ5, iQ6, lQ19, iQ7, lQ20, g1, g2]
  refine SubringOf_S hR sz hvL szg fun v2 z2 c2 hz2 hv2 => ?_
  by_cases hok : isLie p W B ∧ Els p W.length gens
  rotate_left
  · obtain ⟨rfl, rfl⟩ := hz1.no hok
    obtain ⟨rfl, rfl⟩ := hz2.no hok
    simp only [pwA, if_true, if_false, eq_self, nm_eq, reduceCtorEq, ↓reduceIte, nQ10, nQ7, nQ11, nQ12, nQ16, nQ17, nQ18, iQ2, iQ3, iQ4, iQ5, iQ6, lQ19, iQ7, lQ20]
    refine likeRows5_ok hv1 hv2 ⟨by simp, fun x hx => by cases hx⟩ fun t ht => ?_
    obtain rfl : t = true := ht.2 rfl
    simp only [pwA, if_true, if_false, eq_self, nm_eq, reduceCtorEq, ↓reduceIte, nQ10, nQ7, nQ11, nQ12, nQ16, nQ17, nQ18, iQ2, iQ3, iQ4, iQ5, iQ6, lQ19, iQ7, lQ20, decide_true]
    exact hk _
  obtain ⟨k1, rfl⟩ := hz1.yes hok
  obtain ⟨k2, rfl⟩ := hz2.yes hok
  obtain ⟨hl, he⟩ := hok
  have o := hl.1.w
  have q := hl.1.b
  have nf := hl.2
  have hn6 := o.le
  obtain rfl := k1.unique o k2
  clear hz1 hz2 k2
  have sp1 : isSpan p W z1 := ⟨k1.base.els, k1.canon⟩
  have len1 := sp1.2.len
  have szz : SzL z1 := szl_els o sp1.1 (by omega)
  simp only [pwA, if_true, if_false, eq_self, nm_eq, reduceCtorEq, ↓reduceIte, nQ10, nQ7, nQ11, nQ12, nQ16, nQ17, nQ18, iQ2, iQ3, iQ4, iQ5, iQ6, lQ19, iQ7, lQ20]
  refine likeRows5_ok hv1 hv2 szz fun t ht => ?_
  obtain rfl : t = true := ht.2 rfl
  clear ht
  simp only [pwA, if_true, if_false, eq_self, nm_eq, reduceCtorEq, ↓reduceIte, nQ10, nQ7, nQ11, nQ12, nQ16, nQ17, nQ18, iQ2, iQ3, iQ4, iQ5, iQ6, lQ19, iQ7, lQ20, decide_true, g1, g2]
  refine IsSubring_F hR sz hv2 szz fun t c hr => ?_
  obtain ⟨rfl, rfl⟩ : t = true ∧ c = 0 := by
    rcases hr with ⟨e, _⟩ | ⟨_, e, rfl⟩
    · exact absurd ⟨hl, sp1⟩ e
    · exact ⟨e.2 fun x hx y hy => ring_sub o q k1 hx hy, rfl⟩
  clear hr
  simp only [pwA, if_true, if_false, eq_self, nm_eq, reduceCtorEq, ↓reduceIte, nQ10, nQ7, nQ11, nQ12, nQ16, nQ17, nQ18, iQ2, iQ3, iQ4, iQ5, iQ6, lQ19, iQ7, lQ20, g1, g2]
  refine IdealOf_F hR sz hvL szg fun v3 z3 c3 hz3 hv3 => ?_
  obtain ⟨k3, rfl⟩ := hz3.yes ⟨hl, he⟩
  simp only [pwA, if_true, if_false, eq_self, nm_eq, reduceCtorEq, ↓reduceIte, nQ10, nQ7, nQ11, nQ12, nQ16, nQ17, nQ18, iQ2, iQ3, iQ4, iQ5, iQ6, lQ19, iQ7, lQ20, g1, g2]
  refine IdealOf_S hR sz hvL szg fun v4 z4 c4 hz4 hv4 => ?_
  obtain ⟨k4, rfl⟩ := hz4.yes ⟨hl, he⟩
  obtain rfl := k3.unique o k4
  clear hz3 hz4 k4
  have sp3 : isSpan p W z3 := ⟨k3.base.els, k3.canon⟩
  have len3 := sp3.2.len
  have szi : SzL z3 := szl_els o sp3.1 (by omega)
  simp only [pwA, if_true, if_false, eq_self, nm_eq, reduceCtorEq, ↓reduceIte, nQ10, nQ7, nQ11, nQ12, nQ16, nQ17, nQ18, iQ2, iQ3, iQ4, iQ5, iQ6, lQ19, iQ7, lQ20, g1, g2]
  refine SumLie_F hR sz hv2 szz hv4 szi fun v5 z5 c5 hz5 hv5 => ?_
  obtain ⟨k5, rfl⟩ := hz5.yes ⟨hl, sp1, sp3⟩
  obtain rfl := ring_ideal o k1 k3 k5
  clear hz5 k5
  simp only [pwA, if_true, if_false, eq_self, nm_eq, reduceCtorEq, ↓reduceIte, nQ10, nQ7, nQ11, nQ12, nQ16, nQ17, nQ18, iQ2, iQ3, iQ4, iQ5, iQ6, lQ19, iQ7, lQ20, decide_true]
  refine likeRows5_ok hv3 hv4 szi fun t ht => ?_
  obtain rfl : t = true := ht.2 rfl
  clear ht
  simp only [pwA, if_true, if_false, eq_self, nm_eq, reduceCtorEq, ↓reduceIte, nQ10, nQ7, nQ11, nQ12, nQ16, nQ17, nQ18, iQ2, iQ3, iQ4, iQ5, iQ6, lQ19, iQ7, lQ20, decide_true]
  refine likeRows5_ok hv5 hv4 szi fun t ht => ?_
  obtain rfl : t = true := ht.2 rfl
  clear ht
  simp only [pwA, if_true, if_false, eq_self, nm_eq, reduceCtorEq, ↓reduceIte, nQ10, nQ7, nQ11, nQ12, nQ16, nQ17, nQ18, iQ2, iQ3, iQ4, iQ5, iQ6, lQ19, iQ7, lQ20, decide_true, g1, g2]
  refine LieCentralizer_F hR sz hv2 szz fun v6 z6 c6 hz6 hv6 => ?_
  obtain ⟨k6, rfl⟩ := hz6.yes ⟨hl, sp1⟩
  simp only [pwA, if_true, if_false, eq_self, nm_eq, reduceCtorEq, ↓reduceIte, nQ10, nQ7, nQ11, nQ12, nQ16, nQ17, nQ18, iQ2, iQ3, iQ4, iQ5, iQ6, lQ19, iQ7, lQ20, g1, g2]
  refine LieCentralizer_S hR sz hv2 szz fun v7 z7 c7 hz7 hv7 => ?_
  obtain ⟨k7, rfl⟩ := hz7.yes ⟨hl, sp1⟩
  obtain rfl := k6.unique o k7
  clear hz6 hz7 k7
  obtain ⟨P, L, hp, hc, hL⟩ := k6
  have sp6 : isSpan p W z6 := canon_span hc
  have len6 := sp6.2.len
  have szc : SzL z6 := szl_els o sp6.1 (by omega)
  have hpb := hl.1.1.bd
  obtain ⟨cz1, cz2⟩ := centralizer (by omega) hp o q nf hc hL
  simp only [pwA, if_true, if_false, eq_self, nm_eq, reduceCtorEq, ↓reduceIte, nQ10, nQ7, nQ11, nQ12, nQ16, nQ17, nQ18, iQ2, iQ3, iQ4, iQ5, iQ6, lQ19, iQ7, lQ20]
  refine likeRows5_ok hv6 hv7 szc fun t ht => ?_
  obtain rfl : t = true := ht.2 rfl
  clear ht
  simp only [pwA, if_true, if_false, eq_self, nm_eq, reduceCtorEq, ↓reduceIte, nQ10, nQ7, nQ11, nQ12, nQ16, nQ17, nQ18, iQ2, iQ3, iQ4, iQ5, iQ6, lQ19, iQ7, lQ20, decide_true, g1, g2]
  refine IsSubring_F hR sz hv7 szc fun t c hr => ?_
  obtain ⟨rfl, rfl⟩ : t = true ∧ c = 0 := by
    rcases hr with ⟨e, _⟩ | ⟨_, e, rfl⟩
    · exact absurd ⟨hl, sp6⟩ e
    · exact ⟨e.2 cz1, rfl⟩
  clear hr
  simp only [pwA, if_true, if_false, eq_self, nm_eq, reduceCtorEq, ↓reduceIte, nQ10, nQ7, nQ11, nQ12, nQ16, nQ17, nQ18, iQ2, iQ3, iQ4, iQ5, iQ6, lQ19, iQ7, lQ20, g1, g2]
  refine BracketLie_F hR sz hv2 szz hv7 szc fun v8 z8 c8 hz8 hv8 => ?_
  obtain ⟨k8, rfl⟩ := hz8.yes ⟨hl, sp1, sp6⟩
  obtain rfl := canon_nil o k8 fun z hz => by
    obtain ⟨x, hx, y, hy, rfl⟩ := brL_mem.1 hz
    exact cz2 x hx y hy
  obtain ⟨w8, a8, r8, rfl, hr8⟩ := hv8
  simp only [pwA, if_true, if_false, eq_self, nm_eq, reduceCtorEq, ↓reduceIte, nQ10, nQ7, nQ11, nQ12, nQ16, nQ17, nQ18, iQ2, iQ3, iQ4, iQ5, iQ6, lQ19, iQ7, lQ20, decide_true]
  exact hk _
end Go.Proofs
namespace Go.Proofs.YtpcjbkbcaiphmaaGreat
open Go.ChangeShapes Go.WideShapes Go.ChangeAt Go.RowKit Go.Ab Go.Joins Go.Lie Go.Proofs
set_option maxRecDepth 100000 in
theorem subringsContract {H : Type} {enc : TypeId × Value → H} (W : World) (base : Nat) (args : Array Value) (ds gs : List (DataW H)) (before : List MemPlace)
    (hval : ∀ (j : Nat) t v, Tryz.f6.params[j]? = some t → args[j]? = some v → Value.okWide Tryz.prog W .any base t v)
    (hW : DataW.Whole enc Tryz.prog Tryz.f6.params.toList Rows.fnSubringsOfSpec.vars false W args.toList ds gs before) :
    Calls Tryz.prog 6 args W fun e W' => ∃ v, e = .returned v ∧ Rows.fnSubringsOfSpec.post enc Tryz.prog Tryz.f6 false true false false W args v W' := by
  have hW' := hW
  obtain ⟨p, q, hA0, hV, rfl, hfz, hnd⟩ := hW
  have hA : DataW.TrodAll enc Tryz.prog W 0 (fun _ => true) true Tryz.f6.params.toList args.toList ds p := hA0
  rw [Tryz.params6] at hA hval
  obtain ⟨v0, vs0, d0, ds0, p0, q0, hargs, rfl, rfl, t0, r0⟩ := trodAll_cons hA
  obtain ⟨rfl, rfl, rfl⟩ := trodAll_nil r0
  obtain rfl : args = #[v0] := by cases args; simp_all
  obtain ⟨n0, t0⟩ := t0
  obtain ⟨s0, s0', s0'', hv0⟩ := okWide_slice Tryz.underlying22 (hval 0 22 v0 rfl rfl)
  have hc0 : v0.cells.toList = [v0] := by rw [hv0]; rfl
  rw [hc0] at t0
  obtain ⟨j0, h0, vX0, X0, m0, l0, e0, i0, o0, _, R0, y0⟩ := layB _ _ _ true n0 _ _ (MR.empty W) t0
  have pc : PCalls Tryz.prog 6 [vX0] (PHeap.start h0) (fun v _ => v = .bool true) := FnSubringsOf_ok R0 y0 (fun _ => rfl)
  have ac := pc.law m0.wf ⟨o0, trivial⟩
  refine (ac.calls m0 (cargs := #[v0]) ⟨_, _, rfl, i0, rfl⟩).mono fun e W' ⟨he, hb⟩ => ?_
  exact ⟨_, he, post_of_below rfl laidOut (by rw [Tryz.params6]; intro t ht; simp only [List.mem_cons, List.not_mem_nil, or_false] at ht; rcases ht with rfl <;> exact ⟨by kernel_rfl, of_decide_eq_true (by kernel_rfl)⟩) (by kernel_rfl) Tryz.underlying4 rfl hW' hb⟩
set_option maxRecDepth 100000 in
theorem subringsLifted (os : Os) (started : os.Started) (H : Type) (enc : TypeId × Value → H) :
    ReturnsInHanded {} Tryz.checked os 6 .any (Rows.fnSubringsOfSpec.pre6 enc Tryz.prog Tryz.f6 Rows.fnSubringsOfRow.domain false) (Rows.fnSubringsOfSpec.post enc Tryz.prog Tryz.f6 false true false false) := by
  refine returnsInHanded_of_change (C := Tryz.checked) own started (by kernel_rfl) Tryz.func6
    (ChangeSpec.witness6 (enc := enc) (C := Tryz.checked) false ⟨#[], #[.slice none 0 0], []⟩ 8 (by kernel_rfl) (by kernel_rfl) (by kernel_rfl) (by kernel_rfl)) ?_
  intro W base args ds gs before hval hW _ _
  exact subringsContract W base args ds gs before hval hW
set_option maxRecDepth 100000 in
theorem subringsNamed : Tryz.prog.funcNamed Rows.fnSubringsOfRow.func = some 6 := by kernel_rfl
set_option maxRecDepth 100000 in
set_option maxHeartbeats 1600000 in
set_option maxRecDepth 100000 in
theorem subringsClosed : joinedFacts Tryz.prog 6 Tryz.f6 Rows.fnSubringsOfSpec Rows.fnSubringsOfRow = true := by
  unfold joinedFacts
  simp only [Bool.and_eq_true]
  repeat' apply And.intro
  all_goals (as_aux_lemma => kernel_rfl)
theorem subringsProved : Rows.FnSubringsOfSaid :=
  OpenClaim.holds_of_wide 6 Tryz.f6 rfl rfl rfl rfl rfl rfl rfl ⟨rfl, rfl, rfl, rfl, rfl⟩ rfl rfl rfl rfl rfl subringsNamed Tryz.func6 subringsClosed
    (of_decide_eq_true (by kernel_rfl)) (by unfold Func.isWrapper; first | (rw [if_pos (by decide +kernel)]; kernel_rfl) | (rw [if_neg (by decide +kernel)]; exact ⟨rfl, rfl⟩))
    (fun os started H enc _ => subringsLifted os started H enc)
end Go.Proofs.YtpcjbkbcaiphmaaGreat
