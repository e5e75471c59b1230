/- The given statement on Lazard rings (FnConjugateTerms): its law holds for every input. -/
import Derived.Test.YtpcjbkbcaiphmaaGreatAP27
import Derived.Test.YtpcjbkbcaiphmaaGreatAP28
import Derived.Test.YtpcjbkbcaiphmaaGreatAP29
import Derived.Test.YtpcjbkbcaiphmaaGreatAP30
import Derived.Test.YtpcjbkbcaiphmaaGreatAP33
import Derived.Test.YtpcjbkbcaiphmaaGreatAP38
import Derived.Test.YtpcjbkbcaiphmaaGreatAP39
import Derived.Test.YtpcjbkbcaiphmaaGreatAP40
open Nat renaming reduceLeDiff → nQ7, reduceEqDiff → nQ10, reduceBEq → nQ11, reduceAdd → nQ12, reduceLT → nQ16, reduceSub → nQ17, reduceMul → nQ18
open Int renaming reduceEq → iQ2, reduceLT → iQ3, reduceLE → iQ4, reduceNeg → iQ5, reduceToNat → iQ6, ofNat_le → iQ7
open List renaming reduceReplicate → lQ19, getElem?_drop → lQ20
set_option linter.unusedSimpArgs false
set_option linter.unusedVariables false
namespace Go.Proofs
open Go.Ab Go.Lie
variable {σ : PHeap} {K : PV → PHeap → Prop} {p : Int} {W : List (List Int)} {B : List (List (List Int))} {vC : PV} {bs x y z : List Int} {k : Int}
theorem FnConjugateTerms_ok (hb : FB vC bs) (hbd : ∀ b ∈ bs, 0 ≤ b ∧ b ≤ 255) (hk : ∀ σ', K (.bool true) σ') : PCalls Tryz.prog 5 [vC] σ K := by
  have hb1 := hb.one
  have hb2 := hb.cells
  refine pcalls_of_vp mix Tryz.func5 cf5 rfl ?_
  dsimp only [if5, qI, eI, nI, qD, eD]
  simp only [pwA, if_true, if_false, eq_self, nm_eq, reduceCtorEq, ↓reduceIte, nQ10, nQ7, nQ11, nQ12, nQ16, nQ17, nQ18, iQ2, iQ3, iQ4, iQ5, iQ6, lQ19, iQ7, lQ20, hb1]
  refine big_ok hb fun t ht => ?_
  cases t with
  | true =>
    simp only [pwA, if_true, if_false, eq_self, nm_eq, reduceCtorEq, ↓reduceIte, nQ10, nQ7, nQ11, nQ12, nQ16, nQ17, nQ18, iQ2, iQ3, iQ4, iQ5, iQ6, lQ19, iQ7, lQ20]
    exact hk _
  | false =>
  have hlen : bs.length ≤ 4096 := by
    rcases Nat.lt_or_ge 4096 bs.length with e | e
    · have := ht.2 e; cases this
    · exact e
  clear ht
  have hB : Byt bs := ⟨by omega, hbd⟩
  simp only [pwA, if_true, if_false, eq_self, nm_eq, reduceCtorEq, ↓reduceIte, nQ10, nQ7, nQ11, nQ12, nQ16, nQ17, nQ18, iQ2, iQ3, iQ4, iQ5, iQ6, lQ19, iQ7, lQ20, hb1]
  refine DrawConjugateTerms_ok hb hB fun p vP vB W B vx x vy y d hR hvx hxl hvy hyl => ?_
  have g1 := hR.P.one
  have g2 := hR.B.one
  have sz := d.sz
  have szx : x.length ≤ 1048576 := by omega
  have szy : y.length ≤ 1048576 := by omega
  simp only [pwA, if_true, if_false, eq_self, nm_eq, reduceCtorEq, ↓reduceIte, nQ10, nQ7, nQ11, nQ12, nQ16, nQ17, nQ18, iQ2, iQ3, iQ4, iQ5, iQ6, lQ19, iQ7, lQ20, g1, g2]
  refine ConjugateTerms_T hR sz hvx szx hvy szy fun v1 z1 c1 t1 hz1 hv1 ho1 ht1 => ?_
  simp only [pwA, if_true, if_false, eq_self, nm_eq, reduceCtorEq, ↓reduceIte, nQ10, nQ7, nQ11, nQ12, nQ16, nQ17, nQ18, iQ2, iQ3, iQ4, iQ5, iQ6, lQ19, iQ7, lQ20, g1, g2]
  refine l33Conjugates_ok hR sz hvx szx hvy szy fun v2 z2 c2 hz2 hv2 => ?_
  obtain ⟨rfl, rfl⟩ := hz1.unique hz2
  simp only [pwA, if_true, if_false, eq_self, nm_eq, reduceCtorEq, ↓reduceIte, nQ10, nQ7, nQ11, nQ12, nQ16, nQ17, nQ18, iQ2, iQ3, iQ4, iQ5, iQ6, lQ19, iQ7, lQ20]
  refine likeRows5_ok hv1 hv2 (cterms_bd hz1) fun t ht => ?_
  obtain rfl : t = true := ht.2 rfl
  by_cases hc : c1 = 0
  rotate_left
  · simp only [pwA, if_true, if_false, eq_self, nm_eq, reduceCtorEq, ↓reduceIte, nQ10, nQ7, nQ11, nQ12, nQ16, nQ17, nQ18, iQ2, iQ3, iQ4, iQ5, iQ6, lQ19, iQ7, lQ20, hc, decide_false]
    exact hk _
  subst hc
  obtain ⟨⟨⟨hl, he⟩, hlz⟩, rfl⟩ := hz1.zero rfl
  obtain ⟨cc, lz⟩ := Lz.of hl hlz
  have o := hl.1.w
  have q := hl.1.b
  have hx := he x (by simp)
  have hy := he y (by simp)
  have hW6 := d.wl
  have hcj : El p W.length (conj p W.length W B x y) := fold_el o q (els3 (neg_el o hy) hx hy)
  have hcl := hcj.1
  simp only [pwA, if_true, if_false, eq_self, nm_eq, reduceCtorEq, ↓reduceIte, nQ10, nQ7, nQ11, nQ12, nQ16, nQ17, nQ18, iQ2, iQ3, iQ4, iQ5, iQ6, lQ19, iQ7, lQ20, g1, g2]
  refine BchConjugate_T hR sz hvx szx hvy szy fun v3 z3 c3 t3 hz3 hv3 ho3 ht3 => ?_
  simp only [pwA, if_true, if_false, eq_self, nm_eq, reduceCtorEq, ↓reduceIte, nQ10, nQ7, nQ11, nQ12, nQ16, nQ17, nQ18, iQ2, iQ3, iQ4, iQ5, iQ6, lQ19, iQ7, lQ20, g1, g2]
  refine l33Conjugate_ok hR sz hvx szx hvy szy fun v4 z4 c4 hz4 hv4 => ?_
  obtain ⟨rfl, rfl⟩ := hz3.unique hz4
  obtain rfl := hz3.code hz1
  obtain ⟨_, rfl⟩ := hz3.zero rfl
  simp only [pwA, if_true, if_false, eq_self, nm_eq, reduceCtorEq, ↓reduceIte, nQ10, nQ7, nQ11, nQ12, nQ16, nQ17, nQ18, iQ2, iQ3, iQ4, iQ5, iQ6, lQ19, iQ7, lQ20]
  refine likeInts_ok hv3 hv4 (by rw [hcl]; omega) fun t ht => ?_
  obtain rfl : t = true := ht.2 rfl
  obtain ⟨hm3, hget, hsum⟩ := lz.conj_sum hx hy
  obtain ⟨w2, a2, r2, rfl, hr2⟩ := hv2
  obtain ⟨wx, ax, rfl⟩ := hvx
  have hvx : FI (.fz wx ax x.length (pis x)) x := ⟨wx, ax, rfl⟩
  have hH3 : (((σ.new [PV.int .i64 p, vP, vB]).up t1).up t3).obj σ.next = some [.int .i64 p, vP, vB] := by simp only [pwA, if_true, if_false, eq_self, nm_eq, reduceCtorEq, ↓reduceIte, nQ10, nQ7, nQ11, nQ12, nQ16, nQ17, nQ18, iQ2, iQ3, iQ4, iQ5, iQ6, lQ19, iQ7, lQ20]
  have hHn : σ.next < (((σ.new [PV.int .i64 p, vP, vB]).up t1).up t3).next := Nat.lt_succ_self _
  generalize ((σ.new [PV.int .i64 p, vP, vB]).up t1).up t3 = H at *
  simp only [pwA, if_true, if_false, eq_self, nm_eq, reduceCtorEq, ↓reduceIte, nQ10, nQ7, nQ11, nQ12, nQ16, nQ17, nQ18, iQ2, iQ3, iQ4, iQ5, iQ6, lQ19, iQ7, lQ20, mk8 (n := x.length) (by omega), mkL (n := x.length) (by omega), pis_rep]
  have hneH : ¬ σ.next = H.next := by omega
  refine vp_loopG (fun m us h => ∃ (i : Nat) (va : PV), i ≤ (cterms p W.length W B x y).length ∧ m = (cterms p W.length W B x y).length - i ∧ us = [.ptr σ.next 0, .fz wx ax x.length (pis x), vy, .fz w2 a2 (cterms p W.length W B x y).length r2, v4, va, .int .i64 i] ∧ h.rd σ.next 0 3 = some [.int .i64 p, vP, vB] ∧ FI va (tsum p W.length W B y x i)) (cterms p W.length W B x y).length (.fz H.next (pis (List.replicate x.length 0)) (by rw [pobj_new, if_pos rfl]) (pis_bel _ _) fun o1 => .here ⟨0, .fz true (.sl o1 0 x.length (.known x.length)) x.length (pis (List.replicate x.length 0)), Nat.zero_le _, by omega, ?_, ?_, ⟨true, .sl o1 0 x.length (.known x.length), ?_⟩⟩) ?_
  · have e1 := hvy.sb H.next o1 (pis (List.replicate x.length 0))
    have e2 := hv4.sb H.next o1 (pis (List.replicate x.length 0))
    show sbs H.next o1 (pis (List.replicate x.length 0)) [PV.ptr σ.next 0, PV.fz wx ax x.length (pis x), vy, PV.fz w2 a2 (cterms p W.length W B x y).length r2, v4, PV.sl H.next 0 x.length (.known x.length), PV.int .i64 0] = _
    simp only [sbs, sb, e1, e2, capOK, and_self, if_true, Nat.le_refl, decide_true, reduceCtorEq]
    rfl
  · rw [obj_rd (show ((H.new (pis (List.replicate x.length 0))).kill H.next).obj σ.next = some [.int .i64 p, vP, vB] by rw [pobj_kill, if_neg hneH, pobj_new, if_neg hneH]; exact hH3)]
    rfl
  · rw [hx.1]
    simp [tsum]
  rintro m us h ⟨i, va, hi, rfl, rfl, hrd, hva⟩
  have htl := (tsum_el o q hx (y := y) i).1
  simp only [pwA, if_true, if_false, eq_self, nm_eq, reduceCtorEq, ↓reduceIte, nQ10, nQ7, nQ11, nQ12, nQ16, nQ17, nQ18, iQ2, iQ3, iQ4, iQ5, iQ6, lQ19, iQ7, lQ20]
  refine iteI (fun hlt => ?_) fun hge => ?_
  · have hlt' : i < (cterms p W.length W B x y).length := by omega
    obtain ⟨wi, ai, hri⟩ := hr2.rowI hlt'
    rw [hget i hlt'] at hri
    have hct := cterm_el o q hx (y := y) i
    have hcl := hct.1
    have hvt : FI (.fz wi ai (cterm p W.length W B y x i).length (pis (cterm p W.length W B y x i))) (cterm p W.length W B y x i) := ⟨wi, ai, rfl⟩
    simp only [pwA, if_true, if_false, eq_self, nm_eq, reduceCtorEq, ↓reduceIte, nQ10, nQ7, nQ11, nQ12, nQ16, nQ17, nQ18, iQ2, iQ3, iQ4, iQ5, iQ6, lQ19, iQ7, lQ20, hrd, hri, hlt']
    refine AddLie_F hR sz hva (by omega) hvt (by omega) fun v5 z5 c5 hz5 hv5 => ?_
    obtain ⟨rfl, rfl⟩ := hz5.ok hl (el2' (tsum_el o q hx i) hct) trivial
    simp only [pwA, if_true, if_false, eq_self, nm_eq, reduceCtorEq, ↓reduceIte, nQ10, nQ7, nQ11, nQ12, nQ16, nQ17, nQ18, iQ2, iQ3, iQ4, iQ5, iQ6, lQ19, iQ7, lQ20, hrd, hri, hlt']
    refine AddLie_S hR sz hva (by omega) hvt (by omega) fun v6 z6 c6 hz6 hv6 => ?_
    obtain ⟨rfl, rfl⟩ := hz6.ok hl (el2' (tsum_el o q hx i) hct) trivial
    have hsl := (tsum_el o q hx (y := y) (i + 1)).1
    simp only [pwA, if_true, if_false, eq_self, nm_eq, reduceCtorEq, ↓reduceIte, nQ10, nQ7, nQ11, nQ12, nQ16, nQ17, nQ18, iQ2, iQ3, iQ4, iQ5, iQ6, lQ19, iQ7, lQ20]
    refine likeInts_ok hv5 hv6 (by show (tsum p W.length W B y x (i + 1)).length ≤ _; omega) fun t ht => ?_
    obtain rfl : t = true := ht.2 rfl
    have wi1 : IntKind.i64.wrap ((i : Int) + 1) = ((i + 1 : Nat) : Int) := by rw [wrap64 (by omega) (by omega)]; omega
    simp only [pwA, if_true, if_false, eq_self, nm_eq, reduceCtorEq, ↓reduceIte, nQ10, nQ7, nQ11, nQ12, nQ16, nQ17, nQ18, iQ2, iQ3, iQ4, iQ5, iQ6, lQ19, iQ7, lQ20, wi1]
    exact ⟨(cterms p W.length W B x y).length - (i + 1), by omega, .here ⟨i + 1, v6, by omega, rfl, rfl, hrd, hv6⟩⟩
  have hie : i = (cterms p W.length W B x y).length := by omega
  rw [hie, hsum] at hva
  clear hz3 hz4
  have hbl := (bch_el o q hx hy).1
  have hcm := comm_el lz hx hy
  have hcml := hcm.1
  have hn := neg_el o hx
  have hnl := hn.1
  have szc : (conj p W.length W B x y).length ≤ 1048576 := by omega
  have code0 : CodeL p W B [x, y] 0 := .inr (.inr ⟨⟨hl, he⟩, hlz, rfl⟩)
  have code1 : CodeL p W B [y, conj p W.length W B x y] 0 := .inr (.inr ⟨⟨hl, el2' hy hcj⟩, hlz, rfl⟩)
  have code2 : CodeL p W B [lmul p W (-1) x, conj p W.length W B x y] 0 := .inr (.inr ⟨⟨hl, el2' hn hcj⟩, hlz, rfl⟩)
  simp only [pwA, if_true, if_false, eq_self, nm_eq, reduceCtorEq, ↓reduceIte, nQ10, nQ7, nQ11, nQ12, nQ16, nQ17, nQ18, iQ2, iQ3, iQ4, iQ5, iQ6, lQ19, iQ7, lQ20, hrd]
  refine BchProduct_T hR sz hvy szy hv4 szc fun v7 z7 c7 t7 hz7 hv7 ho7 ht7 => ?_
  obtain ⟨rfl, rfl⟩ := hz7.unique (.inr ⟨code1, rfl, rfl⟩)
  simp only [pwA, if_true, if_false, eq_self, nm_eq, reduceCtorEq, ↓reduceIte, nQ10, nQ7, nQ11, nQ12, nQ16, nQ17, nQ18, iQ2, iQ3, iQ4, iQ5, iQ6, lQ19, iQ7, lQ20, hrd]
  refine BchProduct_T hR sz hvx szx hvy szy fun v8 z8 c8 t8 hz8 hv8 ho8 ht8 => ?_
  obtain ⟨rfl, rfl⟩ := hz8.unique (.inr ⟨code0, rfl, rfl⟩)
  simp only [pwA, if_true, if_false, eq_self, nm_eq, reduceCtorEq, ↓reduceIte, nQ10, nQ7, nQ11, nQ12, nQ16, nQ17, nQ18, iQ2, iQ3, iQ4, iQ5, iQ6, lQ19, iQ7, lQ20, hrd]
  refine l33Product_ok hR sz hvx szx hvy szy fun v9 z9 c9 hz9 hv9 => ?_
  obtain ⟨rfl, rfl⟩ := hz9.unique (.inr ⟨code0, rfl, rfl⟩)
  simp only [pwA, if_true, if_false, eq_self, nm_eq, reduceCtorEq, ↓reduceIte, nQ10, nQ7, nQ11, nQ12, nQ16, nQ17, nQ18, iQ2, iQ3, iQ4, iQ5, iQ6, lQ19, iQ7, lQ20, hrd]
  refine BchCommutator_T hR sz hvx szx hvy szy fun v10 z10 c10 t10 hz10 hv10 ho10 ht10 => ?_
  obtain ⟨rfl, rfl⟩ := hz10.unique (.inr ⟨code0, rfl, rfl⟩)
  simp only [pwA, if_true, if_false, eq_self, nm_eq, reduceCtorEq, ↓reduceIte, nQ10, nQ7, nQ11, nQ12, nQ16, nQ17, nQ18, iQ2, iQ3, iQ4, iQ5, iQ6, lQ19, iQ7, lQ20, hrd]
  refine l33Commutator_ok hR sz hvx szx hvy szy fun v11 z11 c11 hz11 hv11 => ?_
  obtain ⟨rfl, rfl⟩ := hz11.unique (.inr ⟨code0, rfl, rfl⟩)
  simp only [pwA, if_true, if_false, eq_self, nm_eq, reduceCtorEq, ↓reduceIte, nQ10, nQ7, nQ11, nQ12, nQ16, nQ17, nQ18, iQ2, iQ3, iQ4, iQ5, iQ6, lQ19, iQ7, lQ20, hrd]
  refine NegateLie_S hR sz hvx szx fun v12 z12 c12 hz12 hv12 => ?_
  obtain ⟨rfl, rfl⟩ := hz12.ok hl (el1 hx) trivial
  simp only [pwA, if_true, if_false, eq_self, nm_eq, reduceCtorEq, ↓reduceIte, nQ10, nQ7, nQ11, nQ12, nQ16, nQ17, nQ18, iQ2, iQ3, iQ4, iQ5, iQ6, lQ19, iQ7, lQ20, hrd]
  refine BchProduct_T hR sz hv12 (by omega) hv4 szc fun v13 z13 c13 t13 hz13 hv13 ho13 ht13 => ?_
  obtain ⟨rfl, rfl⟩ := hz13.unique (.inr ⟨code2, rfl, rfl⟩)
  simp only [pwA, if_true, if_false, eq_self, nm_eq, reduceCtorEq, ↓reduceIte, nQ10, nQ7, nQ11, nQ12, nQ16, nQ17, nQ18, iQ2, iQ3, iQ4, iQ5, iQ6, lQ19, iQ7, lQ20, decide_true]
  refine likeInts_ok hva hv4 (szc) fun t ht => ?_
  obtain rfl : t = true := ht.2 (rfl)
  simp only [pwA, if_true, if_false, eq_self, nm_eq, reduceCtorEq, ↓reduceIte, nQ10, nQ7, nQ11, nQ12, nQ16, nQ17, nQ18, iQ2, iQ3, iQ4, iQ5, iQ6, lQ19, iQ7, lQ20, decide_true]
  refine likeInts_ok hv7 hv9 (by rw [lz.conj_move hx hy, hbl]; omega) fun t ht => ?_
  obtain rfl : t = true := ht.2 (lz.conj_move hx hy)
  simp only [pwA, if_true, if_false, eq_self, nm_eq, reduceCtorEq, ↓reduceIte, nQ10, nQ7, nQ11, nQ12, nQ16, nQ17, nQ18, iQ2, iQ3, iQ4, iQ5, iQ6, lQ19, iQ7, lQ20, decide_true]
  refine likeInts_ok hv8 hv9 (by rw [hbl]; omega) fun t ht => ?_
  obtain rfl : t = true := ht.2 (rfl)
  simp only [pwA, if_true, if_false, eq_self, nm_eq, reduceCtorEq, ↓reduceIte, nQ10, nQ7, nQ11, nQ12, nQ16, nQ17, nQ18, iQ2, iQ3, iQ4, iQ5, iQ6, lQ19, iQ7, lQ20, decide_true]
  refine likeInts_ok hv10 hv11 (by rw [hcml]; omega) fun t ht => ?_
  obtain rfl : t = true := ht.2 (rfl)
  simp only [pwA, if_true, if_false, eq_self, nm_eq, reduceCtorEq, ↓reduceIte, nQ10, nQ7, nQ11, nQ12, nQ16, nQ17, nQ18, iQ2, iQ3, iQ4, iQ5, iQ6, lQ19, iQ7, lQ20, decide_true]
  refine likeInts_ok hv13 hv11 (by rw [lz.conj_comm hx hy, hcml]; omega) fun t ht => ?_
  obtain rfl : t = true := ht.2 (lz.conj_comm hx hy)
  simp only [pwA, if_true, if_false, eq_self, nm_eq, reduceCtorEq, ↓reduceIte, nQ10, nQ7, nQ11, nQ12, nQ16, nQ17, nQ18, iQ2, iQ3, iQ4, iQ5, iQ6, lQ19, iQ7, lQ20, decide_true]
  exact hk _
end Go.Proofs
namespace Go.Proofs.YtpcjbkbcaiphmaaGreat
open Go.ChangeShapes Go.WideShapes Go.ChangeAt Go.RowKit Go.Ab Go.Joins Go.Lie Go.Proofs
set_option maxRecDepth 100000 in
theorem conjTermsContract {H : Type} {enc : TypeId × Value → H} (W : World) (base : Nat) (args : Array Value) (ds gs : List (DataW H)) (before : List MemPlace)
    (hval : ∀ (j : Nat) t v, Tryz.f5.params[j]? = some t → args[j]? = some v → Value.okWide Tryz.prog W .any base t v)
    (hW : DataW.Whole enc Tryz.prog Tryz.f5.params.toList Rows.fnConjugateTermsSpec.vars false W args.toList ds gs before) :
    Calls Tryz.prog 5 args W fun e W' => ∃ v, e = .returned v ∧ Rows.fnConjugateTermsSpec.post enc Tryz.prog Tryz.f5 false true false false W args v W' := by
  have hW' := hW
  obtain ⟨p, q, hA0, hV, rfl, hfz, hnd⟩ := hW
  have hA : DataW.TrodAll enc Tryz.prog W 0 (fun _ => true) true Tryz.f5.params.toList args.toList ds p := hA0
  rw [Tryz.params5] at hA hval
  obtain ⟨v0, vs0, d0, ds0, p0, q0, hargs, rfl, rfl, t0, r0⟩ := trodAll_cons hA
  obtain ⟨rfl, rfl, rfl⟩ := trodAll_nil r0
  obtain rfl : args = #[v0] := by cases args; simp_all
  obtain ⟨n0, t0⟩ := t0
  obtain ⟨s0, s0', s0'', hv0⟩ := okWide_slice Tryz.underlying22 (hval 0 22 v0 rfl rfl)
  have hc0 : v0.cells.toList = [v0] := by rw [hv0]; rfl
  rw [hc0] at t0
  obtain ⟨j0, h0, vX0, X0, m0, l0, e0, i0, o0, _, R0, y0⟩ := layB _ _ _ true n0 _ _ (MR.empty W) t0
  have pc : PCalls Tryz.prog 5 [vX0] (PHeap.start h0) (fun v _ => v = .bool true) := FnConjugateTerms_ok R0 y0 (fun _ => rfl)
  have ac := pc.law m0.wf ⟨o0, trivial⟩
  refine (ac.calls m0 (cargs := #[v0]) ⟨_, _, rfl, i0, rfl⟩).mono fun e W' ⟨he, hb⟩ => ?_
  exact ⟨_, he, post_of_below rfl laidOut (by rw [Tryz.params5]; intro t ht; simp only [List.mem_cons, List.not_mem_nil, or_false] at ht; rcases ht with rfl <;> exact ⟨by kernel_rfl, of_decide_eq_true (by kernel_rfl)⟩) (by kernel_rfl) Tryz.underlying4 rfl hW' hb⟩
set_option maxRecDepth 100000 in
theorem conjTermsLifted (os : Os) (started : os.Started) (H : Type) (enc : TypeId × Value → H) :
    ReturnsInHanded {} Tryz.checked os 5 .any (Rows.fnConjugateTermsSpec.pre6 enc Tryz.prog Tryz.f5 Rows.fnConjugateTermsRow.domain false) (Rows.fnConjugateTermsSpec.post enc Tryz.prog Tryz.f5 false true false false) := by
  refine returnsInHanded_of_change (C := Tryz.checked) own started (by kernel_rfl) Tryz.func5
    (ChangeSpec.witness6 (enc := enc) (C := Tryz.checked) false ⟨#[], #[.slice none 0 0], []⟩ 8 (by kernel_rfl) (by kernel_rfl) (by kernel_rfl) (by kernel_rfl)) ?_
  intro W base args ds gs before hval hW _ _
  exact conjTermsContract W base args ds gs before hval hW
set_option maxRecDepth 100000 in
theorem conjTermsNamed : Tryz.prog.funcNamed Rows.fnConjugateTermsRow.func = some 5 := by kernel_rfl
set_option maxHeartbeats 1600000 in
set_option maxRecDepth 100000 in
theorem conjTermsClosed : joinedFacts Tryz.prog 5 Tryz.f5 Rows.fnConjugateTermsSpec Rows.fnConjugateTermsRow = true := by
  unfold joinedFacts
  simp only [Bool.and_eq_true]
  repeat' apply And.intro
  all_goals (as_aux_lemma => kernel_rfl)
theorem conjTermsProved : Rows.FnConjugateTermsSaid :=
  OpenClaim.holds_of_wide 5 Tryz.f5 rfl rfl rfl rfl rfl rfl rfl ⟨rfl, rfl, rfl, rfl, rfl⟩ rfl rfl rfl rfl rfl conjTermsNamed Tryz.func5 conjTermsClosed
    (of_decide_eq_true (by kernel_rfl)) (by unfold Func.isWrapper; first | (rw [if_pos (by decide +kernel)]; kernel_rfl) | (rw [if_neg (by decide +kernel)]; exact ⟨rfl, rfl⟩))
    (fun os started H enc _ => conjTermsLifted os started H enc)
end Go.Proofs.YtpcjbkbcaiphmaaGreat
