/- The given statement on spans (FnLieSpans): its law holds for every input. -/
import Derived.Test.YtpcjbkbcaiphmaaIP27
import Derived.Test.YtpcjbkbcaiphmaaIP28
import Derived.Test.YtpcjbkbcaiphmaaIP29
import Derived.Test.YtpcjbkbcaiphmaaIP31
import Derived.Test.YtpcjbkbcaiphmaaIP33
import Derived.Test.YtpcjbkbcaiphmaaIP35
import Derived.Test.YtpcjbkbcaiphmaaIP38
import Derived.Test.YtpcjbkbcaiphmaaIP39
open Nat renaming reduceLeDiff → nQ7, reduceEqDiff → nQ10, reduceBEq → nQ11, reduceAdd → nQ12, reduceLT → nQ16, reduceSub → nQ17, reduceMul → nQ18
open Int renaming reduceEq → iQ2, reduceLT → iQ3, reduceLE → iQ4, reduceNeg → iQ5, reduceToNat → iQ6, ofNat_le → iQ7
open List renaming reduceReplicate → lQ19, getElem?_drop → lQ20
set_option linter.unusedSimpArgs false
set_option linter.unusedVariables false
namespace Go.Proofs
open Go.Ab Go.Lie
variable {σ : PHeap} {K : PV → PHeap → Prop} {p : Int} {W : List (List Int)} {B : List (List (List Int))} {vC : PV} {bs : List Int}
theorem FnLieSpans_ok (hb : FB vC bs) (hbd : ∀ b ∈ bs, 0 ≤ b ∧ b ≤ 255) (hk : ∀ σ', K (.bool true) σ') : PCalls Try.prog 4 [vC] σ K := by
  have hb1 := hb.one
  have hb2 := hb.cells
  refine pcalls_of_vp mix Try.func4 cf4 rfl ?_
  dsimp only [if4, qI, eI, nI, qD, eD]
  simp only [pwA, if_true, if_false, eq_self, nm_eq, reduceCtorEq, ↓reduceIte, nQ10, nQ7, nQ11, nQ12, nQ16, nQ17, nQ18, iQ2, iQ3, iQ4, iQ5, iQ6, lQ19, iQ7, lQ20, hb1]
  refine big_ok hb fun t ht => ?_
  cases t with
  | true =>
    simp only [pwA, if_true, if_false, eq_self, nm_eq, reduceCtorEq, ↓reduceIte, nQ10, nQ7, nQ11, nQ12, nQ16, nQ17, nQ18, iQ2, iQ3, iQ4, iQ5, iQ6, lQ19, iQ7, lQ20]
    exact hk _
  | false =>
  have hlen : bs.length ≤ 4096 := by
    rcases Nat.lt_or_ge 4096 bs.length with e | e
    · have := ht.2 e; cases this
    · exact e
  clear ht
  have hB : Byt bs := ⟨by omega, hbd⟩
  simp only [pwA, if_true, if_false, eq_self, nm_eq, reduceCtorEq, ↓reduceIte, nQ10, nQ7, nQ11, nQ12, nQ16, nQ17, nQ18, iQ2, iQ3, iQ4, iQ5, iQ6, lQ19, iQ7, lQ20, hb1]
  refine DrawSumLie_ok hb hB fun p vP vB W B vU u vV v d hR hU hul hux hV hvl hvx => ?_
  have g1 := hR.P.one
  have g2 := hR.B.one
  have sz := d.sz
  have szu : SzL u := ⟨by omega, fun x hx => by have := hux x hx; omega⟩
  have szv : SzL v := ⟨by omega, fun x hx => by have := hvx x hx; omega⟩
  simp only [pwA, if_true, if_false, eq_self, nm_eq, reduceCtorEq, ↓reduceIte, nQ10, nQ7, nQ11, nQ12, nQ16, nQ17, nQ18, iQ2, iQ3, iQ4, iQ5, iQ6, lQ19, iQ7, lQ20, g1, g2]
  refine SumLie_F hR sz hU szu hV szv fun v1 z1 c1 hz1 hv1 => ?_
  simp only [pwA, if_true, if_false, eq_self, nm_eq, reduceCtorEq, ↓reduceIte, nQ10, nQ7, nQ11, nQ12, nQ16, nQ17, nQ18, iQ2, iQ3, iQ4, iQ5, iQ6, lQ19, iQ7, lQ20, g1, g2]
  refine SumLie_S hR sz hU szu hV szv fun v2 z2 c2 hz2 hv2 => ?_
  simp only [pwA, if_true, if_false, eq_self, nm_eq, reduceCtorEq, ↓reduceIte, nQ10, nQ7, nQ11, nQ12, nQ16, nQ17, nQ18, iQ2, iQ3, iQ4, iQ5, iQ6, lQ19, iQ7, lQ20, g1, g2]
  refine MeetLie_F hR sz hU szu hV szv fun v3 z3 c3 hz3 hv3 => ?_
  simp only [pwA, if_true, if_false, eq_self, nm_eq, reduceCtorEq, ↓reduceIte, nQ10, nQ7, nQ11, nQ12, nQ16, nQ17, nQ18, iQ2, iQ3, iQ4, iQ5, iQ6, lQ19, iQ7, lQ20, g1, g2]
  refine MeetLie_S hR sz hU szu hV szv fun v4 z4 c4 hz4 hv4 => ?_
  by_cases hok : isLie p W B ∧ isSpan p W u ∧ isSpan p W v
  rotate_left
  · obtain ⟨rfl, rfl⟩ := hz1.no hok
    obtain ⟨rfl, rfl⟩ := hz2.no hok
    obtain ⟨rfl, rfl⟩ := hz3.no hok
    obtain ⟨rfl, rfl⟩ := hz4.no hok
    simp only [pwA, if_true, if_false, eq_self, nm_eq, reduceCtorEq, ↓reduceIte, nQ10, nQ7, nQ11, nQ12, nQ16, nQ17, nQ18, iQ2, iQ3, iQ4, iQ5, iQ6, lQ19, iQ7, lQ20]
    refine likeRows5_ok hv1 hv2 ⟨by simp, fun x hx => by cases hx⟩ fun t ht => ?_
    obtain rfl : t = true := ht.2 rfl
    simp only [pwA, if_true, if_false, eq_self, nm_eq, reduceCtorEq, ↓reduceIte, nQ10, nQ7, nQ11, nQ12, nQ16, nQ17, nQ18, iQ2, iQ3, iQ4, iQ5, iQ6, lQ19, iQ7, lQ20, decide_true]
    refine likeRows5_ok hv3 hv4 ⟨by simp, fun x hx => by cases hx⟩ fun t ht => ?_
    obtain rfl : t = true := ht.2 rfl
    simp only [pwA, if_true, if_false, eq_self, nm_eq, reduceCtorEq, ↓reduceIte, nQ10, nQ7, nQ11, nQ12, nQ16, nQ17, nQ18, iQ2, iQ3, iQ4, iQ5, iQ6, lQ19, iQ7, lQ20, decide_true]
    exact hk _
  obtain ⟨k1, rfl⟩ := hz1.yes hok
  obtain ⟨k2, rfl⟩ := hz2.yes hok
  obtain ⟨k3, rfl⟩ := hz3.yes hok
  obtain ⟨k4, rfl⟩ := hz4.yes hok
  obtain ⟨hl, su, sv⟩ := hok
  have o := hl.1.w
  have q := hl.1.b
  have hn6 := o.le
  obtain rfl := k1.unique o k2
  obtain rfl := k3.unique o k4
  clear hz1 hz2 hz3 hz4 k2 k4
  have sp1 : isSpan p W z1 := canon_span k1
  have sp3 : isSpan p W z3 := by
    obtain ⟨P, L, _, hc, _⟩ := k3
    exact canon_span hc
  obtain ⟨mt1, mt2⟩ := k3.both o hl.1.1
  have hsum := sum_meet o hl.1.1 su.2 sv.2.base k1 sp3.2 mt1 mt2
  have len1 := sp1.2.len
  have len3 := sp3.2.len
  have sz1 : SzL z1 := szl_els o sp1.1 (by omega)
  have sz3 : SzL z3 := szl_els o sp3.1 (by omega)
  simp only [pwA, if_true, if_false, eq_self, nm_eq, reduceCtorEq, ↓reduceIte, nQ10, nQ7, nQ11, nQ12, nQ16, nQ17, nQ18, iQ2, iQ3, iQ4, iQ5, iQ6, lQ19, iQ7, lQ20]
  refine likeRows5_ok hv1 hv2 sz1 fun t ht => ?_
  obtain rfl : t = true := ht.2 rfl
  clear ht
  simp only [pwA, if_true, if_false, eq_self, nm_eq, reduceCtorEq, ↓reduceIte, nQ10, nQ7, nQ11, nQ12, nQ16, nQ17, nQ18, iQ2, iQ3, iQ4, iQ5, iQ6, lQ19, iQ7, lQ20, decide_true]
  refine likeRows5_ok hv3 hv4 sz3 fun t ht => ?_
  obtain rfl : t = true := ht.2 rfl
  clear ht
  obtain ⟨wu, au, ru, rfl, hru⟩ := hU
  obtain ⟨wv, av, rv, rfl, hrv⟩ := hV
  obtain ⟨w2, a2, r2, rfl, hr2⟩ := hv2
  obtain ⟨w4, a4, r4, rfl, hr4⟩ := hv4
  have hU : FII (.fz wu au u.length ru) u := ⟨wu, au, ru, rfl, hru⟩
  have hV : FII (.fz wv av v.length rv) v := ⟨wv, av, rv, rfl, hrv⟩
  have hv2 : FII (.fz w2 a2 z1.length r2) z1 := ⟨w2, a2, r2, rfl, hr2⟩
  have hv4 : FII (.fz w4 a4 z3.length r4) z3 := ⟨w4, a4, r4, rfl, hr4⟩
  have wa : IntKind.i64.wrap ((z1.length : Int) + (z3.length : Int)) = (u.length : Int) + (v.length : Int) := by rw [wrap64 (by omega) (by omega)]; omega
  have wb : IntKind.i64.wrap ((u.length : Int) + (v.length : Int)) = (u.length : Int) + (v.length : Int) := wrap64 (by omega) (by omega)
  simp only [pwA, if_true, if_false, eq_self, nm_eq, reduceCtorEq, ↓reduceIte, nQ10, nQ7, nQ11, nQ12, nQ16, nQ17, nQ18, iQ2, iQ3, iQ4, iQ5, iQ6, lQ19, iQ7, lQ20, decide_true, wa, wb, g1, g2]
  refine IsLieSpan_F hR sz hv2 sz1 fun t ht => ?_
  obtain rfl : t = true := ht.2 ⟨hl, sp1⟩
  clear ht
  simp only [pwA, if_true, if_false, eq_self, nm_eq, reduceCtorEq, ↓reduceIte, nQ10, nQ7, nQ11, nQ12, nQ16, nQ17, nQ18, iQ2, iQ3, iQ4, iQ5, iQ6, lQ19, iQ7, lQ20, decide_true, g1, g2]
  refine IsLieSpan_F hR sz hv4 sz3 fun t ht => ?_
  obtain rfl : t = true := ht.2 ⟨hl, sp3⟩
  clear ht
  have wc : IntKind.i64.wrap ((v.length : Int) - 1) = (v.length : Int) - 1 := wrap64 (by omega) (by omega)
  have hobH : (σ.new [.int .i64 p, vP, vB]).obj σ.next = some [.int .i64 p, vP, vB] := by simp only [pwA, if_true, if_false, eq_self, nm_eq, reduceCtorEq, ↓reduceIte, nQ10, nQ7, nQ11, nQ12, nQ16, nQ17, nQ18, iQ2, iQ3, iQ4, iQ5, iQ6, lQ19, iQ7, lQ20]
  have hHn : (σ.new [.int .i64 p, vP, vB]).next = σ.next + 1 := rfl
  simp only [pwA, if_true, if_false, eq_self, nm_eq, reduceCtorEq, ↓reduceIte, nQ10, nQ7, nQ11, nQ12, nQ16, nQ17, nQ18, iQ2, iQ3, iQ4, iQ5, iQ6, lQ19, iQ7, lQ20, decide_true, wc]
  generalize σ.new [.int .i64 p, vP, vB] = H at *
  refine vp_loop (fun m us h => ∃ (c : Nat) (vL : PV) (rows : List PV), c ≤ v.length ∧ m = c ∧ us = [.ptr σ.next 0, .fz wu au u.length ru, .fz wv av v.length rv, .fz w2 a2 z1.length r2, .fz w4 a4 z3.length r4, vL, .int .i64 ((c : Int) - 1)] ∧ Keep H h ∧ PSl H.next 1 h vL (v.length - c) rows ∧ All2 FI rows (v.drop c).reverse) v.length ?_ ?_
  · refine ⟨v.length, _, [], Nat.le_refl _, rfl, rfl, keep_new H _, ?_, ?_⟩
    · rw [Nat.sub_self]
      show PSl H.next 1 (H.new []) (.sl (σ.next + 1) 0 0 (.known 0)) 0 []
      rw [← hHn]
      exact PSl.new _ 1 (n := 0) (cs := []) rfl (Nat.le_refl _)
    · rw [List.drop_length]
      exact All2.nil _
  rintro m us h ⟨c, vL, rows, hcl, rfl, rfl, hkp, ps, hrows⟩
  have hobh : h.obj σ.next = some [.int .i64 p, vP, vB] := by rw [hkp.obj _ (by omega)]; exact hobH
  simp only [pwA, if_true, if_false, eq_self, nm_eq, reduceCtorEq, ↓reduceIte, nQ10, nQ7, nQ11, nQ12, nQ16, nQ17, nQ18, iQ2, iQ3, iQ4, iQ5, iQ6, lQ19, iQ7, lQ20]
  by_cases hc0 : m = 0
  rotate_left
  · obtain ⟨c, rfl⟩ : ∃ c, m = c + 1 := ⟨m - 1, by omega⟩
    have e : ((c + 1 : Nat) : Int) - 1 = (c : Int) := by omega
    have hlt : c < v.length := by omega
    have hge : (c : Int) ≥ 0 := by omega
    have hge' : (0 : Int) ≤ (c : Int) := by omega
    have w1 : IntKind.i64.wrap ((c : Int) - 1) = (c : Int) - 1 := wrap64 (by omega) (by omega)
    obtain ⟨w5, a5, hr5⟩ := hrv.rowI hlt
    rw [e]
    simp only [pwA, if_true, if_false, eq_self, nm_eq, reduceCtorEq, ↓reduceIte, nQ10, nQ7, nQ11, nQ12, nQ16, nQ17, nQ18, iQ2, iQ3, iQ4, iQ5, iQ6, lQ19, iQ7, lQ20, hge, hge', hlt, hr5]
    refine PSl.push (bytes := 24) (σb := H) hkp ps (by omega) (by omega) fun v6 h6 k6 a6 => ?_
    simp only [pwA, if_true, if_false, eq_self, nm_eq, reduceCtorEq, ↓reduceIte, nQ10, nQ7, nQ11, nQ12, nQ16, nQ17, nQ18, iQ2, iQ3, iQ4, iQ5, iQ6, lQ19, iQ7, lQ20, w1]
    refine ⟨c, Nat.lt_succ_self c, c, v6, rows ++ [.fz w5 a5 v[c].length (pis v[c])], by omega, rfl, rfl, k6, ?_, ?_⟩
    · rw [show v.length - c = v.length - (c + 1) + 1 by omega]
      exact a6
    · rw [List.drop_eq_getElem_cons hlt, List.reverse_cons]
      exact hrows.snoc ⟨w5, a5, rfl⟩
  subst hc0
  have hng : ¬ ((0 : Nat) : Int) - 1 ≥ 0 := by omega
  have hng' : ¬ (0 : Int) ≤ ((0 : Nat) : Int) - 1 := by omega
  rw [List.drop_zero] at hrows
  rw [Nat.sub_zero] at ps
  simp only [pwA, if_true, if_false, eq_self, nm_eq, reduceCtorEq, ↓reduceIte, nQ10, nQ7, nQ11, nQ12, nQ16, nQ17, nQ18, iQ2, iQ3, iQ4, iQ5, iQ6, lQ19, iQ7, lQ20, hng, hng']
  refine PSl.cat (bytes := 24) (σb := H) hkp ps hru.1 (by omega) (by omega) fun v6 h6 k6 a6 => ?_
  obtain ⟨t, cap, rfl, hc, q2, q3, q4, q5⟩ := a6
  have hob6 : h6.obj σ.next = some [.int .i64 p, vP, vB] := by rw [k6.obj _ (by omega)]; exact hobH
  have hr3 : h6.rd σ.next 0 3 = some [.int .i64 p, vP, vB] := by rw [obj_rd hob6]; rfl
  have hrow := hrows.append hru
  have hll : (v.reverse ++ u).length = v.length + u.length := by simp
  simp only [pwA, if_true, if_false, eq_self, nm_eq, reduceCtorEq, ↓reduceIte, nQ10, nQ7, nQ11, nQ12, nQ16, nQ17, nQ18, iQ2, iQ3, iQ4, iQ5, iQ6, lQ19, iQ7, lQ20, hr3]
  refine PCalls.frz q2 (hrow.bI 0) fun o1 => ?_
  have e1 := hR.P.sb t o1 (rows ++ ru)
  have e2 := hR.B.sb t o1 (rows ++ ru)
  simp only [sbs, sb, hc.ok, and_self, if_true, e1, e2, nm_eq]
  have k7 : Keep H (h6.kill t) := k6.kill q4
  have hob7 : (h6.kill t).obj σ.next = some [.int .i64 p, vP, vB] := by rw [k7.obj _ (by omega)]; exact hobH
  generalize h6.kill t = H7 at *
  have eL : Els p W.length (v.reverse ++ u) := fun x hx => by
    rcases List.mem_append.1 hx with e | e
    · exact sv.1 x (List.mem_reverse.1 e)
    · exact su.1 x e
  refine LieSpan_F hR sz (gens := v.reverse ++ u) ⟨true, _, _, by rw [hll], hrow⟩ (szl_els o eL (by omega)) fun v8 z8 c8 hz8 hv8 => ?_
  obtain ⟨k8, rfl⟩ := hz8.yes ⟨hl, eL⟩
  have h8 : z8 = z1 := canon_unique o k8.base k8.red k1.base k1.red (fun f hf => (k1.gen f).1 (gen_sublist (fun x hx => by
    rcases List.mem_append.1 hx with e | e
    · exact List.mem_append_right _ (List.mem_reverse.1 e)
    · exact List.mem_append_left _ e) ((k8.gen f).2 hf))) (fun f hf => (k8.gen f).1 (gen_sublist (fun x hx => by
    rcases List.mem_append.1 hx with e | e
    · exact List.mem_append_right _ e
    · exact List.mem_append_left _ (List.mem_reverse.2 e)) ((k1.gen f).2 hf)))
  obtain rfl := h8
  simp only [pwA, if_true, if_false, eq_self, nm_eq, reduceCtorEq, ↓reduceIte, nQ10, nQ7, nQ11, nQ12, nQ16, nQ17, nQ18, iQ2, iQ3, iQ4, iQ5, iQ6, lQ19, iQ7, lQ20, decide_true]
  refine likeRows5_ok hv8 hv2 sz1 fun t ht => ?_
  obtain rfl : t = true := ht.2 rfl
  clear ht
  have hr37 : H7.rd σ.next 0 3 = some [.int .i64 p, vP, vB] := by rw [obj_rd hob7]; rfl
  simp only [pwA, if_true, if_false, eq_self, nm_eq, reduceCtorEq, ↓reduceIte, nQ10, nQ7, nQ11, nQ12, nQ16, nQ17, nQ18, iQ2, iQ3, iQ4, iQ5, iQ6, lQ19, iQ7, lQ20, decide_true]
  refine vp_loop (fun m us h => ∃ i : Nat, i ≤ z3.length ∧ m = z3.length - i ∧ us = [.ptr σ.next 0, .fz wu au u.length ru, .fz wv av v.length rv, .fz w4 a4 z3.length r4, .int .i64 i] ∧ H7 = h) z3.length ⟨0, by omega, by omega, rfl, rfl⟩ ?_
  rintro m us h ⟨i, hi, rfl, rfl, rfl⟩
  simp only [pwA, if_true, if_false, eq_self, nm_eq, reduceCtorEq, ↓reduceIte, nQ10, nQ7, nQ11, nQ12, nQ16, nQ17, nQ18, iQ2, iQ3, iQ4, iQ5, iQ6, lQ19, iQ7, lQ20]
  refine iteI (fun hlt => ?_) fun hge => ?_
  rotate_left
  · exact hk _
  obtain ⟨w5, a5, hr5⟩ := hr4.rowI hlt
  have exi := sp3.1 _ (List.getElem_mem hlt)
  have hgi := mt1 _ (gen_mem (List.getElem_mem hlt))
  simp only [pwA, if_true, if_false, eq_self, nm_eq, reduceCtorEq, ↓reduceIte, nQ10, nQ7, nQ11, nQ12, nQ16, nQ17, nQ18, iQ2, iQ3, iQ4, iQ5, iQ6, lQ19, iQ7, lQ20, hlt, hr5, hr37]
  refine IsInLie_F hR sz hU (x := z3[i]) ⟨w5, a5, rfl⟩ hl su exi fun t ht => ?_
  obtain rfl : t = true := ht.2 hgi.1
  clear ht
  simp only [pwA, if_true, if_false, eq_self, nm_eq, reduceCtorEq, ↓reduceIte, nQ10, nQ7, nQ11, nQ12, nQ16, nQ17, nQ18, iQ2, iQ3, iQ4, iQ5, iQ6, lQ19, iQ7, lQ20, hlt, hr5, hr37]
  refine IsInLie_F hR sz hV (x := z3[i]) ⟨w5, a5, rfl⟩ hl sv exi fun t ht => ?_
  obtain rfl : t = true := ht.2 hgi.2
  clear ht
  simp only [pwA, if_true, if_false, eq_self, nm_eq, reduceCtorEq, ↓reduceIte, nQ10, nQ7, nQ11, nQ12, nQ16, nQ17, nQ18, iQ2, iQ3, iQ4, iQ5, iQ6, lQ19, iQ7, lQ20, hlt, hr5, hr37, decide_true, wrapS hlt (by omega : z3.length ≤ 4611686018427387904)]
  exact ⟨_, by omega, i + 1, by omega, rfl, rfl⟩
end Go.Proofs
namespace Go.Proofs.Ytpcjbkbcaiphmaa
open Go.ChangeShapes Go.WideShapes Go.ChangeAt Go.RowKit Go.Ab Go.Joins Go.Lie Go.Proofs
set_option maxRecDepth 100000 in
theorem spansContract {H : Type} {enc : TypeId × Value → H} (W : World) (base : Nat) (args : Array Value) (ds gs : List (DataW H)) (before : List MemPlace)
    (hval : ∀ (j : Nat) t v, Try.f4.params[j]? = some t → args[j]? = some v → Value.okWide Try.prog W .any base t v)
    (hW : DataW.Whole enc Try.prog Try.f4.params.toList Rows.fnLieSpansSpec.vars false W args.toList ds gs before) :
    Calls Try.prog 4 args W fun e W' => ∃ v, e = .returned v ∧ Rows.fnLieSpansSpec.post enc Try.prog Try.f4 false true false false W args v W' := by
  have hW' := hW
  obtain ⟨p, q, hA0, hV, rfl, hfz, hnd⟩ := hW
  have hA : DataW.TrodAll enc Try.prog W 0 (fun _ => true) true Try.f4.params.toList args.toList ds p := hA0
  rw [Try.params4] at hA hval
  obtain ⟨v0, vs0, d0, ds0, p0, q0, hargs, rfl, rfl, t0, r0⟩ := trodAll_cons hA
  obtain ⟨rfl, rfl, rfl⟩ := trodAll_nil r0
  obtain rfl : args = #[v0] := by cases args; simp_all
  obtain ⟨n0, t0⟩ := t0
  obtain ⟨s0, s0', s0'', hv0⟩ := okWide_slice Try.underlying22 (hval 0 22 v0 rfl rfl)
  have hc0 : v0.cells.toList = [v0] := by rw [hv0]; rfl
  rw [hc0] at t0
  obtain ⟨j0, h0, vX0, X0, m0, l0, e0, i0, o0, _, R0, y0⟩ := layB _ _ _ true n0 _ _ (MR.empty W) t0
  have pc : PCalls Try.prog 4 [vX0] (PHeap.start h0) (fun v _ => v = .bool true) := FnLieSpans_ok R0 y0 (fun _ => rfl)
  have ac := pc.law m0.wf ⟨o0, trivial⟩
  refine (ac.calls m0 (cargs := #[v0]) ⟨_, _, rfl, i0, rfl⟩).mono fun e W' ⟨he, hb⟩ => ?_
  exact ⟨_, he, post_of_below rfl laidOut (by rw [Try.params4]; intro t ht; simp only [List.mem_cons, List.not_mem_nil, or_false] at ht; rcases ht with rfl <;> exact ⟨by kernel_rfl, of_decide_eq_true (by kernel_rfl)⟩) (by kernel_rfl) Try.underlying4 rfl hW' hb⟩
set_option maxRecDepth 100000 in
theorem spansLifted (os : Os) (started : os.Started) (H : Type) (enc : TypeId × Value → H) :
    ReturnsInHanded {} Try.checked os 4 .any (Rows.fnLieSpansSpec.pre6 enc Try.prog Try.f4 Rows.fnLieSpansRow.domain false) (Rows.fnLieSpansSpec.post enc Try.prog Try.f4 false true false false) := by
  refine returnsInHanded_of_change (C := Try.checked) own started (by kernel_rfl) Try.func4
    (ChangeSpec.witness6 (enc := enc) (C := Try.checked) false ⟨#[], #[.slice none 0 0], []⟩ 8 (by kernel_rfl) (by kernel_rfl) (by kernel_rfl) (by kernel_rfl)) ?_
  intro W base args ds gs before hval hW _ _
  exact spansContract W base args ds gs before hval hW
set_option maxRecDepth 100000 in
theorem spansNamed : Try.prog.funcNamed Rows.fnLieSpansRow.func = some 4 := by kernel_rfl
set_option maxRecDepth 100000 in
set_option maxHeartbeats 1600000 in
set_option maxRecDepth 100000 in
theorem spansClosed : joinedFacts Try.prog 4 Try.f4 Rows.fnLieSpansSpec Rows.fnLieSpansRow = true := by
  unfold joinedFacts
  simp only [Bool.and_eq_true]
  repeat' apply And.intro
  all_goals (as_aux_lemma => kernel_rfl)
theorem spansProved : Rows.FnLieSpansSaid :=
  OpenClaim.holds_of_wide 4 Try.f4 rfl rfl rfl rfl rfl rfl rfl ⟨rfl, rfl, rfl, rfl, rfl⟩ rfl rfl rfl rfl rfl spansNamed Try.func4 spansClosed
    (of_decide_eq_true (by kernel_rfl)) (by unfold Func.isWrapper; first | (rw [if_pos (by decide +kernel)]; kernel_rfl) | (rw [if_neg (by decide +kernel)]; exact ⟨rfl, rfl⟩))
    (fun os started H enc _ => spansLifted os started H enc)
end Go.Proofs.Ytpcjbkbcaiphmaa
