/- The Lie ring of a Lazard group as a result, the reference; rings that were marked are held. -/
import Derived.Test.YtngdcibjjomfjaaGreatCP39
open Nat renaming left_eq_add → nQ1, add_eq_left → nQ2, succ_ne_self → nQ3, one_ne_zero → nQ4, add_left_cancel_iff → nQ5, add_assoc → nQ6, reduceLeDiff → nQ7, le_refl → nQ8, lt_add_one → nQ9, reduceEqDiff → nQ10, reduceBEq → nQ11, reduceAdd → nQ12, mul_one → nQ13, zero_add → nQ14, add_zero → nQ15, reduceLT → nQ16, reduceSub → nQ17, reduceMul → nQ18
open Int renaming toNat_natCast → iQ1, reduceEq → iQ2, reduceLT → iQ3, reduceLE → iQ4, reduceNeg → iQ5, reduceToNat → iQ6, ofNat_le → iQ7
open List renaming getElem?_cons_zero → lQ1, getElem?_cons_succ → lQ2, take_succ_cons → lQ3, take_zero → lQ4, drop_succ_cons → lQ5, drop_zero → lQ6, take_nil → lQ7, drop_nil → lQ8, map_cons → lQ9, map_nil → lQ10, nil_append → lQ11, cons_append → lQ12, all_cons → lQ13, all_nil → lQ14, length_cons → lQ15, length_nil → lQ16, contains_cons → lQ17, contains_nil → lQ18, reduceReplicate → lQ19, getElem?_drop → lQ20
open Bool renaming not_true → bQ1, not_false → bQ2, and_true → bQ3, true_and → bQ4, and_self → bQ5, true_eq_false → bQ6, false_eq_true → bQ7, or_false → bQ8, or_true → bQ9, true_or → bQ10, false_or → bQ11
open Option renaming map_some → oQ1, map_none → oQ2
namespace Go.Grp
end Go.Grp
set_option linter.unusedSimpArgs false
set_option linter.unusedVariables false
namespace Go.Proofs
open Go.Ab Go.Lie Go.Grp
section
variable {h : AHeap} {K : AV → AHeap → Prop}
def mkPr (k : Int) (vO vP vC : PV) (O : List Int) (P : List (List Int)) (C : List (List (List Int))) : List (Nat × List PV) :=
  mkI k vO O ++ (mkF mkI List.length (k + O.length) vP P ++ mkF (mkF mkI List.length) (totL List.length) (k + O.length + totL List.length P) vC C)
def totP (O : List Int) (P : List (List Int)) (C : List (List (List Int))) : Nat := O.length + totL List.length P + totL (totL List.length) C
theorem markPresentation_A {k : Int} {vO vP vC : PV} {O : List Int} {P : List (List Int)} {C : List (List (List Int))} (hR : IsPr vO vP vC O P C) (hW : Wh (.agg [vO, vP, vC])) (hnd : (ead (.agg [vO, vP, vC])).Nodup) (hw : HWF h) (hv : VOK (zlt h) h 0 (.agg [vO, vP, vC])) (sz : SzP O P C) (hk0 : 0 ≤ k) (hk1 : k + totP O P C ≤ 4611686018427387904)
    (hk : ∀ h', Upd h (mkPr k vO vP vC O P C) h' → K (.int .i64 (k + totP O P C)) h') : ACalls Tryz.prog 14 [er idz (.agg [vO, vP, vC]), .int .i64 k] h K := by
  refine acalls_of_vc mix Tryz.func14 cf14 rfl ?_
  dsimp only [if14]
  simp only [er, ers]
  unfold totP at hk hk1
  obtain ⟨hvO, hvP, hvC, _⟩ := hv
  obtain ⟨wO, wP, wC, _⟩ := hW
  have oO : (er idz vO).one = true := by rw [er_one hvO]; exact hR.O.one
  have oP : (er idz vP).one = true := by rw [er_one hvP]; exact hR.P.one
  have oC : (er idz vC).one = true := by rw [er_one hvC]; exact hR.C.one
  have cO := cells_of_one oO
  have cP := cells_of_one oP
  have cC := cells_of_one oC
  simp only [ead, eads, List.nil_append, List.append_nil, List.nodup_append] at hnd
  obtain ⟨dO, ⟨dP, dC, dd⟩, dd0⟩ := hnd
  obtain ⟨hh, he, hx1, hn, qq⟩ := box1 hw [er idz vO, er idz vP, er idz vC]
  have hzz : ∀ o, zlt h o → zlt hh o ∧ hh.obj o = h.obj o := fun o ho => ⟨Nat.lt_of_lt_of_le ho hx1.next, hx1.obj o ho⟩
  have q := qq _ (Ext.refl hx1.wf)
  have kO := mkT_I.keys (k := k) hR.O wO
  have kP := (mkT_I.F).keys (k := k + O.length) hR.P wP
  have kC := (mkT_I.F.F).keys (k := k + O.length + totL List.length P) hR.C wC
  have szO := sz.O
  simp only [nm_eq, nm_eq, abQ, ↓reduceIte, iQ1, rd1_new, rd_new, new_next, nQ1, nQ2, nQ3, nQ4, nQ5, nQ6, lQ1, lQ2, lQ3, lQ4, lQ5, lQ6, lQ7, lQ8, nQ7, nQ8, afill_nil, afill_cons, zeros_zero, zeros_one1, zeros_single, nQ9, iQ2, iQ3, iQ4, iQ5, ldv_one, ldv_agg, news_nil, news_cons, RecOK_nil, RecOK_none, RecOK_cons, recOf, wantedI, optK_some, optK_none, optK_bind, optK_map, lQ9, lQ10, nQ10, if_true, if_false, ite_true, ite_false, lQ11, lQ12, oQ1, oQ2, reduceCtorEq, decide_true, decide_false, bQ1, bQ2, cells_int, cells_bool, cells_str, cells_nilp, cells_ptr, cells_nils, cells_sl, cells_nilf, cells_clo, cells_agg, lQ13, lQ14, one_int, one_bool, one_str, one_nilp, one_ptr, one_nils, one_sl, one_nilf, one_clo, lQ15, lQ16, bQ3, bQ4, bQ5, true_and, and_true, bQ6, bQ7, lQ17, lQ18, bQ8, bQ9, bQ10, bQ11, eq_self, nQ11, nQ12, nQ13, nQ14, nQ15, he, oO, oP, oC, cO, cP, cC, rd1_of_obj q]
  refine markInt64S_A hR.O wO hx1.wf (hvO.mono hzz (Nat.le_refl _)) (by omega) hk0 (by omega) fun h1 u1 => ?_
  have qB : h1.obj h.next = some ⟨true, [er idz vO, er idz vP, er idz vC]⟩ := by
    rw [u1.same _ (by omega) (lookup_none.2 fun hm => by have : h.next < h.next := ead_z hvO _ (kO _ hm); omega)]; exact q
  have mv : ∀ {v : PV}, VOK (zlt hh) hh 0 v → (∀ o ∈ ead v, o ∉ (mkI k vO O).map Prod.fst) → VOK (zlt h1) h1 0 v := fun {v} hv' hno => by
    have h2 := rm_vok u1 (fun o ho => ho) hv'
    rw [rm_out fun o ho hm => hno o hm ho] at h2
    exact h2.mono (fun o ho => ⟨Nat.lt_of_lt_of_le ho u1.next, rfl⟩) (Nat.le_refl _)
  have hvP1 := mv (hvP.mono hzz (Nat.le_refl _)) fun o ho hm => dd0 o (kO o hm) o (List.mem_append.2 (.inl ho)) rfl
  have hvC1 := mv (hvC.mono hzz (Nat.le_refl _)) fun o ho hm => dd0 o (kO o hm) o (List.mem_append.2 (.inr ho)) rfl
  have hneg0 : ¬ (k + (O.length : Int) < 0) := by omega
  simp only [nm_eq, nm_eq, abQ, ↓reduceIte, iQ1, rd1_new, rd_new, new_next, nQ1, nQ2, nQ3, nQ4, nQ5, nQ6, lQ1, lQ2, lQ3, lQ4, lQ5, lQ6, lQ7, lQ8, nQ7, nQ8, afill_nil, afill_cons, zeros_zero, zeros_one1, zeros_single, nQ9, iQ2, iQ3, iQ4, iQ5, ldv_one, ldv_agg, news_nil, news_cons, RecOK_nil, RecOK_none, RecOK_cons, recOf, wantedI, optK_some, optK_none, optK_bind, optK_map, lQ9, lQ10, nQ10, if_true, if_false, ite_true, ite_false, lQ11, lQ12, oQ1, oQ2, reduceCtorEq, decide_true, decide_false, bQ1, bQ2, cells_int, cells_bool, cells_str, cells_nilp, cells_ptr, cells_nils, cells_sl, cells_nilf, cells_clo, cells_agg, lQ13, lQ14, one_int, one_bool, one_str, one_nilp, one_ptr, one_nils, one_sl, one_nilf, one_clo, lQ15, lQ16, bQ3, bQ4, bQ5, true_and, and_true, bQ6, bQ7, lQ17, lQ18, bQ8, bQ9, bQ10, bQ11, eq_self, nQ11, nQ12, nQ13, nQ14, nQ15, rd1_of_obj qB, hneg0]
  refine markInt64SS_A hR.P wP dP u1.wf hvP1 (by have := sz.P.l; omega) (fun x hx => by have := sz.P.r x hx; omega) (by omega) (by omega) fun h2 u2 => ?_
  have qC : h2.obj h.next = some ⟨true, [er idz vO, er idz vP, er idz vC]⟩ := by
    rw [u2.same _ (by have := u1.next; omega) (lookup_none.2 fun hm => by have : h.next < h.next := ead_z hvP _ (kP _ hm); omega)]; exact qB
  have hvC2 : VOK (zlt h2) h2 0 vC := by
    have h3 := rm_vok u2 (fun o ho => ho) hvC1
    rw [rm_out fun o ho hm => dd o (kP o ho) o hm rfl] at h3
    exact h3.mono (fun o ho => ⟨Nat.lt_of_lt_of_le ho u2.next, rfl⟩) (Nat.le_refl _)
  have hneg : ¬ (k + (O.length : Int) + (totL List.length P : Int) < 0) := by omega
  simp only [nm_eq, nm_eq, abQ, ↓reduceIte, iQ1, rd1_new, rd_new, new_next, nQ1, nQ2, nQ3, nQ4, nQ5, nQ6, lQ1, lQ2, lQ3, lQ4, lQ5, lQ6, lQ7, lQ8, nQ7, nQ8, afill_nil, afill_cons, zeros_zero, zeros_one1, zeros_single, nQ9, iQ2, iQ3, iQ4, iQ5, ldv_one, ldv_agg, news_nil, news_cons, RecOK_nil, RecOK_none, RecOK_cons, recOf, wantedI, optK_some, optK_none, optK_bind, optK_map, lQ9, lQ10, nQ10, if_true, if_false, ite_true, ite_false, lQ11, lQ12, oQ1, oQ2, reduceCtorEq, decide_true, decide_false, bQ1, bQ2, cells_int, cells_bool, cells_str, cells_nilp, cells_ptr, cells_nils, cells_sl, cells_nilf, cells_clo, cells_agg, lQ13, lQ14, one_int, one_bool, one_str, one_nilp, one_ptr, one_nils, one_sl, one_nilf, one_clo, lQ15, lQ16, bQ3, bQ4, bQ5, true_and, and_true, bQ6, bQ7, lQ17, lQ18, bQ8, bQ9, bQ10, bQ11, eq_self, nQ11, nQ12, nQ13, nQ14, nQ15, rd1_of_obj qC, hneg]
  refine markInt64SSS_A hR.C wC dC u2.wf hvC2 (by have := sz.C.l; omega) (fun x hx => ⟨by have := (sz.C.r x hx).l; omega, fun y hy => by have := (sz.C.r x hx).r y hy; omega⟩) (by omega) (by omega) fun h3 u3 => ?_
  have u23 : Upd h1 (mkF mkI List.length (k + O.length) vP P ++ mkF (mkF mkI List.length) (totL List.length) (k + O.length + totL List.length P) vC C) h3 := u2.trans u3 (fun o ho hm => dd o (kP o ho) o (kC o hm) rfl) fun o ho => by have : o < h.next := ead_z hvC o (kC o ho); have := u1.next; omega
  have kPC : ∀ o ∈ (mkF mkI List.length (k + O.length) vP P ++ mkF (mkF mkI List.length) (totL List.length) (k + O.length + totL List.length P) vC C).map Prod.fst, o ∈ ead vP ++ ead vC := fun o ho => by
    rw [List.map_append, List.mem_append] at ho
    exact List.mem_append.2 (ho.imp (kP o) (kC o))
  have hlt : ∀ o ∈ ead vP ++ ead vC, o < h.next := fun o ho => (List.mem_append.1 ho).elim (fun hm => ead_z hvP o hm) fun hm => ead_z hvC o hm
  have u4 : Upd hh (mkPr k vO vP vC O P C) h3 := u1.trans u23 (fun o ho hm => dd0 o (kO o ho) o (kPC o hm) rfl) fun o ho => by have := hlt o (kPC o ho); omega
  have u5 := hx1.upd.trans u4 (fun o ho => by cases ho) fun o ho => by
    unfold mkPr at ho
    rw [List.map_append, List.mem_append] at ho
    exact ho.elim (fun hm => ead_z hvO o (kO o hm)) fun hm => hlt o (kPC o hm)
  have e : k + (O.length : Int) + (totL List.length P : Int) + (totL (totL List.length) C : Int) = k + ((O.length + totL List.length P + totL (totL List.length) C : Nat) : Int) := by omega
  rw [e]
  simp only [nm_eq, nm_eq, abQ, ↓reduceIte, iQ1, rd1_new, rd_new, new_next, nQ1, nQ2, nQ3, nQ4, nQ5, nQ6, lQ1, lQ2, lQ3, lQ4, lQ5, lQ6, lQ7, lQ8, nQ7, nQ8, afill_nil, afill_cons, zeros_zero, zeros_one1, zeros_single, nQ9, iQ2, iQ3, iQ4, iQ5, ldv_one, ldv_agg, news_nil, news_cons, RecOK_nil, RecOK_none, RecOK_cons, recOf, wantedI, optK_some, optK_none, optK_bind, optK_map, lQ9, lQ10, nQ10, if_true, if_false, ite_true, ite_false, lQ11, lQ12, oQ1, oQ2, reduceCtorEq, decide_true, decide_false, bQ1, bQ2, cells_int, cells_bool, cells_str, cells_nilp, cells_ptr, cells_nils, cells_sl, cells_nilf, cells_clo, cells_agg, lQ13, lQ14, one_int, one_bool, one_str, one_nilp, one_ptr, one_nils, one_sl, one_nilf, one_clo, lQ15, lQ16, bQ3, bQ4, bQ5, true_and, and_true, bQ6, bQ7, lQ17, lQ18, bQ8, bQ9, bQ10, bQ11, eq_self, nQ11, nQ12, nQ13, nQ14, nQ15]
  have e2 := hk h3 (by simpa using u5)
  simpa only [Nat.add_assoc] using e2
end
section
variable {σ : PHeap} {K : PV → PHeap → Prop} {p d : Int} {O : List Int} {P : List (List Int)} {C As : List (List (List Int))} {F : List (List Int)} {vO vP vC vA : PV} {lo hi : Nat}
theorem mkPr_keys {k : Int} (hR : IsPr vO vP vC O P C) (hW : Wh (.agg [vO, vP, vC])) : ∀ o ∈ (mkPr k vO vP vC O P C).map Prod.fst, o ∈ ead (.agg [vO, vP, vC]) := by
  obtain ⟨wO, wP, wC, _⟩ := hW
  intro o ho
  unfold mkPr at ho
  rw [List.map_append, List.mem_append, List.map_append, List.mem_append] at ho
  simp only [ead, eads, List.nil_append, List.append_nil, List.mem_append]
  exact ho.imp (mkT_I.keys hR.O wO o) fun h => h.imp (mkT_I.F.keys hR.P wP o) (mkT_I.F.F.keys hR.C wC o)
theorem keysP {k : Int} (hR : IsPr vO vP vC O P C) (ho : Own lo hi (.agg [vO, vP, vC])) : ∀ o ∈ (mkPr k vO vP vC O P C).map Prod.fst, lo ≤ o ∧ o < hi := fun o hm => ho.lt o (mkPr_keys hR ho.wh o hm)
theorem markPresentation_M {k : Int} (hR : IsPr vO vP vC O P C) (ho : Own lo hi (.agg [vO, vP, vC])) (sz : SzP O P C) (hk0 : 0 ≤ k) (hk1 : k + totP O P C ≤ 4611686018427387904) :
    MarkOK Tryz.prog 14 [.agg [vO, vP, vC], .int .i64 k] σ (mkPr k vO vP vC O P C) .i64 (k + totP O P C) :=
  MarkOK.of ⟨hR.O.bel 0, hR.P.bel 0, hR.C.bel 0, trivial⟩ (mkPr_keys hR ho.wh) fun h hw hv => markPresentation_A hR ho.wh ho.nd hw hv sz hk0 hk1 fun h' u => ⟨rfl, u⟩
theorem toPresentation_T (hR : IsPr vO vP vC O P C) (sz : SzP O P C) (hk : ∀ vO vP vC t, IsPr vO vP vC O P C → Own σ.top t (.agg [vO, vP, vC]) → σ.top ≤ t → K (.agg [vO, vP, vC]) (σ.up t)) : PCalls Tryz.prog 18 [.agg [vO, vP, vC]] σ K := by
  have h0 := hR.O.one
  have h1 := hR.P.one
  have h2 := hR.C.one
  refine PCalls.gh ?_
  refine pcalls_of_vp mix Tryz.func18 cf18 rfl ?_
  dsimp only [if18, qI, eI, nI, qD, eD]
  simp only [pwA, if_true, if_false, eq_self, nm_eq, reduceCtorEq, ↓reduceIte, nQ10, nQ7, nQ11, nQ12, nQ16, nQ17, nQ18, iQ2, iQ3, iQ4, iQ5, iQ6, lQ19, iQ7, lQ20, h0, h1, h2]
  refine toInt64S_T hR.O sz.O fun v0 t0 hv0 ho0 ht0 => ?_
  simp only [pwA, if_true, if_false, eq_self, nm_eq, reduceCtorEq, ↓reduceIte, nQ10, nQ7, nQ11, nQ12, nQ16, nQ17, nQ18, iQ2, iQ3, iQ4, iQ5, iQ6, lQ19, iQ7, lQ20, hv0.cells, hv0.one]
  refine toInt64SS_T hR.P sz.P fun v1 t1 hv1 ho1 ht1 => ?_
  simp only [pwA, if_true, if_false, eq_self, nm_eq, reduceCtorEq, ↓reduceIte, nQ10, nQ7, nQ11, nQ12, nQ16, nQ17, nQ18, iQ2, iQ3, iQ4, iQ5, iQ6, lQ19, iQ7, lQ20, hv0.one, hv1.cells, hv1.one]
  refine toInt64SSS_T hR.C sz.C fun v2 t2 hv2 ho2 ht2 => ?_
  simp only [pwA, if_true, if_false, eq_self, nm_eq, reduceCtorEq, ↓reduceIte, nQ10, nQ7, nQ11, nQ12, nQ16, nQ17, nQ18, iQ2, iQ3, iQ4, iQ5, iQ6, lQ19, iQ7, lQ20, hv2.cells, hv2.one, hv1.one, hv0.one]
  have hoo := (((Owns.nil σ.top σ.top).snoc ho0 (Nat.le_refl _) ht0).snoc ho1 ht0 ht1).snoc ho2 (Nat.le_trans ht0 ht1) ht2
  exact Gh.fin0T (t := t2) (v := .agg [v0, v1, v2]) (Keep.up (((keep_new σ _).new _).new _) (Nat.le_trans (Nat.le_trans ht0 ht1) ht2)) (Nat.le_refl _) ⟨hv0.bel _, hv1.bel _, hv2.bel _, trivial⟩ fun _ => hk v0 v1 v2 t2 ⟨hv0, hv1, hv2⟩ hoo.agg (Nat.le_trans (Nat.le_trans ht0 ht1) ht2)
theorem totII_bdx {xs : List (List Int)} (sz : SzL xs) : totL List.length xs ≤ 1099511627776 := by
  have h3 := totL_bd (m := 1048576) (len := List.length) sz.r
  have h4 := sz.l
  omega
theorem totM_bdx {As : List (List (List Int))} (sz : SzM As) : totL (totL List.length) As ≤ 1152921504606846976 := by
  have h3 := totL_bd (m := 1099511627776) (len := totL List.length) (xs := As) fun q hq => totII_bdx (sz.r q hq)
  have h4 := sz.l
  omega
theorem totP_bdx (sz : SzP O P C) : totP O P C ≤ 1153000000000000000 := by
  have h1 := totII_bdx sz.P
  have h2 := totM_bdx sz.C
  have h3 := sz.O
  unfold totP
  omega
end
end Go.Proofs
namespace Go.Grp
end Go.Grp
namespace Go.Proofs
open Go.Ab Go.Lie Go.Grp
variable {σ H h : PHeap} {K : PV → PHeap → Prop} {n c : Nat} {p : Int} {O : List Int} {P : List (List Int)} {C : List (List (List Int))} {vO vP vC vQ vB : PV} {s : Nat} {W : List (List Int)} {B : List (List (List Int))}
theorem l34LazardRing_ok (hR : IsPr vO vP vC O P C) (sz : SzP O P C)
    (hk : ∀ p vQ vB W B c, ResG (lrRes O P C) (p, W, B) c → IsR vQ vB W B → K (.tup [.agg [.int .i64 p, vQ, vB], .int .i64 c]) σ) : PCalls Tryz.prog 17 [.agg [vO, vP, vC]] σ K := by
  have h0 := hR.O.one
  have h1 := hR.P.one
  have h2 := hR.C.one
  refine PCalls.gh ?_
  generalize hT : (σ.new [vO, vP, vC]).new [.int .i64 0, .fz true .nils 0 [], .fz true .nils 0 []] = T
  have hTn : T.next = σ.next + 2 := by rw [← hT]; rfl
  have hkT : Keep σ T := by rw [← hT]; exact (keep_new σ _).new _
  have ld : ∀ {g : PHeap}, Keep T g → g.rd σ.next 0 3 = some [vO, vP, vC] := fun {g} k => by
    have ob : g.obj σ.next = some [vO, vP, vC] := by rw [k.obj _ (by omega), ← hT]; simp only [pwA, if_true, if_false, eq_self, nm_eq, reduceCtorEq, ↓reduceIte, nQ10, nQ7, nQ11, nQ12, nQ16, nQ17, nQ18, iQ2, iQ3, iQ4, iQ5, iQ6, lQ19, iQ7, lQ20]
    rw [obj_rd ob]; rfl
  have hO3 : ∀ {g : PHeap} {u0 u1 u2 : PV}, Keep T g → u0.one = true → u1.one = true → u2.one = true → g.wr (σ.next + 1) 0 [u0, u1, u2] = some (g.set (σ.next + 1) [u0, u1, u2]) ∧ (g.set (σ.next + 1) [u0, u1, u2]).rd (σ.next + 1) 0 3 = some [u0, u1, u2] := fun {g u0 u1 u2} k z0 z1 z2 => by
    have hres : g.obj (σ.next + 1) = some [.int .i64 0, .fz true .nils 0 [], .fz true .nils 0 []] := by rw [k.obj _ (by omega), ← hT]; simp only [pwA, if_true, if_false, eq_self, nm_eq, reduceCtorEq, ↓reduceIte, nQ10, nQ7, nQ11, nQ12, nQ16, nQ17, nQ18, iQ2, iQ3, iQ4, iQ5, iQ6, lQ19, iQ7, lQ20]
    exact ⟨by rw [obj_wr hres, if_pos ⟨by simp, by simp only [List.all_cons, List.all_nil, z0, z1, z2]; rfl⟩]; rfl, by rw [prd_set, if_pos rfl]; rfl⟩
  have l3 := ld (Keep.refl T)
  refine pcalls_of_vp mix Tryz.func17 cf17 rfl ?_
  dsimp only [if17, qI, eI, nI, qD, eD]
  simp only [pwA, if_true, if_false, eq_self, nm_eq, reduceCtorEq, ↓reduceIte, nQ10, nQ7, nQ11, nQ12, nQ16, nQ17, nQ18, iQ2, iQ3, iQ4, iQ5, iQ6, lQ19, iQ7, lQ20, h0, h1, h2]
  rw [hT]
  simp only [pwA, if_true, if_false, eq_self, nm_eq, reduceCtorEq, ↓reduceIte, nQ10, nQ7, nQ11, nQ12, nQ16, nQ17, nQ18, iQ2, iQ3, iQ4, iQ5, iQ6, lQ19, iQ7, lQ20, l3]
  have kT2 : Keep T ((T.new []).kill (σ.next + 2)) := ((Keep.refl T).new _).kill (by omega)
  refine PCalls.frz (s := σ.next + 2) (cs := []) (by rw [pobj_new, if_pos hTn.symm]) trivial fun o1 => ?_
  simp only [sbs, Go.Ab.sb, capOK, and_self, if_true, decide_true, Nat.le_refl, hR.O.sb, hR.P.sb, hR.C.sb]
  generalize (T.new []).kill (σ.next + 2) = T2 at *
  have l4 := ld kT2
  refine l34Code_ok (xs := []) hR sz ⟨true, _, [], rfl, All2.nil _⟩ ⟨by simp, fun y hy => by cases hy⟩ ?_
  by_cases hc0 : codeG O P C [] = 0
  rotate_left
  · obtain ⟨g1, g2⟩ := hO3 kT2 (u0 := .int .i64 0) (u1 := .fz true .nils 0 []) (u2 := .fz true .nils 0 []) rfl rfl rfl
    simp only [pwA, if_true, if_false, eq_self, nm_eq, reduceCtorEq, ↓reduceIte, nQ10, nQ7, nQ11, nQ12, nQ16, nQ17, nQ18, iQ2, iQ3, iQ4, iQ5, iQ6, lQ19, iQ7, lQ20, hc0, g1, g2]
    exact Gh.fin0 ((hkT.trans kT2).set (by omega) _) ⟨⟨trivial, trivial, trivial, trivial⟩, trivial, trivial⟩ (hk 0 _ _ [] [] _ ⟨by unfold lrRes; rw [if_neg hc0]⟩ ⟨⟨true, .nils, [], rfl, All2.nil _⟩, ⟨true, .nils, [], rfl, All2.nil _⟩⟩)
  obtain ⟨g, k0, _⟩ := codeG_0 hc0
  simp only [pwA, if_true, if_false, eq_self, nm_eq, reduceCtorEq, ↓reduceIte, nQ10, nQ7, nQ11, nQ12, nQ16, nQ17, nQ18, iQ2, iQ3, iQ4, iQ5, iQ6, lQ19, iQ7, lQ20, hc0, l4]
  refine l34Ring_ok g k0 hR fun q vQ vB hq f2 f3 => ?_
  obtain ⟨g1, g2⟩ := hO3 kT2 (u0 := .int .i64 q) rfl f2.one f3.one
  simp only [pwA, if_true, if_false, eq_self, nm_eq, reduceCtorEq, ↓reduceIte, nQ10, nQ7, nQ11, nQ12, nQ16, nQ17, nQ18, iQ2, iQ3, iQ4, iQ5, iQ6, lQ19, iQ7, lQ20, g1, g2]
  exact Gh.fin0 ((hkT.trans kT2).set (by omega) _) ⟨⟨trivial, f2.bel _, f3.bel _, trivial⟩, trivial, trivial⟩ (hk _ _ _ _ _ _ ⟨by unfold lrRes; rw [if_pos hc0, hq]⟩ ⟨f2, f3⟩)
theorem lr_bd {c : Int} (h : ResG (lrRes O P C) (p, W, B) c) : SzR W B := by
  have e := h.eq
  unfold lrRes at e
  by_cases hc0 : codeG O P C [] = 0
  · rw [if_pos hc0] at e
    simp only [Prod.mk.injEq] at e
    obtain ⟨⟨_, rfl, rfl⟩, _⟩ := e
    obtain ⟨g, k0, _⟩ := codeG_0 hc0
    have hn := g.s.le
    have cl : ∀ z, (cfG O P C z).length ≤ 1048576 := fun z => by rw [cf_len]; omega
    refine ⟨by simp [lrPs]; omega, fun r hr => ?_, by simp [lrCs]; omega, fun q hq => ?_, fun q hq r hr => ?_⟩
    · obtain ⟨i, _, rfl⟩ := List.mem_map.1 hr; exact cl _
    · obtain ⟨i, _, rfl⟩ := List.mem_map.1 hq; simp [lrR]; omega
    · obtain ⟨i, _, rfl⟩ := List.mem_map.1 hq
      obtain ⟨j, _, rfl⟩ := List.mem_map.1 hr; exact cl _
  · rw [if_neg hc0] at e
    simp only [Prod.mk.injEq] at e
    obtain ⟨⟨_, rfl, rfl⟩, _⟩ := e
    exact ⟨by simp, fun r hr => (by cases hr), by simp, fun q hq => (by cases hq), fun q hq => (by cases hq)⟩
theorem heldLieRing_ok {k : Int} (h1 : FII vQ (sqL sqI List.length k W)) (h2 : FIII vB (sqL (sqL sqI List.length) (totL List.length) (k + totL List.length W) B)) (sz : SzR W B) (hk0 : 0 ≤ k) (hk1 : k + totL List.length W + totL (totL List.length) B ≤ 4611686018427387904)
    (hk : K (.int .i64 (k + totL List.length W + totL (totL List.length) B)) σ) : PCalls Tryz.prog 20 [.agg [.int .i64 p, vQ, vB], .int .i64 k] σ K := by
  have y1 := h1.one
  have y2 := h2.one
  refine PCalls.gh ?_
  refine pcalls_of_vp mix Tryz.func20 cf20 rfl ?_
  dsimp only [if20, qI, eI, nI, qD, eD]
  simp only [pwA, if_true, if_false, eq_self, nm_eq, reduceCtorEq, ↓reduceIte, nQ10, nQ7, nQ11, nQ12, nQ16, nQ17, nQ18, iQ2, iQ3, iQ4, iQ5, iQ6, lQ19, iQ7, lQ20, y1, y2]
  refine heldInt64SS_ok h1 (by have := sz.Wl; omega) (fun y hy => by have := sz.w y hy; omega) hk0 (by omega) ?_
  have n2 : ¬ (k + (totL List.length W : Int) < 0) := by omega
  simp only [pwA, if_true, if_false, eq_self, nm_eq, reduceCtorEq, ↓reduceIte, nQ10, nQ7, nQ11, nQ12, nQ16, nQ17, nQ18, iQ2, iQ3, iQ4, iQ5, iQ6, lQ19, iQ7, lQ20, n2]
  refine heldInt64SSS_ok h2 ⟨sz.Bl, fun q hq => ⟨sz.b q hq, sz.c q hq⟩⟩ (by omega) (by omega) ?_
  have n3 : ¬ (k + (totL List.length W : Int) + (totL (totL List.length) B : Int) < 0) := by omega
  simp only [pwA, if_true, if_false, eq_self, nm_eq, reduceCtorEq, ↓reduceIte, nQ10, nQ7, nQ11, nQ12, nQ16, nQ17, nQ18, iQ2, iQ3, iQ4, iQ5, iQ6, lQ19, iQ7, lQ20, n3]
  exact Gh.fin0 (keep_new σ _) trivial hk
theorem rmR {lo hi : Nat} {k : Int} (hR : IsR vQ vB W B) (ho : Own lo hi (.agg [.int .i64 p, vQ, vB])) :
    FII (rm (mkR k vQ vB W B) vQ) (sqL sqI List.length k W) ∧ FIII (rm (mkR k vQ vB W B) vB) (sqL (sqL sqI List.length) (totL List.length) (k + totL List.length W) B) := by
  obtain ⟨⟨_, w1, w2, _⟩, hnd, _⟩ := ho
  simp only [ead, eads, List.append_nil, List.nil_append, List.nodup_append] at hnd
  obtain ⟨n1, n2, d12⟩ := hnd
  have k1 := mkT_I.F.keys (k := k) hR.P w1
  have k2 := mkT_I.F.F.keys (k := k + totL List.length W) hR.B w2
  have r1 := mkT_I.F.rd (k := k) hR.P w1 n1
  have r2 := mkT_I.F.F.rd (k := k + totL List.length W) hR.B w2 n2
  have e1 : rm (mkR k vQ vB W B) vQ = rm (mkF mkI List.length k vQ W) vQ := rm_congr fun o hm => by
    unfold mkR
    rw [lookup_out fun hx => d12 o hm o (k2 o hx) rfl]
  have e2 : rm (mkR k vQ vB W B) vB = rm (mkF (mkF mkI List.length) (totL List.length) (k + totL List.length W) vB B) vB := rm_congr fun o hm => by
    unfold mkR
    rw [lookup_out' fun hx => d12 o (k1 o hx) o hm rfl]
  rw [e1, e2]
  exact ⟨r1, r2⟩
end Go.Proofs
