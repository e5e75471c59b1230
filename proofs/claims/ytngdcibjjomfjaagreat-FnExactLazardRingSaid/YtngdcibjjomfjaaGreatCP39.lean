/- The group of a Lazard ring as a result, both sides; presentations that were marked are held. -/
import Derived.Test.YtngdcibjjomfjaaGreatCP28
import Derived.Test.YtngdcibjjomfjaaGreatCAbPn
import Derived.Test.YtngdcibjjomfjaaGreatCAbPa
import Derived.Test.YtngdcibjjomfjaaGreatCP31
import Derived.Test.YtngdcibjjomfjaaGreatCP33
open Nat renaming left_eq_add → nQ1, add_eq_left → nQ2, succ_ne_self → nQ3, one_ne_zero → nQ4, add_left_cancel_iff → nQ5, add_assoc → nQ6, reduceLeDiff → nQ7, le_refl → nQ8, lt_add_one → nQ9, reduceEqDiff → nQ10, reduceBEq → nQ11, reduceAdd → nQ12, mul_one → nQ13, zero_add → nQ14, add_zero → nQ15, reduceLT → nQ16, reduceSub → nQ17, reduceMul → nQ18
open Int renaming toNat_natCast → iQ1, reduceEq → iQ2, reduceLT → iQ3, reduceLE → iQ4, reduceNeg → iQ5, reduceToNat → iQ6, ofNat_le → iQ7
open List renaming getElem?_cons_zero → lQ1, getElem?_cons_succ → lQ2, take_succ_cons → lQ3, take_zero → lQ4, drop_succ_cons → lQ5, drop_zero → lQ6, take_nil → lQ7, drop_nil → lQ8, map_cons → lQ9, map_nil → lQ10, nil_append → lQ11, cons_append → lQ12, all_cons → lQ13, all_nil → lQ14, length_cons → lQ15, length_nil → lQ16, contains_cons → lQ17, contains_nil → lQ18, reduceReplicate → lQ19, getElem?_drop → lQ20
open Bool renaming not_true → bQ1, not_false → bQ2, and_true → bQ3, true_and → bQ4, and_self → bQ5, true_eq_false → bQ6, false_eq_true → bQ7, or_false → bQ8, or_true → bQ9, true_or → bQ10, false_or → bQ11
open Option renaming map_some → oQ1, map_none → oQ2
set_option linter.unusedSimpArgs false
set_option linter.unusedVariables false
namespace Go.Proofs
open Go.Ab Go.Lie
section
variable {h : AHeap} {K : AV → AHeap → Prop}
theorem markInt64S_A {v : PV} {xs : List Int} {k : Int} (hI : FI v xs) (hW : Wh v) (hw : HWF h) (hv : VOK (zlt h) h 0 v) (hb : xs.length ≤ 4294967296) (hk0 : 0 ≤ k) (hk1 : k ≤ 4611686018427387904)
    (hk : ∀ h', Upd h (mkI k v xs) h' → K (.int .i64 (k + xs.length)) h') : ACalls Tryz.prog 39 [er idz v, .int .i64 k] h K := by
  refine acalls_of_vc mix Tryz.func39 cf39 rfl ?_
  dsimp only [if39]
  by_cases hne : xs = []
  · subst hne
    have hlen : aLen (er idz v) = some (.int .i64 ((0 : Nat) : Int)) := by
      obtain ⟨w, a, rfl⟩ := hI
      obtain ⟨rfl, _⟩ | ⟨o, off, cap, rfl, _⟩ := hv.1 <;> rfl
    simp only [nm_eq, nm_eq, abQ, ↓reduceIte, iQ1, rd1_new, rd_new, new_next, nQ1, nQ2, nQ3, nQ4, nQ5, nQ6, lQ1, lQ2, lQ3, lQ4, lQ5, lQ6, lQ7, lQ8, nQ7, nQ8, afill_nil, afill_cons, zeros_zero, zeros_one1, zeros_single, nQ9, iQ2, iQ3, iQ4, iQ5, ldv_one, ldv_agg, news_nil, news_cons, RecOK_nil, RecOK_none, RecOK_cons, recOf, wantedI, optK_some, optK_none, optK_bind, optK_map, lQ9, lQ10, nQ10, if_true, if_false, ite_true, ite_false, lQ11, lQ12, oQ1, oQ2, reduceCtorEq, decide_true, decide_false, bQ1, bQ2, cells_int, cells_bool, cells_str, cells_nilp, cells_ptr, cells_nils, cells_sl, cells_nilf, cells_clo, cells_agg, lQ13, lQ14, one_int, one_bool, one_str, one_nilp, one_ptr, one_nils, one_sl, one_nilf, one_clo, lQ15, lQ16, bQ3, bQ4, bQ5, true_and, and_true, bQ6, bQ7, lQ17, lQ18, bQ8, bQ9, bQ10, bQ11, eq_self, nQ11, nQ12, nQ13, nQ14, nQ15]
    refine vc_loop (fun m vs h' => vs = [er idz v, .int .i64 k, .int .i64 0] ∧ h' = h) 0 ⟨rfl, rfl⟩ ?_
    rintro m vs h' ⟨rfl, rfl⟩
    simp only [nm_eq, nm_eq, abQ, ↓reduceIte, iQ1, rd1_new, rd_new, new_next, nQ1, nQ2, nQ3, nQ4, nQ5, nQ6, lQ1, lQ2, lQ3, lQ4, lQ5, lQ6, lQ7, lQ8, nQ7, nQ8, afill_nil, afill_cons, zeros_zero, zeros_one1, zeros_single, nQ9, iQ2, iQ3, iQ4, iQ5, ldv_one, ldv_agg, news_nil, news_cons, RecOK_nil, RecOK_none, RecOK_cons, recOf, wantedI, optK_some, optK_none, optK_bind, optK_map, lQ9, lQ10, nQ10, if_true, if_false, ite_true, ite_false, lQ11, lQ12, oQ1, oQ2, reduceCtorEq, decide_true, decide_false, bQ1, bQ2, cells_int, cells_bool, cells_str, cells_nilp, cells_ptr, cells_nils, cells_sl, cells_nilf, cells_clo, cells_agg, lQ13, lQ14, one_int, one_bool, one_str, one_nilp, one_ptr, one_nils, one_sl, one_nilf, one_clo, lQ15, lQ16, bQ3, bQ4, bQ5, true_and, and_true, bQ6, bQ7, lQ17, lQ18, bQ8, bQ9, bQ10, bQ11, eq_self, nQ11, nQ12, nQ13, nQ14, nQ15, hlen, Int.lt_irrefl]
    have := hk h' (Upd.refl hw)
    simpa using this
  · obtain ⟨w, a, rfl⟩ := hI
    obtain ⟨hwt, _, _⟩ := hW.resolve_left (pis_ne hne)
    obtain ⟨o, cap, rfl, ho, hz⟩ := hv.whole hwt (pis_ne hne)
    have ho' : h.obj o = some ⟨true, ints xs⟩ := by rw [ho, ers_map]; congr 2; simp only [pis, ints, List.map_map]; rfl
    simp only [nm_eq, nm_eq, abQ, ↓reduceIte, iQ1, rd1_new, rd_new, new_next, nQ1, nQ2, nQ3, nQ4, nQ5, nQ6, lQ1, lQ2, lQ3, lQ4, lQ5, lQ6, lQ7, lQ8, nQ7, nQ8, afill_nil, afill_cons, zeros_zero, zeros_one1, zeros_single, nQ9, iQ2, iQ3, iQ4, iQ5, ldv_one, ldv_agg, news_nil, news_cons, RecOK_nil, RecOK_none, RecOK_cons, recOf, wantedI, optK_some, optK_none, optK_bind, optK_map, lQ9, lQ10, nQ10, if_true, if_false, ite_true, ite_false, lQ11, lQ12, oQ1, oQ2, reduceCtorEq, decide_true, decide_false, bQ1, bQ2, cells_int, cells_bool, cells_str, cells_nilp, cells_ptr, cells_nils, cells_sl, cells_nilf, cells_clo, cells_agg, lQ13, lQ14, one_int, one_bool, one_str, one_nilp, one_ptr, one_nils, one_sl, one_nilf, one_clo, lQ15, lQ16, bQ3, bQ4, bQ5, true_and, and_true, bQ6, bQ7, lQ17, lQ18, bQ8, bQ9, bQ10, bQ11, eq_self, nQ11, nQ12, nQ13, nQ14, nQ15, er]
    refine vc_loop (fun m vs h' => ∃ i : Nat, i ≤ xs.length ∧ m = xs.length - i ∧ vs = [.sl o 0 xs.length cap, .int .i64 (k + i), .int .i64 i] ∧ h' = h.set o (ints ((seqI k xs.length).take i ++ xs.drop i))) xs.length ?_ ?_
    · exact ⟨0, by omega, by omega, (by (simp only [nm_eq, nm_eq, abQ, ↓reduceIte, iQ1, rd1_new, rd_new, new_next, nQ1, nQ2, nQ3, nQ4, nQ5, nQ6, lQ1, lQ2, lQ3, lQ4, lQ5, lQ6, lQ7, lQ8, nQ7, nQ8, afill_nil, afill_cons, zeros_zero, zeros_one1, zeros_single, nQ9, iQ2, iQ3, iQ4, iQ5, ldv_one, ldv_agg, news_nil, news_cons, RecOK_nil, RecOK_none, RecOK_cons, recOf, wantedI, optK_some, optK_none, optK_bind, optK_map, lQ9, lQ10, nQ10, if_true, if_false, ite_true, ite_false, lQ11, lQ12, oQ1, oQ2, reduceCtorEq, decide_true, decide_false, bQ1, bQ2, cells_int, cells_bool, cells_str, cells_nilp, cells_ptr, cells_nils, cells_sl, cells_nilf, cells_clo, cells_agg, lQ13, lQ14, one_int, one_bool, one_str, one_nilp, one_ptr, one_nils, one_sl, one_nilf, one_clo, lQ15, lQ16, bQ3, bQ4, bQ5, true_and, and_true, bQ6, bQ7, lQ17, lQ18, bQ8, bQ9, bQ10, bQ11, eq_self, nQ11, nQ12, nQ13, nQ14, nQ15, List.cons.injEq, AV.int.injEq, AV.sl.injEq, and_self]) <;> omega), by simp [set_self ho']⟩
    · rintro m vs h' ⟨i, hi, rfl, rfl, rfl⟩
      simp only [nm_eq, nm_eq, abQ, ↓reduceIte, iQ1, rd1_new, rd_new, new_next, nQ1, nQ2, nQ3, nQ4, nQ5, nQ6, lQ1, lQ2, lQ3, lQ4, lQ5, lQ6, lQ7, lQ8, nQ7, nQ8, afill_nil, afill_cons, zeros_zero, zeros_one1, zeros_single, nQ9, iQ2, iQ3, iQ4, iQ5, ldv_one, ldv_agg, news_nil, news_cons, RecOK_nil, RecOK_none, RecOK_cons, recOf, wantedI, optK_some, optK_none, optK_bind, optK_map, lQ9, lQ10, nQ10, if_true, if_false, ite_true, ite_false, lQ11, lQ12, oQ1, oQ2, reduceCtorEq, decide_true, decide_false, bQ1, bQ2, cells_int, cells_bool, cells_str, cells_nilp, cells_ptr, cells_nils, cells_sl, cells_nilf, cells_clo, cells_agg, lQ13, lQ14, one_int, one_bool, one_str, one_nilp, one_ptr, one_nils, one_sl, one_nilf, one_clo, lQ15, lQ16, bQ3, bQ4, bQ5, true_and, and_true, bQ6, bQ7, lQ17, lQ18, bQ8, bQ9, bQ10, bQ11, eq_self, nQ11, nQ12, nQ13, nQ14, nQ15]
      split
      · have hlt : i < xs.length := by omega
        simp only [nm_eq, nm_eq, abQ, ↓reduceIte, iQ1, rd1_new, rd_new, new_next, nQ1, nQ2, nQ3, nQ4, nQ5, nQ6, lQ1, lQ2, lQ3, lQ4, lQ5, lQ6, lQ7, lQ8, nQ7, nQ8, afill_nil, afill_cons, zeros_zero, zeros_one1, zeros_single, nQ9, iQ2, iQ3, iQ4, iQ5, ldv_one, ldv_agg, news_nil, news_cons, RecOK_nil, RecOK_none, RecOK_cons, recOf, wantedI, optK_some, optK_none, optK_bind, optK_map, lQ9, lQ10, nQ10, if_true, if_false, ite_true, ite_false, lQ11, lQ12, oQ1, oQ2, reduceCtorEq, decide_true, decide_false, bQ1, bQ2, cells_int, cells_bool, cells_str, cells_nilp, cells_ptr, cells_nils, cells_sl, cells_nilf, cells_clo, cells_agg, lQ13, lQ14, one_int, one_bool, one_str, one_nilp, one_ptr, one_nils, one_sl, one_nilf, one_clo, lQ15, lQ16, bQ3, bQ4, bQ5, true_and, and_true, bQ6, bQ7, lQ17, lQ18, bQ8, bQ9, bQ10, bQ11, eq_self, nQ11, nQ12, nQ13, nQ14, nQ15, aIndex_nat hlt, wrapS hlt (by omega : xs.length ≤ 4611686018427387904), wrap64 (n := k + (i : Int) + 1) (by omega) (by omega)]
        have hls : i < (seqI k xs.length).length := by rw [seqI_length]; exact hlt
        rw [wr_one (set_obj_eq _ _) (by rw [ints_length]; simp [seqI_length]; omega) rfl, optK_some]
        refine ⟨_, by omega, i + 1, by omega, rfl, (by (simp only [nm_eq, nm_eq, abQ, ↓reduceIte, iQ1, rd1_new, rd_new, new_next, nQ1, nQ2, nQ3, nQ4, nQ5, nQ6, lQ1, lQ2, lQ3, lQ4, lQ5, lQ6, lQ7, lQ8, nQ7, nQ8, afill_nil, afill_cons, zeros_zero, zeros_one1, zeros_single, nQ9, iQ2, iQ3, iQ4, iQ5, ldv_one, ldv_agg, news_nil, news_cons, RecOK_nil, RecOK_none, RecOK_cons, recOf, wantedI, optK_some, optK_none, optK_bind, optK_map, lQ9, lQ10, nQ10, if_true, if_false, ite_true, ite_false, lQ11, lQ12, oQ1, oQ2, reduceCtorEq, decide_true, decide_false, bQ1, bQ2, cells_int, cells_bool, cells_str, cells_nilp, cells_ptr, cells_nils, cells_sl, cells_nilf, cells_clo, cells_agg, lQ13, lQ14, one_int, one_bool, one_str, one_nilp, one_ptr, one_nils, one_sl, one_nilf, one_clo, lQ15, lQ16, bQ3, bQ4, bQ5, true_and, and_true, bQ6, bQ7, lQ17, lQ18, bQ8, bQ9, bQ10, bQ11, eq_self, nQ11, nQ12, nQ13, nQ14, nQ15, List.cons.injEq, AV.int.injEq, AV.sl.injEq, and_self]) <;> omega), ?_⟩
        rw [set_set, ints_set, ← mix_set _ _ hlt hls, seqI_get]
      · have hie : i = xs.length := by omega
        subst hie
        rw [List.take_of_length_le (by rw [seqI_length]; exact Nat.le_refl _), List.drop_length, List.append_nil]
        have hlt := hw.lt ho
        refine hk _ ⟨Nat.le_refl _, hw.set hlt _, fun x hx hn => set_obj_ne (fun e => ?_) _, fun x ms hx => ?_⟩
        · subst e
          rw [mkI, if_neg hne] at hn
          simp [aof] at hn
        · rw [mkI, if_neg hne] at hx
          simp only [List.lookup_cons, List.lookup_nil, aof] at hx
          split at hx
          · rename_i hxo
            cases hx
            have hxo : x = o := by simpa using hxo
            subst hxo
            refine ⟨?_, pis_flat _, pis_ne fun e => ?_, _, ho', by rw [ints_length, pis_length, seqI_length]⟩
            · rw [set_obj_eq, ers_map]; congr 2; simp only [pis, ints, List.map_map]; rfl
            · have := seqI_length xs.length k
              rw [e] at this
              exact hne (List.eq_nil_of_length_eq_zero this.symm)
          · cases hx
theorem markInt64SS_A {v : PV} {xs : List (List Int)} {k : Int} (hI : FII v xs) (hW : Wh v) (hnd : (ead v).Nodup) (hw : HWF h) (hv : VOK (zlt h) h 0 v) (hb : xs.length ≤ 4294967296) (hb2 : ∀ x ∈ xs, x.length ≤ 4294967296) (hk0 : 0 ≤ k) (hk1 : k + totL List.length xs ≤ 4611686018427387904)
    (hk : ∀ h', Upd h (mkF mkI List.length k v xs) h' → K (.int .i64 (k + totL List.length xs)) h') : ACalls Tryz.prog 26 [er idz v, .int .i64 k] h K := by
  refine acalls_of_vc mix Tryz.func26 cf26 rfl ?_
  dsimp only [if26]
  obtain ⟨w, a, rows, rfl, hr⟩ := hI
  by_cases hne : rows = []
  · have hx := hr.nil_iff.1 hne
    subst hne
    subst hx
    have hlen : aLen a = some (.int .i64 ((0 : Nat) : Int)) := by
      obtain ⟨rfl, _⟩ | ⟨o, off, cap, rfl, _⟩ := hv.1 <;> rfl
    simp only [nm_eq, nm_eq, abQ, ↓reduceIte, iQ1, rd1_new, rd_new, new_next, nQ1, nQ2, nQ3, nQ4, nQ5, nQ6, lQ1, lQ2, lQ3, lQ4, lQ5, lQ6, lQ7, lQ8, nQ7, nQ8, afill_nil, afill_cons, zeros_zero, zeros_one1, zeros_single, nQ9, iQ2, iQ3, iQ4, iQ5, ldv_one, ldv_agg, news_nil, news_cons, RecOK_nil, RecOK_none, RecOK_cons, recOf, wantedI, optK_some, optK_none, optK_bind, optK_map, lQ9, lQ10, nQ10, if_true, if_false, ite_true, ite_false, lQ11, lQ12, oQ1, oQ2, reduceCtorEq, decide_true, decide_false, bQ1, bQ2, cells_int, cells_bool, cells_str, cells_nilp, cells_ptr, cells_nils, cells_sl, cells_nilf, cells_clo, cells_agg, lQ13, lQ14, one_int, one_bool, one_str, one_nilp, one_ptr, one_nils, one_sl, one_nilf, one_clo, lQ15, lQ16, bQ3, bQ4, bQ5, true_and, and_true, bQ6, bQ7, lQ17, lQ18, bQ8, bQ9, bQ10, bQ11, eq_self, nQ11, nQ12, nQ13, nQ14, nQ15, er]
    refine vc_loop (fun m vs h' => vs = [a, .int .i64 k, .int .i64 0] ∧ h' = h) 0 ⟨rfl, rfl⟩ ?_
    rintro m vs h' ⟨rfl, rfl⟩
    simp only [nm_eq, nm_eq, abQ, ↓reduceIte, iQ1, rd1_new, rd_new, new_next, nQ1, nQ2, nQ3, nQ4, nQ5, nQ6, lQ1, lQ2, lQ3, lQ4, lQ5, lQ6, lQ7, lQ8, nQ7, nQ8, afill_nil, afill_cons, zeros_zero, zeros_one1, zeros_single, nQ9, iQ2, iQ3, iQ4, iQ5, ldv_one, ldv_agg, news_nil, news_cons, RecOK_nil, RecOK_none, RecOK_cons, recOf, wantedI, optK_some, optK_none, optK_bind, optK_map, lQ9, lQ10, nQ10, if_true, if_false, ite_true, ite_false, lQ11, lQ12, oQ1, oQ2, reduceCtorEq, decide_true, decide_false, bQ1, bQ2, cells_int, cells_bool, cells_str, cells_nilp, cells_ptr, cells_nils, cells_sl, cells_nilf, cells_clo, cells_agg, lQ13, lQ14, one_int, one_bool, one_str, one_nilp, one_ptr, one_nils, one_sl, one_nilf, one_clo, lQ15, lQ16, bQ3, bQ4, bQ5, true_and, and_true, bQ6, bQ7, lQ17, lQ18, bQ8, bQ9, bQ10, bQ11, eq_self, nQ11, nQ12, nQ13, nQ14, nQ15, hlen, Int.lt_irrefl]
    have := hk h' (Upd.refl hw)
    simpa [totL] using this
  · obtain ⟨hwt, _, hWs⟩ := hW.resolve_left hne
    obtain ⟨o, cap, rfl, ho, hz⟩ := hv.whole hwt hne
    rw [ead_fz hne] at hnd
    obtain ⟨n1, n2⟩ := List.nodup_cons.1 hnd
    simp only [nm_eq, nm_eq, abQ, ↓reduceIte, iQ1, rd1_new, rd_new, new_next, nQ1, nQ2, nQ3, nQ4, nQ5, nQ6, lQ1, lQ2, lQ3, lQ4, lQ5, lQ6, lQ7, lQ8, nQ7, nQ8, afill_nil, afill_cons, zeros_zero, zeros_one1, zeros_single, nQ9, iQ2, iQ3, iQ4, iQ5, ldv_one, ldv_agg, news_nil, news_cons, RecOK_nil, RecOK_none, RecOK_cons, recOf, wantedI, optK_some, optK_none, optK_bind, optK_map, lQ9, lQ10, nQ10, if_true, if_false, ite_true, ite_false, lQ11, lQ12, oQ1, oQ2, reduceCtorEq, decide_true, decide_false, bQ1, bQ2, cells_int, cells_bool, cells_str, cells_nilp, cells_ptr, cells_nils, cells_sl, cells_nilf, cells_clo, cells_agg, lQ13, lQ14, one_int, one_bool, one_str, one_nilp, one_ptr, one_nils, one_sl, one_nilf, one_clo, lQ15, lQ16, bQ3, bQ4, bQ5, true_and, and_true, bQ6, bQ7, lQ17, lQ18, bQ8, bQ9, bQ10, bQ11, eq_self, nQ11, nQ12, nQ13, nQ14, nQ15, er]
    refine vc_loop (fun m vs h' => ∃ i : Nat, i ≤ xs.length ∧ m = xs.length - i ∧ vs = [.sl o 0 xs.length cap, .int .i64 (k + totL List.length (xs.take i)), .int .i64 i] ∧ Upd h (mkS mkI List.length k (rows.take i) (xs.take i)) h') xs.length ?_ ?_
    · exact ⟨0, by omega, by omega, by rw [List.take_zero, totL_nil]; exact (by (simp only [nm_eq, nm_eq, abQ, ↓reduceIte, iQ1, rd1_new, rd_new, new_next, nQ1, nQ2, nQ3, nQ4, nQ5, nQ6, lQ1, lQ2, lQ3, lQ4, lQ5, lQ6, lQ7, lQ8, nQ7, nQ8, afill_nil, afill_cons, zeros_zero, zeros_one1, zeros_single, nQ9, iQ2, iQ3, iQ4, iQ5, ldv_one, ldv_agg, news_nil, news_cons, RecOK_nil, RecOK_none, RecOK_cons, recOf, wantedI, optK_some, optK_none, optK_bind, optK_map, lQ9, lQ10, nQ10, if_true, if_false, ite_true, ite_false, lQ11, lQ12, oQ1, oQ2, reduceCtorEq, decide_true, decide_false, bQ1, bQ2, cells_int, cells_bool, cells_str, cells_nilp, cells_ptr, cells_nils, cells_sl, cells_nilf, cells_clo, cells_agg, lQ13, lQ14, one_int, one_bool, one_str, one_nilp, one_ptr, one_nils, one_sl, one_nilf, one_clo, lQ15, lQ16, bQ3, bQ4, bQ5, true_and, and_true, bQ6, bQ7, lQ17, lQ18, bQ8, bQ9, bQ10, bQ11, eq_self, nQ11, nQ12, nQ13, nQ14, nQ15, List.cons.injEq, AV.int.injEq, AV.sl.injEq, and_self]) <;> omega), by simp only [List.take_zero, mkS_nil]; exact Upd.refl hw⟩
    · rintro m vs h' ⟨i, hi, rfl, rfl, u⟩
      simp only [nm_eq, nm_eq, abQ, ↓reduceIte, iQ1, rd1_new, rd_new, new_next, nQ1, nQ2, nQ3, nQ4, nQ5, nQ6, lQ1, lQ2, lQ3, lQ4, lQ5, lQ6, lQ7, lQ8, nQ7, nQ8, afill_nil, afill_cons, zeros_zero, zeros_one1, zeros_single, nQ9, iQ2, iQ3, iQ4, iQ5, ldv_one, ldv_agg, news_nil, news_cons, RecOK_nil, RecOK_none, RecOK_cons, recOf, wantedI, optK_some, optK_none, optK_bind, optK_map, lQ9, lQ10, nQ10, if_true, if_false, ite_true, ite_false, lQ11, lQ12, oQ1, oQ2, reduceCtorEq, decide_true, decide_false, bQ1, bQ2, cells_int, cells_bool, cells_str, cells_nilp, cells_ptr, cells_nils, cells_sl, cells_nilf, cells_clo, cells_agg, lQ13, lQ14, one_int, one_bool, one_str, one_nilp, one_ptr, one_nils, one_sl, one_nilf, one_clo, lQ15, lQ16, bQ3, bQ4, bQ5, true_and, and_true, bQ6, bQ7, lQ17, lQ18, bQ8, bQ9, bQ10, bQ11, eq_self, nQ11, nQ12, nQ13, nQ14, nQ15]
      split
      · have hlt : i < xs.length := by omega
        obtain ⟨v, hv1, hv2, hv3, hv4, hv5, hv6⟩ := mkT_I.step hr hWs n2 hv.2 hlt u
        have hld : h'.rd1 o i = some (er idz v) := by
          rw [rd1_of_obj (by rw [u.same o hz (lookup_none.2 fun hm => n1 (eads_take (mkT_I.keysS (hr.take i) (Whs_iff.2 fun c hc => Whs_iff.1 hWs c (List.mem_of_mem_take hc)) o hm)))]; exact ho)]
          rw [ers_get, hv1]; rfl
        have ht := totL_snoc (len := List.length) hlt
        have htl := totL_le List.length xs (i + 1)
        have hbi := hb2 _ (List.getElem_mem hlt)
        simp only [nm_eq, nm_eq, abQ, ↓reduceIte, iQ1, rd1_new, rd_new, new_next, nQ1, nQ2, nQ3, nQ4, nQ5, nQ6, lQ1, lQ2, lQ3, lQ4, lQ5, lQ6, lQ7, lQ8, nQ7, nQ8, afill_nil, afill_cons, zeros_zero, zeros_one1, zeros_single, nQ9, iQ2, iQ3, iQ4, iQ5, ldv_one, ldv_agg, news_nil, news_cons, RecOK_nil, RecOK_none, RecOK_cons, recOf, wantedI, optK_some, optK_none, optK_bind, optK_map, lQ9, lQ10, nQ10, if_true, if_false, ite_true, ite_false, lQ11, lQ12, oQ1, oQ2, reduceCtorEq, decide_true, decide_false, bQ1, bQ2, cells_int, cells_bool, cells_str, cells_nilp, cells_ptr, cells_nils, cells_sl, cells_nilf, cells_clo, cells_agg, lQ13, lQ14, one_int, one_bool, one_str, one_nilp, one_ptr, one_nils, one_sl, one_nilf, one_clo, lQ15, lQ16, bQ3, bQ4, bQ5, true_and, and_true, bQ6, bQ7, lQ17, lQ18, bQ8, bQ9, bQ10, bQ11, eq_self, nQ11, nQ12, nQ13, nQ14, nQ15, aIndex_nat hlt, hld, wrapS hlt (by omega : xs.length ≤ 4611686018427387904)]
        refine markInt64S_A hv2 hv3 u.wf hv5 hbi (by omega) (by omega) fun h'' u' => ?_
        simp only [nm_eq, nm_eq, abQ, ↓reduceIte, iQ1, rd1_new, rd_new, new_next, nQ1, nQ2, nQ3, nQ4, nQ5, nQ6, lQ1, lQ2, lQ3, lQ4, lQ5, lQ6, lQ7, lQ8, nQ7, nQ8, afill_nil, afill_cons, zeros_zero, zeros_one1, zeros_single, nQ9, iQ2, iQ3, iQ4, iQ5, ldv_one, ldv_agg, news_nil, news_cons, RecOK_nil, RecOK_none, RecOK_cons, recOf, wantedI, optK_some, optK_none, optK_bind, optK_map, lQ9, lQ10, nQ10, if_true, if_false, ite_true, ite_false, lQ11, lQ12, oQ1, oQ2, reduceCtorEq, decide_true, decide_false, bQ1, bQ2, cells_int, cells_bool, cells_str, cells_nilp, cells_ptr, cells_nils, cells_sl, cells_nilf, cells_clo, cells_agg, lQ13, lQ14, one_int, one_bool, one_str, one_nilp, one_ptr, one_nils, one_sl, one_nilf, one_clo, lQ15, lQ16, bQ3, bQ4, bQ5, true_and, and_true, bQ6, bQ7, lQ17, lQ18, bQ8, bQ9, bQ10, bQ11, eq_self, nQ11, nQ12, nQ13, nQ14, nQ15, wrapS hlt (by omega : xs.length ≤ 4611686018427387904)]
        exact ⟨_, by omega, i + 1, by omega, rfl, (by (simp only [nm_eq, nm_eq, abQ, ↓reduceIte, iQ1, rd1_new, rd_new, new_next, nQ1, nQ2, nQ3, nQ4, nQ5, nQ6, lQ1, lQ2, lQ3, lQ4, lQ5, lQ6, lQ7, lQ8, nQ7, nQ8, afill_nil, afill_cons, zeros_zero, zeros_one1, zeros_single, nQ9, iQ2, iQ3, iQ4, iQ5, ldv_one, ldv_agg, news_nil, news_cons, RecOK_nil, RecOK_none, RecOK_cons, recOf, wantedI, optK_some, optK_none, optK_bind, optK_map, lQ9, lQ10, nQ10, if_true, if_false, ite_true, ite_false, lQ11, lQ12, oQ1, oQ2, reduceCtorEq, decide_true, decide_false, bQ1, bQ2, cells_int, cells_bool, cells_str, cells_nilp, cells_ptr, cells_nils, cells_sl, cells_nilf, cells_clo, cells_agg, lQ13, lQ14, one_int, one_bool, one_str, one_nilp, one_ptr, one_nils, one_sl, one_nilf, one_clo, lQ15, lQ16, bQ3, bQ4, bQ5, true_and, and_true, bQ6, bQ7, lQ17, lQ18, bQ8, bQ9, bQ10, bQ11, eq_self, nQ11, nQ12, nQ13, nQ14, nQ15, List.cons.injEq, AV.int.injEq, AV.sl.injEq, and_self]) <;> omega), hv6 _ u'⟩
      · have hie : i = xs.length := by omega
        subst hie
        rw [List.take_length, List.take_of_length_le (by rw [hr.1]; exact Nat.le_refl _)] at u
        rw [List.take_length]
        exact hk _ u
theorem markInt64SSS_A {v : PV} {xs : List (List (List Int))} {k : Int} (hI : FIII v xs) (hW : Wh v) (hnd : (ead v).Nodup) (hw : HWF h) (hv : VOK (zlt h) h 0 v) (hb : xs.length ≤ 4294967296) (hb2 : ∀ x ∈ xs, x.length ≤ 4294967296 ∧ ∀ y ∈ x, y.length ≤ 4294967296) (hk0 : 0 ≤ k) (hk1 : k + totL (totL List.length) xs ≤ 4611686018427387904)
    (hk : ∀ h', Upd h (mkF (mkF mkI List.length) (totL List.length) k v xs) h' → K (.int .i64 (k + totL (totL List.length) xs)) h') : ACalls Tryz.prog 38 [er idz v, .int .i64 k] h K := by
  refine acalls_of_vc mix Tryz.func38 cf38 rfl ?_
  dsimp only [if38]
  obtain ⟨w, a, rows, rfl, hr⟩ := hI
  by_cases hne : rows = []
  · have hx := hr.nil_iff.1 hne
    subst hne
    subst hx
    have hlen : aLen a = some (.int .i64 ((0 : Nat) : Int)) := by
      obtain ⟨rfl, _⟩ | ⟨o, off, cap, rfl, _⟩ := hv.1 <;> rfl
    simp only [nm_eq, nm_eq, abQ, ↓reduceIte, iQ1, rd1_new, rd_new, new_next, nQ1, nQ2, nQ3, nQ4, nQ5, nQ6, lQ1, lQ2, lQ3, lQ4, lQ5, lQ6, lQ7, lQ8, nQ7, nQ8, afill_nil, afill_cons, zeros_zero, zeros_one1, zeros_single, nQ9, iQ2, iQ3, iQ4, iQ5, ldv_one, ldv_agg, news_nil, news_cons, RecOK_nil, RecOK_none, RecOK_cons, recOf, wantedI, optK_some, optK_none, optK_bind, optK_map, lQ9, lQ10, nQ10, if_true, if_false, ite_true, ite_false, lQ11, lQ12, oQ1, oQ2, reduceCtorEq, decide_true, decide_false, bQ1, bQ2, cells_int, cells_bool, cells_str, cells_nilp, cells_ptr, cells_nils, cells_sl, cells_nilf, cells_clo, cells_agg, lQ13, lQ14, one_int, one_bool, one_str, one_nilp, one_ptr, one_nils, one_sl, one_nilf, one_clo, lQ15, lQ16, bQ3, bQ4, bQ5, true_and, and_true, bQ6, bQ7, lQ17, lQ18, bQ8, bQ9, bQ10, bQ11, eq_self, nQ11, nQ12, nQ13, nQ14, nQ15, er]
    refine vc_loop (fun m vs h' => vs = [a, .int .i64 k, .int .i64 0] ∧ h' = h) 0 ⟨rfl, rfl⟩ ?_
    rintro m vs h' ⟨rfl, rfl⟩
    simp only [nm_eq, nm_eq, abQ, ↓reduceIte, iQ1, rd1_new, rd_new, new_next, nQ1, nQ2, nQ3, nQ4, nQ5, nQ6, lQ1, lQ2, lQ3, lQ4, lQ5, lQ6, lQ7, lQ8, nQ7, nQ8, afill_nil, afill_cons, zeros_zero, zeros_one1, zeros_single, nQ9, iQ2, iQ3, iQ4, iQ5, ldv_one, ldv_agg, news_nil, news_cons, RecOK_nil, RecOK_none, RecOK_cons, recOf, wantedI, optK_some, optK_none, optK_bind, optK_map, lQ9, lQ10, nQ10, if_true, if_false, ite_true, ite_false, lQ11, lQ12, oQ1, oQ2, reduceCtorEq, decide_true, decide_false, bQ1, bQ2, cells_int, cells_bool, cells_str, cells_nilp, cells_ptr, cells_nils, cells_sl, cells_nilf, cells_clo, cells_agg, lQ13, lQ14, one_int, one_bool, one_str, one_nilp, one_ptr, one_nils, one_sl, one_nilf, one_clo, lQ15, lQ16, bQ3, bQ4, bQ5, true_and, and_true, bQ6, bQ7, lQ17, lQ18, bQ8, bQ9, bQ10, bQ11, eq_self, nQ11, nQ12, nQ13, nQ14, nQ15, hlen, Int.lt_irrefl]
    have := hk h' (Upd.refl hw)
    simpa [totL] using this
  · obtain ⟨hwt, _, hWs⟩ := hW.resolve_left hne
    obtain ⟨o, cap, rfl, ho, hz⟩ := hv.whole hwt hne
    rw [ead_fz hne] at hnd
    obtain ⟨n1, n2⟩ := List.nodup_cons.1 hnd
    simp only [nm_eq, nm_eq, abQ, ↓reduceIte, iQ1, rd1_new, rd_new, new_next, nQ1, nQ2, nQ3, nQ4, nQ5, nQ6, lQ1, lQ2, lQ3, lQ4, lQ5, lQ6, lQ7, lQ8, nQ7, nQ8, afill_nil, afill_cons, zeros_zero, zeros_one1, zeros_single, nQ9, iQ2, iQ3, iQ4, iQ5, ldv_one, ldv_agg, news_nil, news_cons, RecOK_nil, RecOK_none, RecOK_cons, recOf, wantedI, optK_some, optK_none, optK_bind, optK_map, lQ9, lQ10, nQ10, if_true, if_false, ite_true, ite_false, lQ11, lQ12, oQ1, oQ2, reduceCtorEq, decide_true, decide_false, bQ1, bQ2, cells_int, cells_bool, cells_str, cells_nilp, cells_ptr, cells_nils, cells_sl, cells_nilf, cells_clo, cells_agg, lQ13, lQ14, one_int, one_bool, one_str, one_nilp, one_ptr, one_nils, one_sl, one_nilf, one_clo, lQ15, lQ16, bQ3, bQ4, bQ5, true_and, and_true, bQ6, bQ7, lQ17, lQ18, bQ8, bQ9, bQ10, bQ11, eq_self, nQ11, nQ12, nQ13, nQ14, nQ15, er]
    refine vc_loop (fun m vs h' => ∃ i : Nat, i ≤ xs.length ∧ m = xs.length - i ∧ vs = [.sl o 0 xs.length cap, .int .i64 (k + totL (totL List.length) (xs.take i)), .int .i64 i] ∧ Upd h (mkS (mkF mkI List.length) (totL List.length) k (rows.take i) (xs.take i)) h') xs.length ?_ ?_
    · exact ⟨0, by omega, by omega, by rw [List.take_zero, totL_nil]; exact (by (simp only [nm_eq, nm_eq, abQ, ↓reduceIte, iQ1, rd1_new, rd_new, new_next, nQ1, nQ2, nQ3, nQ4, nQ5, nQ6, lQ1, lQ2, lQ3, lQ4, lQ5, lQ6, lQ7, lQ8, nQ7, nQ8, afill_nil, afill_cons, zeros_zero, zeros_one1, zeros_single, nQ9, iQ2, iQ3, iQ4, iQ5, ldv_one, ldv_agg, news_nil, news_cons, RecOK_nil, RecOK_none, RecOK_cons, recOf, wantedI, optK_some, optK_none, optK_bind, optK_map, lQ9, lQ10, nQ10, if_true, if_false, ite_true, ite_false, lQ11, lQ12, oQ1, oQ2, reduceCtorEq, decide_true, decide_false, bQ1, bQ2, cells_int, cells_bool, cells_str, cells_nilp, cells_ptr, cells_nils, cells_sl, cells_nilf, cells_clo, cells_agg, lQ13, lQ14, one_int, one_bool, one_str, one_nilp, one_ptr, one_nils, one_sl, one_nilf, one_clo, lQ15, lQ16, bQ3, bQ4, bQ5, true_and, and_true, bQ6, bQ7, lQ17, lQ18, bQ8, bQ9, bQ10, bQ11, eq_self, nQ11, nQ12, nQ13, nQ14, nQ15, List.cons.injEq, AV.int.injEq, AV.sl.injEq, and_self]) <;> omega), by simp only [List.take_zero, mkS_nil]; exact Upd.refl hw⟩
    · rintro m vs h' ⟨i, hi, rfl, rfl, u⟩
      simp only [nm_eq, nm_eq, abQ, ↓reduceIte, iQ1, rd1_new, rd_new, new_next, nQ1, nQ2, nQ3, nQ4, nQ5, nQ6, lQ1, lQ2, lQ3, lQ4, lQ5, lQ6, lQ7, lQ8, nQ7, nQ8, afill_nil, afill_cons, zeros_zero, zeros_one1, zeros_single, nQ9, iQ2, iQ3, iQ4, iQ5, ldv_one, ldv_agg, news_nil, news_cons, RecOK_nil, RecOK_none, RecOK_cons, recOf, wantedI, optK_some, optK_none, optK_bind, optK_map, lQ9, lQ10, nQ10, if_true, if_false, ite_true, ite_false, lQ11, lQ12, oQ1, oQ2, reduceCtorEq, decide_true, decide_false, bQ1, bQ2, cells_int, cells_bool, cells_str, cells_nilp, cells_ptr, cells_nils, cells_sl, cells_nilf, cells_clo, cells_agg, lQ13, lQ14, one_int, one_bool, one_str, one_nilp, one_ptr, one_nils, one_sl, one_nilf, one_clo, lQ15, lQ16, bQ3, bQ4, bQ5, true_and, and_true, bQ6, bQ7, lQ17, lQ18, bQ8, bQ9, bQ10, bQ11, eq_self, nQ11, nQ12, nQ13, nQ14, nQ15]
      split
      · have hlt : i < xs.length := by omega
        obtain ⟨v, hv1, hv2, hv3, hv4, hv5, hv6⟩ := mkT_I.F.step hr hWs n2 hv.2 hlt u
        have hld : h'.rd1 o i = some (er idz v) := by
          rw [rd1_of_obj (by rw [u.same o hz (lookup_none.2 fun hm => n1 (eads_take (mkT_I.F.keysS (hr.take i) (Whs_iff.2 fun c hc => Whs_iff.1 hWs c (List.mem_of_mem_take hc)) o hm)))]; exact ho)]
          rw [ers_get, hv1]; rfl
        have ht := totL_snoc (len := totL List.length) hlt
        have htl := totL_le (totL List.length) xs (i + 1)
        have hbi := hb2 _ (List.getElem_mem hlt)
        simp only [nm_eq, nm_eq, abQ, ↓reduceIte, iQ1, rd1_new, rd_new, new_next, nQ1, nQ2, nQ3, nQ4, nQ5, nQ6, lQ1, lQ2, lQ3, lQ4, lQ5, lQ6, lQ7, lQ8, nQ7, nQ8, afill_nil, afill_cons, zeros_zero, zeros_one1, zeros_single, nQ9, iQ2, iQ3, iQ4, iQ5, ldv_one, ldv_agg, news_nil, news_cons, RecOK_nil, RecOK_none, RecOK_cons, recOf, wantedI, optK_some, optK_none, optK_bind, optK_map, lQ9, lQ10, nQ10, if_true, if_false, ite_true, ite_false, lQ11, lQ12, oQ1, oQ2, reduceCtorEq, decide_true, decide_false, bQ1, bQ2, cells_int, cells_bool, cells_str, cells_nilp, cells_ptr, cells_nils, cells_sl, cells_nilf, cells_clo, cells_agg, lQ13, lQ14, one_int, one_bool, one_str, one_nilp, one_ptr, one_nils, one_sl, one_nilf, one_clo, lQ15, lQ16, bQ3, bQ4, bQ5, true_and, and_true, bQ6, bQ7, lQ17, lQ18, bQ8, bQ9, bQ10, bQ11, eq_self, nQ11, nQ12, nQ13, nQ14, nQ15, aIndex_nat hlt, hld, wrapS hlt (by omega : xs.length ≤ 4611686018427387904)]
        refine markInt64SS_A hv2 hv3 hv4 u.wf hv5 hbi.1 hbi.2 (by omega) (by omega) fun h'' u' => ?_
        simp only [nm_eq, nm_eq, abQ, ↓reduceIte, iQ1, rd1_new, rd_new, new_next, nQ1, nQ2, nQ3, nQ4, nQ5, nQ6, lQ1, lQ2, lQ3, lQ4, lQ5, lQ6, lQ7, lQ8, nQ7, nQ8, afill_nil, afill_cons, zeros_zero, zeros_one1, zeros_single, nQ9, iQ2, iQ3, iQ4, iQ5, ldv_one, ldv_agg, news_nil, news_cons, RecOK_nil, RecOK_none, RecOK_cons, recOf, wantedI, optK_some, optK_none, optK_bind, optK_map, lQ9, lQ10, nQ10, if_true, if_false, ite_true, ite_false, lQ11, lQ12, oQ1, oQ2, reduceCtorEq, decide_true, decide_false, bQ1, bQ2, cells_int, cells_bool, cells_str, cells_nilp, cells_ptr, cells_nils, cells_sl, cells_nilf, cells_clo, cells_agg, lQ13, lQ14, one_int, one_bool, one_str, one_nilp, one_ptr, one_nils, one_sl, one_nilf, one_clo, lQ15, lQ16, bQ3, bQ4, bQ5, true_and, and_true, bQ6, bQ7, lQ17, lQ18, bQ8, bQ9, bQ10, bQ11, eq_self, nQ11, nQ12, nQ13, nQ14, nQ15, wrapS hlt (by omega : xs.length ≤ 4611686018427387904)]
        exact ⟨_, by omega, i + 1, by omega, rfl, (by (simp only [nm_eq, nm_eq, abQ, ↓reduceIte, iQ1, rd1_new, rd_new, new_next, nQ1, nQ2, nQ3, nQ4, nQ5, nQ6, lQ1, lQ2, lQ3, lQ4, lQ5, lQ6, lQ7, lQ8, nQ7, nQ8, afill_nil, afill_cons, zeros_zero, zeros_one1, zeros_single, nQ9, iQ2, iQ3, iQ4, iQ5, ldv_one, ldv_agg, news_nil, news_cons, RecOK_nil, RecOK_none, RecOK_cons, recOf, wantedI, optK_some, optK_none, optK_bind, optK_map, lQ9, lQ10, nQ10, if_true, if_false, ite_true, ite_false, lQ11, lQ12, oQ1, oQ2, reduceCtorEq, decide_true, decide_false, bQ1, bQ2, cells_int, cells_bool, cells_str, cells_nilp, cells_ptr, cells_nils, cells_sl, cells_nilf, cells_clo, cells_agg, lQ13, lQ14, one_int, one_bool, one_str, one_nilp, one_ptr, one_nils, one_sl, one_nilf, one_clo, lQ15, lQ16, bQ3, bQ4, bQ5, true_and, and_true, bQ6, bQ7, lQ17, lQ18, bQ8, bQ9, bQ10, bQ11, eq_self, nQ11, nQ12, nQ13, nQ14, nQ15, List.cons.injEq, AV.int.injEq, AV.sl.injEq, and_self]) <;> omega), hv6 _ u'⟩
      · have hie : i = xs.length := by omega
        subst hie
        rw [List.take_length, List.take_of_length_le (by rw [hr.1]; exact Nat.le_refl _)] at u
        rw [List.take_length]
        exact hk _ u
def mkR (k : Int) (vP vB : PV) (W : List (List Int)) (B : List (List (List Int))) : List (Nat × List PV) :=
  mkF mkI List.length k vP W ++ mkF (mkF mkI List.length) (totL List.length) (k + totL List.length W) vB B
def totR (W : List (List Int)) (B : List (List (List Int))) : Nat := totL List.length W + totL (totL List.length) B
theorem markLieRing_A {p k : Int} {vP vB : PV} {W : List (List Int)} {B : List (List (List Int))} (hR : IsR vP vB W B) (hW : Wh (.agg [.int .i64 p, vP, vB])) (hnd : (ead (.agg [.int .i64 p, vP, vB])).Nodup) (hw : HWF h) (hv : VOK (zlt h) h 0 (.agg [.int .i64 p, vP, vB])) (sz : SzR W B) (hk0 : 0 ≤ k) (hk1 : k + totR W B ≤ 4611686018427387904)
    (hk : ∀ h', Upd h (mkR k vP vB W B) h' → K (.int .i64 (k + totR W B)) h') : ACalls Tryz.prog 13 [er idz (.agg [.int .i64 p, vP, vB]), .int .i64 k] h K := by
  refine acalls_of_vc mix Tryz.func13 cf13 rfl ?_
  dsimp only [if13]
  simp only [er, ers]
  unfold totR at hk hk1
  obtain ⟨_, hvP, hvB, _⟩ := hv
  obtain ⟨_, wP, wB, _⟩ := hW
  have oP : (er idz vP).one = true := by rw [er_one hvP]; exact hR.P.one
  have oB : (er idz vB).one = true := by rw [er_one hvB]; exact hR.B.one
  have cP := cells_of_one oP
  have cB := cells_of_one oB
  simp only [ead, eads, List.nil_append, List.append_nil, List.nodup_append] at hnd
  obtain ⟨dP, dB, dd⟩ := hnd
  obtain ⟨hh, he, hx1, hn, qq⟩ := box1 hw [.int .i64 p, er idz vP, er idz vB]
  have hzz : ∀ o, zlt h o → zlt hh o ∧ hh.obj o = h.obj o := fun o ho => ⟨Nat.lt_of_lt_of_le ho hx1.next, hx1.obj o ho⟩
  have q := qq _ (Ext.refl hx1.wf)
  have kP := (mkT_I.F).keys (k := k) hR.P wP
  have kB := (mkT_I.F.F).keys (k := k + totL List.length W) hR.B wB
  simp only [nm_eq, nm_eq, abQ, ↓reduceIte, iQ1, rd1_new, rd_new, new_next, nQ1, nQ2, nQ3, nQ4, nQ5, nQ6, lQ1, lQ2, lQ3, lQ4, lQ5, lQ6, lQ7, lQ8, nQ7, nQ8, afill_nil, afill_cons, zeros_zero, zeros_one1, zeros_single, nQ9, iQ2, iQ3, iQ4, iQ5, ldv_one, ldv_agg, news_nil, news_cons, RecOK_nil, RecOK_none, RecOK_cons, recOf, wantedI, optK_some, optK_none, optK_bind, optK_map, lQ9, lQ10, nQ10, if_true, if_false, ite_true, ite_false, lQ11, lQ12, oQ1, oQ2, reduceCtorEq, decide_true, decide_false, bQ1, bQ2, cells_int, cells_bool, cells_str, cells_nilp, cells_ptr, cells_nils, cells_sl, cells_nilf, cells_clo, cells_agg, lQ13, lQ14, one_int, one_bool, one_str, one_nilp, one_ptr, one_nils, one_sl, one_nilf, one_clo, lQ15, lQ16, bQ3, bQ4, bQ5, true_and, and_true, bQ6, bQ7, lQ17, lQ18, bQ8, bQ9, bQ10, bQ11, eq_self, nQ11, nQ12, nQ13, nQ14, nQ15, he, oP, oB, cP, cB, rd1_of_obj q]
  refine markInt64SS_A hR.P wP dP hx1.wf (hvP.mono hzz (Nat.le_refl _)) (by have := sz.Wl; omega) (fun x hx => by have := sz.w x hx; omega) hk0 (by omega) fun h1 u1 => ?_
  have qB : h1.obj h.next = some ⟨true, [.int .i64 p, er idz vP, er idz vB]⟩ := by
    rw [u1.same _ (by omega) (lookup_none.2 fun hm => by have : h.next < h.next := ead_z hvP _ (kP _ hm); omega)]; exact q
  have hvB1 : VOK (zlt h1) h1 0 vB := by
    have h2 := rm_vok u1 (fun o ho => ho) (hvB.mono hzz (Nat.le_refl _))
    rw [rm_out fun o ho hm => dd o (kP o ho) o hm rfl] at h2
    exact h2.mono (fun o ho => ⟨Nat.lt_of_lt_of_le ho u1.next, rfl⟩) (Nat.le_refl _)
  have hneg : ¬ (k + (totL List.length W : Int) < 0) := by omega
  simp only [nm_eq, nm_eq, abQ, ↓reduceIte, iQ1, rd1_new, rd_new, new_next, nQ1, nQ2, nQ3, nQ4, nQ5, nQ6, lQ1, lQ2, lQ3, lQ4, lQ5, lQ6, lQ7, lQ8, nQ7, nQ8, afill_nil, afill_cons, zeros_zero, zeros_one1, zeros_single, nQ9, iQ2, iQ3, iQ4, iQ5, ldv_one, ldv_agg, news_nil, news_cons, RecOK_nil, RecOK_none, RecOK_cons, recOf, wantedI, optK_some, optK_none, optK_bind, optK_map, lQ9, lQ10, nQ10, if_true, if_false, ite_true, ite_false, lQ11, lQ12, oQ1, oQ2, reduceCtorEq, decide_true, decide_false, bQ1, bQ2, cells_int, cells_bool, cells_str, cells_nilp, cells_ptr, cells_nils, cells_sl, cells_nilf, cells_clo, cells_agg, lQ13, lQ14, one_int, one_bool, one_str, one_nilp, one_ptr, one_nils, one_sl, one_nilf, one_clo, lQ15, lQ16, bQ3, bQ4, bQ5, true_and, and_true, bQ6, bQ7, lQ17, lQ18, bQ8, bQ9, bQ10, bQ11, eq_self, nQ11, nQ12, nQ13, nQ14, nQ15, rd1_of_obj qB, hneg]
  refine markInt64SSS_A hR.B wB dB u1.wf hvB1 (by have := sz.Bl; omega) (fun x hx => ⟨by have := sz.b x hx; omega, fun y hy => by have := sz.c x hx y hy; omega⟩) (by omega) (by omega) fun h2 u2 => ?_
  have u3 : Upd hh (mkR k vP vB W B) h2 := u1.trans u2 (fun o ho hm => dd o (kP o ho) o (kB o hm) rfl) fun o ho => by have : o < h.next := ead_z hvB o (kB o ho); omega
  have u4 := hx1.upd.trans u3 (fun o ho => by cases ho) fun o ho => by
    unfold mkR at ho
    rw [List.map_append, List.mem_append] at ho
    exact ho.elim (fun hm => ead_z hvP o (kP o hm)) fun hm => ead_z hvB o (kB o hm)
  have e : k + (totL List.length W : Int) + (totL (totL List.length) B : Int) = k + ((totL List.length W + totL (totL List.length) B : Nat) : Int) := by omega
  rw [e]
  simp only [nm_eq, nm_eq, abQ, ↓reduceIte, iQ1, rd1_new, rd_new, new_next, nQ1, nQ2, nQ3, nQ4, nQ5, nQ6, lQ1, lQ2, lQ3, lQ4, lQ5, lQ6, lQ7, lQ8, nQ7, nQ8, afill_nil, afill_cons, zeros_zero, zeros_one1, zeros_single, nQ9, iQ2, iQ3, iQ4, iQ5, ldv_one, ldv_agg, news_nil, news_cons, RecOK_nil, RecOK_none, RecOK_cons, recOf, wantedI, optK_some, optK_none, optK_bind, optK_map, lQ9, lQ10, nQ10, if_true, if_false, ite_true, ite_false, lQ11, lQ12, oQ1, oQ2, reduceCtorEq, decide_true, decide_false, bQ1, bQ2, cells_int, cells_bool, cells_str, cells_nilp, cells_ptr, cells_nils, cells_sl, cells_nilf, cells_clo, cells_agg, lQ13, lQ14, one_int, one_bool, one_str, one_nilp, one_ptr, one_nils, one_sl, one_nilf, one_clo, lQ15, lQ16, bQ3, bQ4, bQ5, true_and, and_true, bQ6, bQ7, lQ17, lQ18, bQ8, bQ9, bQ10, bQ11, eq_self, nQ11, nQ12, nQ13, nQ14, nQ15]
  exact hk _ (by simpa using u4)
end
section
variable {σ : PHeap} {K : PV → PHeap → Prop} {p : Int} {W : List (List Int)} {B : List (List (List Int))} {vP vB : PV} {lo hi : Nat}
theorem mkR_keys {k : Int} (hR : IsR vP vB W B) (hW : Wh (.agg [.int .i64 p, vP, vB])) : ∀ o ∈ (mkR k vP vB W B).map Prod.fst, o ∈ ead (.agg [.int .i64 p, vP, vB]) := by
  obtain ⟨_, wP, wB, _⟩ := hW
  intro o ho
  unfold mkR at ho
  rw [List.map_append, List.mem_append] at ho
  simp only [ead, eads, List.nil_append, List.append_nil, List.mem_append]
  exact ho.imp (mkT_I.F.keys hR.P wP o) (mkT_I.F.F.keys hR.B wB o)
theorem keysR {k : Int} (hR : IsR vP vB W B) (ho : Own lo hi (.agg [.int .i64 p, vP, vB])) : ∀ o ∈ (mkR k vP vB W B).map Prod.fst, lo ≤ o ∧ o < hi := fun o hm => ho.lt o (mkR_keys hR ho.wh o hm)
theorem markLieRing_M {k : Int} (hR : IsR vP vB W B) (ho : Own lo hi (.agg [.int .i64 p, vP, vB])) (sz : SzR W B) (hk0 : 0 ≤ k) (hk1 : k + totR W B ≤ 4611686018427387904) :
    MarkOK Tryz.prog 13 [.agg [.int .i64 p, vP, vB], .int .i64 k] σ (mkR k vP vB W B) .i64 (k + totR W B) :=
  MarkOK.of ⟨trivial, hR.P.bel 0, hR.B.bel 0, trivial⟩ (mkR_keys hR ho.wh) fun h hw hv => markLieRing_A hR ho.wh ho.nd hw hv sz hk0 hk1 fun h' u => ⟨rfl, u⟩
theorem heldInt64S_ok {v : PV} {xs : List Int} {k : Int} (hI : FI v (seqI k xs.length)) (hb : xs.length ≤ 4294967296) (hk0 : 0 ≤ k) (hk1 : k ≤ 4611686018427387904) (hk : K (.int .i64 (k + xs.length)) σ) : PCalls Tryz.prog 40 [v, .int .i64 k] σ K := by
  obtain ⟨w, a, rfl⟩ := hI
  have hl := seqI_length xs.length k
  have hg := seqI_get xs.length k
  generalize seqI k xs.length = ys at *
  refine pcalls_of_vp mix Tryz.func40 cf40 rfl ?_
  dsimp only [if40, qI, eI, nI, qD, eD]
  simp only [pwA, if_true, if_false, eq_self, nm_eq, reduceCtorEq, ↓reduceIte, nQ10, nQ7, nQ11, nQ12, nQ16, nQ17, nQ18, iQ2, iQ3, iQ4, iQ5, iQ6, lQ19, iQ7, lQ20]
  refine vp_loop (fun m vs h' => ∃ i : Nat, i ≤ ys.length ∧ m = ys.length - i ∧ vs = [.fz w a ys.length (pis ys), .int .i64 (k + (i : Int)), .int .i64 i] ∧ σ = h') ys.length ?_ ?_
  · exact ⟨0, by omega, by omega, by rw [show k + ((0 : Nat) : Int) = k by omega]; rfl, rfl⟩
  rintro m vs h' ⟨i, hi, rfl, rfl, rfl⟩
  simp only [pwA, if_true, if_false, eq_self, nm_eq, reduceCtorEq, ↓reduceIte, nQ10, nQ7, nQ11, nQ12, nQ16, nQ17, nQ18, iQ2, iQ3, iQ4, iQ5, iQ6, lQ19, iQ7, lQ20]
  refine iteI (fun hlt => ?_) fun hge => ?_
  · simp only [pwA, if_true, if_false, eq_self, nm_eq, reduceCtorEq, ↓reduceIte, nQ10, nQ7, nQ11, nQ12, nQ16, nQ17, nQ18, iQ2, iQ3, iQ4, iQ5, iQ6, lQ19, iQ7, lQ20, hlt, gi hlt, hg i hlt, pis_get, wrapS hlt (by omega : ys.length ≤ 4611686018427387904), wrap64 (n := k + (i : Int) + 1) (by omega) (by omega)]
    refine ⟨_, by omega, i + 1, by omega, rfl, ?_⟩
    have : k + (i : Int) + 1 = k + ((i + 1 : Nat) : Int) := by omega
    rw [this]
  · have hie : i = xs.length := by omega
    subst hie
    exact hk
theorem heldInt64SS_ok {v : PV} {xs : List (List Int)} {k : Int} (hI : FII v (sqL sqI List.length k xs)) (hb : xs.length ≤ 4294967296) (hb2 : ∀ x ∈ xs, x.length ≤ 4294967296) (hk0 : 0 ≤ k) (hk1 : k + totL List.length xs ≤ 4611686018427387904) (hk : K (.int .i64 (k + totL List.length xs)) σ) : PCalls Tryz.prog 27 [v, .int .i64 k] σ K := by
  obtain ⟨w, a, rows, rfl, hr⟩ := hI
  have hl := sqL_length sqI List.length xs k
  have hg : ∀ (i : Nat) (hi : i < xs.length) (h2 : i < (sqL sqI List.length k xs).length), (sqL sqI List.length k xs)[i] = sqI (k + totL List.length (xs.take i)) xs[i] := fun i hi _ => sqL_get sqI List.length xs k i hi
  generalize sqL sqI List.length k xs = ys at *
  refine pcalls_of_vp mix Tryz.func27 cf27 rfl ?_
  dsimp only [if27, qI, eI, nI, qD, eD]
  simp only [pwA, if_true, if_false, eq_self, nm_eq, reduceCtorEq, ↓reduceIte, nQ10, nQ7, nQ11, nQ12, nQ16, nQ17, nQ18, iQ2, iQ3, iQ4, iQ5, iQ6, lQ19, iQ7, lQ20]
  refine vp_loop (fun m vs h' => ∃ i : Nat, i ≤ ys.length ∧ m = ys.length - i ∧ vs = [.fz w a ys.length rows, .int .i64 (k + totL List.length (xs.take i)), .int .i64 i] ∧ σ = h') ys.length ?_ ?_
  · exact ⟨0, by omega, by omega, by rw [List.take_zero, totL_nil, show k + ((0 : Nat) : Int) = k by omega]; rfl, rfl⟩
  rintro m vs h' ⟨i, hi, rfl, rfl, rfl⟩
  simp only [pwA, if_true, if_false, eq_self, nm_eq, reduceCtorEq, ↓reduceIte, nQ10, nQ7, nQ11, nQ12, nQ16, nQ17, nQ18, iQ2, iQ3, iQ4, iQ5, iQ6, lQ19, iQ7, lQ20]
  refine iteI (fun hlt => ?_) fun hge => ?_
  · have hlx : i < xs.length := by omega
    obtain ⟨w4, a4, hrk⟩ := hr.rowI hlt
    have ht := totL_snoc (len := List.length) hlx
    have htl := totL_le List.length xs (i + 1)
    have hgi := hg i hlx hlt
    simp only [pwA, if_true, if_false, eq_self, nm_eq, reduceCtorEq, ↓reduceIte, nQ10, nQ7, nQ11, nQ12, nQ16, nQ17, nQ18, iQ2, iQ3, iQ4, iQ5, iQ6, lQ19, iQ7, lQ20, hlt, hrk]
    have hbi := hb2 _ (List.getElem_mem hlx)
    refine heldInt64S_ok (xs := xs[i]) ⟨w4, a4, by rw [hgi, sqI]⟩ hbi (by omega) (by omega) ?_
    have hn : ¬ (k + (totL List.length (xs.take i) : Int) + (xs[i].length : Int) < 0) := by omega
    simp only [pwA, if_true, if_false, eq_self, nm_eq, reduceCtorEq, ↓reduceIte, nQ10, nQ7, nQ11, nQ12, nQ16, nQ17, nQ18, iQ2, iQ3, iQ4, iQ5, iQ6, lQ19, iQ7, lQ20, hn, wrapS hlt (by omega : ys.length ≤ 4611686018427387904)]
    refine ⟨_, by omega, i + 1, by omega, rfl, ?_⟩
    have : k + (totL List.length (xs.take i) : Int) + (xs[i].length : Int) = k + (totL List.length (xs.take (i + 1)) : Int) := by omega
    rw [this]
  · have hie : i = xs.length := by omega
    subst hie
    rw [List.take_length]
    exact hk
theorem toInt64S_T {v : PV} {xs : List Int} (hI : FI v xs) (hb : xs.length ≤ 1048576) (hk : ∀ v t, FI v xs → Own σ.top t v → σ.top ≤ t → K v (σ.up t)) : PCalls Tryz.prog 45 [v] σ K :=
  PCalls.fzT (fun K' => toInt64S_ok hI hb) (pis_bel _ _) (Owns.pis _ _ _) fun o cap t h1 h2 => hk _ t ⟨_, _, rfl⟩ h1 h2
theorem toInt64SS_T {v : PV} {xs : List (List Int)} (hI : FII v xs) (sz : SzL xs) (hk : ∀ v t, FII v xs → Own σ.top t v → σ.top ≤ t → K v (σ.up t)) : PCalls Tryz.prog 23 [v] σ K := by
  obtain ⟨w, a, rs, rfl, hr⟩ := hI
  have hb := sz.l
  refine PCalls.gh ?_
  refine pcalls_of_vp mix Tryz.func23 cf23 rfl ?_
  dsimp only [if23, qI, eI, nI, qD, eD]
  simp only [pwA, if_true, if_false, eq_self, nm_eq, reduceCtorEq, ↓reduceIte, nQ10, nQ7, nQ11, nQ12, nQ16, nQ17, nQ18, iQ2, iQ3, iQ4, iQ5, iQ6, lQ19, iQ7, lQ20, mk24 (n := xs.length) (by omega), mkL (n := xs.length) (by omega)]
  refine vp_loop (fun m vs h' => ∃ i : Nat, i ≤ xs.length ∧ m = xs.length - i ∧ vs = [.fz w a xs.length rs, .sl σ.next 0 xs.length (.known xs.length), .int .i64 i] ∧ ∃ rows t, rows.length = i ∧ All2 FI rows (xs.take i) ∧ Owns σ.top t rows ∧ σ.top ≤ t ∧ h' = (σ.new (rows ++ List.replicate (xs.length - i) (.fz true .nils 0 []))).up t) xs.length ?_ ?_
  · exact ⟨0, by omega, by omega, rfl, [], σ.top, rfl, by simpa using All2.nil _, Owns.nil _ _, Nat.le_refl _, by simp [PHeap.up, PHeap.new]⟩
  rintro m vs h' ⟨i, hi, rfl, rfl, rows, t, hrl, hra, hro, htt, rfl⟩
  simp only [pwA, if_true, if_false, eq_self, nm_eq, reduceCtorEq, ↓reduceIte, nQ10, nQ7, nQ11, nQ12, nQ16, nQ17, nQ18, iQ2, iQ3, iQ4, iQ5, iQ6, lQ19, iQ7, lQ20]
  refine iteI (fun hlt => ?_) fun hge => ?_
  · obtain ⟨w4, a4, hrk⟩ := hr.rowI hlt
    simp only [pwA, if_true, if_false, eq_self, nm_eq, reduceCtorEq, ↓reduceIte, nQ10, nQ7, nQ11, nQ12, nQ16, nQ17, nQ18, iQ2, iQ3, iQ4, iQ5, iQ6, lQ19, iQ7, lQ20, hlt, hrk]
    refine toInt64S_T ⟨_, _, rfl⟩ (sz.r _ (List.getElem_mem hlt)) fun r t2 hr' ho' ht' => ?_
    have hlen : i + 1 ≤ (rows ++ List.replicate (xs.length - i) (PV.fz true .nils 0 [])).length := by simp; omega
    simp only [pwA, if_true, if_false, eq_self, nm_eq, reduceCtorEq, ↓reduceIte, nQ10, nQ7, nQ11, nQ12, nQ16, nQ17, nQ18, iQ2, iQ3, iQ4, iQ5, iQ6, lQ19, iQ7, lQ20, hlt, hlen, hr'.cells, hr'.one, wrapS hlt (by omega : xs.length ≤ 4611686018427387904)]
    refine ⟨_, by omega, i + 1, by omega, rfl, rfl, rows ++ [r], t2, by simp [hrl], ?_, hro.snoc ho' htt ht', Nat.le_trans htt ht', ?_⟩
    · rw [List.take_succ_eq_append_getElem hlt]; exact hra.snoc hr'
    · rw [rows_set hrl hlt]; rfl
  · have hie : i = xs.length := by omega
    subst hie
    rw [List.take_length] at hra
    rw [Nat.sub_self, List.replicate_zero, List.append_nil]
    exact Gh.own ((keep_new σ _).up htt) (by simp only [pwA, if_true, if_false, eq_self, nm_eq, reduceCtorEq, ↓reduceIte, nQ10, nQ7, nQ11, nQ12, nQ16, nQ17, nQ18, iQ2, iQ3, iQ4, iQ5, iQ6, lQ19, iQ7, lQ20]) (Nat.le_refl _) (hra.bI 0) (by simp [capOK]) hro fun o t h1 h2 => hk _ t ⟨_, _, _, rfl, hra⟩ h1 h2
theorem toInt64SSS_T {v : PV} {xs : List (List (List Int))} (hI : FIII v xs) (sz : SzM xs) (hk : ∀ v t, FIII v xs → Own σ.top t v → σ.top ≤ t → K v (σ.up t)) : PCalls Tryz.prog 33 [v] σ K := by
  obtain ⟨w, a, rs, rfl, hr⟩ := hI
  have hb := sz.l
  refine PCalls.gh ?_
  refine pcalls_of_vp mix Tryz.func33 cf33 rfl ?_
  dsimp only [if33, qI, eI, nI, qD, eD]
  simp only [pwA, if_true, if_false, eq_self, nm_eq, reduceCtorEq, ↓reduceIte, nQ10, nQ7, nQ11, nQ12, nQ16, nQ17, nQ18, iQ2, iQ3, iQ4, iQ5, iQ6, lQ19, iQ7, lQ20, mk24 (n := xs.length) (by omega), mkL (n := xs.length) (by omega)]
  refine vp_loop (fun m vs h' => ∃ i : Nat, i ≤ xs.length ∧ m = xs.length - i ∧ vs = [.fz w a xs.length rs, .sl σ.next 0 xs.length (.known xs.length), .int .i64 i] ∧ ∃ rows t, rows.length = i ∧ All2 FII rows (xs.take i) ∧ Owns σ.top t rows ∧ σ.top ≤ t ∧ h' = (σ.new (rows ++ List.replicate (xs.length - i) (.fz true .nils 0 []))).up t) xs.length ?_ ?_
  · exact ⟨0, by omega, by omega, rfl, [], σ.top, rfl, by simpa using All2.nil _, Owns.nil _ _, Nat.le_refl _, by simp [PHeap.up, PHeap.new]⟩
  rintro m vs h' ⟨i, hi, rfl, rfl, rows, t, hrl, hra, hro, htt, rfl⟩
  simp only [pwA, if_true, if_false, eq_self, nm_eq, reduceCtorEq, ↓reduceIte, nQ10, nQ7, nQ11, nQ12, nQ16, nQ17, nQ18, iQ2, iQ3, iQ4, iQ5, iQ6, lQ19, iQ7, lQ20]
  refine iteI (fun hlt => ?_) fun hge => ?_
  · obtain ⟨w4, a4, rk, hrk, hrs⟩ := hr.rowL hlt
    simp only [pwA, if_true, if_false, eq_self, nm_eq, reduceCtorEq, ↓reduceIte, nQ10, nQ7, nQ11, nQ12, nQ16, nQ17, nQ18, iQ2, iQ3, iQ4, iQ5, iQ6, lQ19, iQ7, lQ20, hlt, hrk]
    refine toInt64SS_T ⟨_, _, _, rfl, hrs⟩ (sz.r _ (List.getElem_mem hlt)) fun r t2 hr' ho' ht' => ?_
    have hlen : i + 1 ≤ (rows ++ List.replicate (xs.length - i) (PV.fz true .nils 0 [])).length := by simp; omega
    simp only [pwA, if_true, if_false, eq_self, nm_eq, reduceCtorEq, ↓reduceIte, nQ10, nQ7, nQ11, nQ12, nQ16, nQ17, nQ18, iQ2, iQ3, iQ4, iQ5, iQ6, lQ19, iQ7, lQ20, hlt, hlen, hr'.cells, hr'.one, wrapS hlt (by omega : xs.length ≤ 4611686018427387904)]
    refine ⟨_, by omega, i + 1, by omega, rfl, rfl, rows ++ [r], t2, by simp [hrl], ?_, hro.snoc ho' htt ht', Nat.le_trans htt ht', ?_⟩
    · rw [List.take_succ_eq_append_getElem hlt]; exact hra.snoc hr'
    · rw [rows_set hrl hlt]; rfl
  · have hie : i = xs.length := by omega
    subst hie
    rw [List.take_length] at hra
    rw [Nat.sub_self, List.replicate_zero, List.append_nil]
    exact Gh.own ((keep_new σ _).up htt) (by simp only [pwA, if_true, if_false, eq_self, nm_eq, reduceCtorEq, ↓reduceIte, nQ10, nQ7, nQ11, nQ12, nQ16, nQ17, nQ18, iQ2, iQ3, iQ4, iQ5, iQ6, lQ19, iQ7, lQ20]) (Nat.le_refl _) (hra.bL 0) (by simp [capOK]) hro fun o t h1 h2 => hk _ t ⟨_, _, _, rfl, hra⟩ h1 h2
end
end Go.Proofs
namespace Go.Proofs
open Go.Ab Go.Lie
variable {σ : PHeap} {K : PV → PHeap → Prop} {p : Int} {n c m k : Nat} {W : List (List Int)} {B : List (List (List Int))} {vP vB vL : PV} {s : Nat} {x y u v : List Int} {vx vy : PV} {xs : List (List Int)}
theorem totR_bd (sz : SzR W B) : totR W B ≤ 1153000000000000000 := by
  have h1 := totL_bd (m := 1048576) (len := List.length) sz.w
  have h2 : ∀ q ∈ B, totL List.length q ≤ 1099511627776 := fun q hq => by
    have h3 := totL_bd (m := 1048576) (len := List.length) (sz.c q hq)
    have h4 := sz.b q hq
    omega
  have h3 := totL_bd (m := 1099511627776) (len := totL List.length) h2
  have h4 := sz.Wl
  have h5 := sz.Bl
  unfold totR
  omega
end Go.Proofs
namespace Go.Proofs
open Go.Ab Go.Lie
variable {σ : PHeap} {K : PV → PHeap → Prop} {p : Int} {n c m k : Nat} {W : List (List Int)} {B : List (List (List Int))} {vP vB vL : PV} {s : Nat} {x y u v : List Int} {vx vy : PV} {xs : List (List Int)}
theorem pisA {i : Nat} (h : i < x.length) : (pis x)[i]? = some (.int .i64 (at_ x i)) := by rw [pis_get, gi h, at_eq h]; rfl
end Go.Proofs
namespace Go.Proofs
open Go.Ab Go.Lie
variable {σ : PHeap} {K : PV → PHeap → Prop} {n : Nat} {p : Int}
structure LS where
  s : Nat
  cap : Cap
  cs : List PV
def LS.pv (q : LS) : PV := .sl q.s 0 q.cs.length q.cap
def LS.ok (h : PHeap) (b : Nat) (q : LS) : Prop := full 1 q.cap q.cs.length ∧ h.obj q.s = some q.cs ∧ b ≤ q.s ∧ q.s < h.next
def LS.pvo : Option LS → PV
  | none => .fz true .nils 0 []
  | some q => q.pv
def LS.slots : List (Option LS) → List Nat
  | [] => []
  | none :: ls => LS.slots ls
  | some q :: ls => q.s :: LS.slots ls
theorem LS.slots_app : ∀ (a b : List (Option LS)), LS.slots (a ++ b) = LS.slots a ++ LS.slots b
  | [], b => rfl
  | none :: a, b => by simp only [List.cons_append, LS.slots, LS.slots_app a b]
  | some q :: a, b => by simp only [List.cons_append, LS.slots, LS.slots_app a b]
theorem LS.mem_slots {s : Nat} : ∀ {ls : List (Option LS)}, s ∈ LS.slots ls ↔ ∃ q, some q ∈ ls ∧ q.s = s
  | [] => by simp [LS.slots]
  | none :: ls => by simp [LS.slots, LS.mem_slots (ls := ls)]
  | some q :: ls => by
    simp only [LS.slots, List.mem_cons, LS.mem_slots (ls := ls)]
    constructor
    · rintro (rfl | ⟨q', h1, h2⟩)
      · exact ⟨q, .inl rfl, rfl⟩
      · exact ⟨q', .inr h1, h2⟩
    · rintro ⟨q', h1 | h1, h2⟩
      · cases h1; exact .inl h2.symm
      · exact .inr ⟨q', h1, h2⟩
theorem LS.ok.move {h h2 : PHeap} {b : Nat} {q : LS} (a : q.ok h b) (ho : h2.obj q.s = h.obj q.s) (hn : h.next ≤ h2.next) : q.ok h2 b := ⟨a.1, by rw [ho]; exact a.2.1, a.2.2.1, Nat.lt_of_lt_of_le a.2.2.2 hn⟩
theorem pacc_move {b e m : Nat} {h h2 : PHeap} {v : PV} {cs : List PV} (a : PAcc b e h v m cs) (ho : ∀ s off l c, v = .sl s off l c → h2.obj s = h.obj s) (hn : h.next ≤ h2.next) : PAcc b e h2 v m cs := by
  rcases a with a | ⟨s, cap, rfl, h1, h2', h3, h4, h5⟩
  · exact .inl a
  · exact .inr ⟨s, cap, rfl, h1, by rw [ho s 0 _ cap rfl]; exact h2', h3, h4, Nat.lt_of_lt_of_le h5 hn⟩
theorem pacc_lt {b e m : Nat} {h : PHeap} {v : PV} {cs : List PV} (a : PAcc b e h v m cs) {s off l : Nat} {c : Cap} (hv : v = .sl s off l c) : s < h.next := by
  rcases a with ⟨rfl, _⟩ | ⟨s', cap, rfl, h1, h2', h3, h4, h5⟩
  · cases hv
  · cases hv; exact h5
structure TI (σ h : PHeap) (p0 sO : Nat) (vO vP vC : PV) (cO pc : List PV) (ls : List (Option LS)) : Prop where
  keep : Keep σ h
  obj : h.obj p0 = some [vO, vP, vC]
  p0b : σ.next ≤ p0 ∧ p0 < h.next
  oO : h.obj sO = some cO
  sOb : σ.next ≤ sO ∧ sO < h.next
  pO : p0 ≠ sO
  accP : PAcc σ.next 1 h vP pc.length pc
  accC : PAcc σ.next 1 h vC ls.length (ls.map LS.pvo)
  ok : ∀ q, some q ∈ ls → q.ok h σ.next
  nd : (LS.slots ls).Nodup
  neP : ∀ s, s ∈ LS.slots ls ∨ s = p0 ∨ s = sO → ∀ off l c, vP ≠ .sl s off l c
  neC : ∀ s, s ∈ LS.slots ls ∨ s = p0 ∨ s = sO → ∀ off l c, vC ≠ .sl s off l c
  neL : p0 ∉ LS.slots ls ∧ sO ∉ LS.slots ls
  nePC : ∀ s off l c, vP = .sl s off l c → ∀ off l c, vC ≠ .sl s off l c
variable {h : PHeap} {p0 sO : Nat} {vO vP vC : PV} {cO pc : List PV} {ls : List (Option LS)}
theorem TI.lt (a : TI σ h p0 sO vO vP vC cO pc ls) {s : Nat} (hs : s ∈ LS.slots ls) : σ.next ≤ s ∧ s < h.next := by
  obtain ⟨q, hq, rfl⟩ := LS.mem_slots.1 hs
  have := a.ok q hq
  exact ⟨this.2.2.1, this.2.2.2⟩
theorem TI.keepI {h2 : PHeap} (a : TI σ h p0 sO vO vP vC cO pc ls) (k : Keep h h2) : TI σ h2 p0 sO vO vP vC cO pc ls :=
  ⟨a.keep.trans k, by rw [k.obj _ a.p0b.2]; exact a.obj, ⟨a.p0b.1, Nat.lt_of_lt_of_le a.p0b.2 k.next⟩, by rw [k.obj _ a.sOb.2]; exact a.oO, ⟨a.sOb.1, Nat.lt_of_lt_of_le a.sOb.2 k.next⟩, a.pO, a.accP.keep k, a.accC.keep k,
   fun q hq => (a.ok q hq).move (k.obj _ (a.ok q hq).2.2.2) k.next, a.nd, a.neP, a.neC, a.neL, a.nePC⟩
theorem TI.pushP {K : PV × PHeap → Prop} {row : PV} (a : TI σ h p0 sO vO vP vC cO pc ls) (hone : vO.one = true ∧ vC.one = true) (hb : pc.length ≤ 1000)
    (k : ∀ v' h2, v'.one = true → v'.cells = [v'] → h2.wr p0 1 [v'] = some (h2.set p0 [vO, v', vC]) → TI σ (h2.set p0 [vO, v', vC]) p0 sO vO v' vC cO (pc ++ [row]) ls → h.next < h2.next → K (v', h2)) :
    optK (pappend 1 24 (h.new [row]) vP (.sl h.next 0 1 (.known 1))) K := by
  refine PAcc.pushS (σb := σ) (bytes := 24) a.keep a.accP rfl (by omega) (by omega) fun v' h2 k2 a2 o2 n2 l2 => ?_
  have hp := a.p0b
  have hs := a.sOb
  have hob : h2.obj p0 = some [vO, vP, vC] := by rw [o2 _ hp.2 (a.neP _ (.inr (.inl rfl)))]; exact a.obj
  refine k v' h2 a2.one a2.cells (by rw [obj_wr hob, if_pos ⟨by simp, by simp [a2.one]⟩]; rfl) ⟨k2.set hp.1 _, by rw [pobj_set, if_pos rfl], ⟨hp.1, by show p0 < h2.next; omega⟩, ?_, ⟨hs.1, by show sO < h2.next; omega⟩, a.pO, ?_, ?_, fun q hq => ?_, a.nd, fun s hs => ?_, a.neC, a.neL, fun s off l c e => ?_⟩ l2
  · rw [pobj_set, if_neg (Ne.symm a.pO), o2 _ hs.2 (a.neP _ (.inr (.inr rfl)))]; exact a.oO
  · have a3 : PAcc σ.next 1 (h2.set p0 [vO, v', vC]) v' (pc.length + 1) (pc ++ [row]) := pacc_move a2.acc (fun s off l c e => by rw [pobj_set, if_neg fun e2 => n2 p0 hp.2 off l c (by rw [e, e2])]) (Nat.le_refl _)
    simpa using a3
  · refine pacc_move a.accC (fun s off l c e => ?_) (Nat.le_of_lt l2)
    have hsp : s ≠ p0 := fun e2 => a.neC p0 (.inr (.inl rfl)) off l c (by rw [e, e2])
    rw [pobj_set, if_neg hsp, o2 s (pacc_lt a.accC e) fun off' l' c' e' => a.nePC s off' l' c' e' off l c e]
  · have hq' := a.ok q hq
    have hm : q.s ∈ LS.slots ls := LS.mem_slots.2 ⟨q, hq, rfl⟩
    refine hq'.move ?_ (Nat.le_of_lt l2)
    rw [pobj_set, if_neg fun e => a.neL.1 (by rw [← e]; exact hm), o2 _ hq'.2.2.2 (a.neP _ (.inl hm))]
  · have : s < h.next := by
      rcases hs with hs | rfl | rfl
      · exact (a.lt hs).2
      · exact hp.2
      · omega
    exact n2 s this
  · intro off' l' c' e'
    exact n2 s (pacc_lt a.accC e') off l c e
theorem TI.pushC {K : PV × PHeap → Prop} {o : Option LS} (a : TI σ h p0 sO vO vP vC cO pc ls) (hone : vO.one = true ∧ vP.one = true) (hb : ls.length ≤ 1000)
    (ho : ∀ q, o = some q → q.ok h σ.next ∧ q.s ∉ LS.slots ls ∧ q.s ≠ p0 ∧ q.s ≠ sO ∧ (∀ off l c, vP ≠ .sl q.s off l c) ∧ ∀ off l c, vC ≠ .sl q.s off l c)
    (k : ∀ v' h2, v'.one = true → v'.cells = [v'] → h2.wr p0 2 [v'] = some (h2.set p0 [vO, vP, v']) → TI σ (h2.set p0 [vO, vP, v']) p0 sO vO vP v' cO pc (ls ++ [o]) → h.next < h2.next → K (v', h2)) :
    optK (pappend 1 24 (h.new [LS.pvo o]) vC (.sl h.next 0 1 (.known 1))) K := by
  refine PAcc.pushS (σb := σ) (bytes := 24) a.keep a.accC rfl (by omega) (by omega) fun v' h2 k2 a2 o2 n2 l2 => ?_
  have hp := a.p0b
  have hs := a.sOb
  have hob : h2.obj p0 = some [vO, vP, vC] := by rw [o2 _ hp.2 (a.neC _ (.inr (.inl rfl)))]; exact a.obj
  have mo : ∀ s, s ∈ LS.slots (ls ++ [o]) → s ∈ LS.slots ls ∨ ∃ q, o = some q ∧ q.s = s := fun s hs => by
    rw [LS.slots_app, List.mem_append] at hs
    refine hs.imp id fun hs => ?_
    obtain ⟨q, hq, e⟩ := LS.mem_slots.1 hs
    exact ⟨q, (List.mem_singleton.1 hq).symm, e⟩
  refine k v' h2 a2.one a2.cells (by rw [obj_wr hob, if_pos ⟨by simp, by simp [a2.one]⟩]; rfl) ⟨k2.set hp.1 _, by rw [pobj_set, if_pos rfl], ⟨hp.1, by show p0 < h2.next; omega⟩, ?_, ⟨hs.1, by show sO < h2.next; omega⟩, a.pO, ?_, ?_, fun q hq => ?_, ?_, fun s hs => ?_, fun s hs => ?_, ⟨fun hm => ?_, fun hm => ?_⟩, fun s off l c e => ?_⟩ l2
  · rw [pobj_set, if_neg (Ne.symm a.pO), o2 _ hs.2 (a.neC _ (.inr (.inr rfl)))]; exact a.oO
  · refine pacc_move a.accP (fun s off l c e => ?_) (Nat.le_of_lt l2)
    have hsp : s ≠ p0 := fun e2 => a.neP p0 (.inr (.inl rfl)) off l c (by rw [e, e2])
    rw [pobj_set, if_neg hsp, o2 s (pacc_lt a.accP e) (a.nePC s off l c e)]
  · have a3 : PAcc σ.next 1 (h2.set p0 [vO, vP, v']) v' (ls.length + 1) (ls.map LS.pvo ++ [LS.pvo o]) := pacc_move a2.acc (fun s off l c e => by rw [pobj_set, if_neg fun e2 => n2 p0 hp.2 off l c (by rw [e, e2])]) (Nat.le_refl _)
    simpa using a3
  · rcases List.mem_append.1 hq with hq | hq
    · have hq' := a.ok q hq
      have hm : q.s ∈ LS.slots ls := LS.mem_slots.2 ⟨q, hq, rfl⟩
      refine hq'.move ?_ (Nat.le_of_lt l2)
      rw [pobj_set, if_neg fun e => a.neL.1 (by rw [← e]; exact hm), o2 _ hq'.2.2.2 (a.neC _ (.inl hm))]
    · obtain ⟨h1, h3, h4, h5, h6, h7⟩ := ho q (List.mem_singleton.1 hq).symm
      refine h1.move ?_ (Nat.le_of_lt l2)
      rw [pobj_set, if_neg h4, o2 _ h1.2.2.2 h7]
  · rw [LS.slots_app, List.nodup_append]
    refine ⟨a.nd, ?_, fun x hx y hy e => ?_⟩
    · cases o <;> simp [LS.slots]
    · cases o with
      | none => cases hy
      | some q =>
        simp only [LS.slots, List.mem_singleton] at hy
        exact (ho q rfl).2.1 (by rw [← hy, ← e]; exact hx)
  · rcases hs with hs | hs
    · rcases mo s hs with hs | ⟨q, e, rfl⟩
      · exact a.neP s (.inl hs)
      · exact (ho q e).2.2.2.2.1
    · exact a.neP s (.inr hs)
  · have : s < h.next := by
      rcases hs with hs | rfl | rfl
      · rcases mo s hs with hs | ⟨q, e, rfl⟩
        · exact (a.lt hs).2
        · exact (ho q e).1.2.2.2
      · exact hp.2
      · omega
    exact n2 s this
  · rcases mo _ hm with hm | ⟨q, e, e2⟩
    · exact a.neL.1 hm
    · exact (ho q e).2.2.1 e2
  · rcases mo _ hm with hm | ⟨q, e, e2⟩
    · exact a.neL.2 hm
    · exact (ho q e).2.2.2.1 e2
  · exact n2 s (pacc_lt a.accP e)
end Go.Proofs
namespace Go.Proofs
open Go.Ab Go.Lie
variable {σ h : PHeap} {K : PV → PHeap → Prop} {n : Nat} {p : Int} {p0 sO : Nat} {vO vP vC : PV} {cO pc : List PV} {ls : List (Option LS)} {O : List Int}
def LShape (n : Nat) (ls : List (Option LS)) : Prop := ∀ j (h : j < ls.length), (j + 1 = n → ls[j] = none) ∧ (j + 1 < n → ∃ q, ls[j] = some q ∧ q.cs.length = n - 1 - j)
theorem LShape.snoc {o : Option LS} (h : LShape n ls) (h1 : ls.length + 1 = n → o = none) (h2 : ls.length + 1 < n → ∃ q, o = some q ∧ q.cs.length = n - 1 - ls.length) : LShape n (ls ++ [o]) := by
  intro j hj
  rw [List.length_append, List.length_singleton] at hj
  rcases Nat.lt_or_ge j ls.length with x | x
  · rw [List.getElem_append_left x]; exact h j x
  · have e : j = ls.length := by omega
    subst e
    rw [List.getElem_append_right (Nat.le_refl _)]
    simp only [Nat.sub_self, List.getElem_cons_zero]
    exact ⟨h1, h2⟩
end Go.Proofs
namespace Go.Proofs
open Go.Ab Go.Lie
variable {σ H h : PHeap} {K : PV → PHeap → Prop} {n : Nat} {p : Int} {tp sO sP sC : Nat} {vO : PV} {pc cO : List PV} {ls : List (Option LS)} {O x : List Int} {capO capP capC cap : Cap} {rows cur : List SR} {Rs : List (List SR)}
structure BF (σ H : PHeap) (tp sO sP sC : Nat) (ls : List (Option LS)) : Prop where
  b : ∀ s, s ∈ [tp, sO, sP, sC] ++ LS.slots ls → σ.next ≤ s ∧ s < H.next
  nd : ([tp, sO, sP, sC] ++ LS.slots ls).Nodup
def cont (Rs : List (List SR)) (cur : List SR) (j : Nat) (q : LS) : List PV :=
  if j < Rs.length then (Rs.getD j []).map SR.pv else if j = Rs.length then cur.map SR.pv ++ q.cs.drop cur.length else q.cs
structure LI (σ H h : PHeap) (tp sO sP sC : Nat) (vO : PV) (capP capC : Cap) (n : Nat) (cO : List PV) (pc : List PV) (ls : List (Option LS)) (rows : List SR) (Rs : List (List SR)) (cur : List SR) : Prop where
  keep : Keep σ h
  nx : H.next ≤ h.next
  tpo : h.obj tp = some [vO, .sl sP 0 n capP, .sl sC 0 n capC]
  oO : h.obj sO = some cO
  oP : h.obj sP = some (rows.map SR.pv ++ pc.drop rows.length)
  oC : h.obj sC = some (ls.map LS.pvo)
  oL : ∀ j q, ls[j]? = some (some q) → h.obj q.s = some (cont Rs cur j q)
  ok : ∀ q, q ∈ rows ∨ q ∈ Rs.flatten ∨ q ∈ cur → q.ok h H.next
  nd : (slotsR (rows ++ (Rs.flatten ++ cur))).Nodup
theorem LS.mem_of_get {j : Nat} {q : LS} (h : ls[j]? = some (some q)) : q.s ∈ LS.slots ls := LS.mem_slots.2 ⟨q, List.mem_of_getElem? h, rfl⟩
theorem LI.keepI {h2 : PHeap} (b : BF σ H tp sO sP sC ls) (a : LI σ H h tp sO sP sC vO capP capC n cO pc ls rows Rs cur) (k : Keep h h2) : LI σ H h2 tp sO sP sC vO capP capC n cO pc ls rows Rs cur := by
  have hn := a.nx
  have o : ∀ s, s ∈ [tp, sO, sP, sC] ++ LS.slots ls → h2.obj s = h.obj s := fun s hs => k.obj s (by have := (b.b s hs).2; omega)
  refine ⟨a.keep.trans k, Nat.le_trans a.nx k.next, by rw [o tp (by simp)]; exact a.tpo, by rw [o sO (by simp)]; exact a.oO, by rw [o sP (by simp)]; exact a.oP, by rw [o sC (by simp)]; exact a.oC, fun j q hq => ?_, fun q hq => (a.ok q hq).keep k, a.nd⟩
  rw [o q.s (List.mem_append.2 (.inr (LS.mem_of_get hq)))]; exact a.oL j q hq
theorem LS.slots_inj : ∀ {ls : List (Option LS)} {i j : Nat} {q q' : LS}, (LS.slots ls).Nodup → ls[i]? = some (some q) → ls[j]? = some (some q') → q.s = q'.s → i = j
  | [], i, j, q, q', _, h, _, _ => by simp at h
  | o :: ls, 0, 0, q, q', _, _, _, _ => rfl
  | none :: ls, 0, j + 1, q, q', _, h, _, _ => by simp at h
  | none :: ls, i + 1, 0, q, q', _, _, h, _ => by simp at h
  | some r :: ls, 0, j + 1, q, q', hn, h, g, e => by
    simp only [List.getElem?_cons_zero, Option.some.injEq, List.getElem?_cons_succ, LS.slots, List.nodup_cons] at h g hn
    subst h
    exact absurd (LS.mem_of_get g) (by rw [← e]; exact hn.1)
  | some r :: ls, i + 1, 0, q, q', hn, h, g, e => by
    simp only [List.getElem?_cons_zero, Option.some.injEq, List.getElem?_cons_succ, LS.slots, List.nodup_cons] at h g hn
    subst g
    exact absurd (LS.mem_of_get h) (by rw [e]; exact hn.1)
  | none :: ls, i + 1, j + 1, q, q', hn, h, g, e => by have := LS.slots_inj (ls := ls) hn (by simpa using h) (by simpa using g) e; omega
  | some r :: ls, i + 1, j + 1, q, q', hn, h, g, e => by
    simp only [LS.slots, List.nodup_cons] at hn
    have := LS.slots_inj (ls := ls) hn.2 (by simpa using h) (by simpa using g) e
    omega
theorem drop_mid {a b : List PV} : (a ++ b).drop (a.length + 1) = b.drop 1 := by
  rw [← List.drop_drop, List.drop_left']; rfl
theorem sr_put {q : SR} {s : Nat} {cs : List PV} (a : q.ok h H.next) (hs : s < H.next) : q.ok (h.set s cs) H.next := ⟨a.1, by rw [pobj_set, if_neg (by have := a.2.2.1; omega)]; exact a.2.1, a.2.2.1, a.2.2.2⟩
theorem mem_rows {q : SR} (hq : q ∈ rows ++ (Rs.flatten ++ cur)) : q ∈ rows ∨ q ∈ Rs.flatten ∨ q ∈ cur := by
  simpa only [List.mem_append] using hq
theorem LI.fresh (a : LI σ H h tp sO sP sC vO capP capC n cO pc ls rows Rs cur) : h.next ∉ slotsR (rows ++ (Rs.flatten ++ cur)) := fun hm => by
  obtain ⟨q, hq, e⟩ := List.mem_map.1 hm
  have := (a.ok q (mem_rows hq)).2.2.2
  omega
theorem LI.putP (b : BF σ H tp sO sP sC ls) (a : LI σ H h tp sO sP sC vO capP capC n cO pc ls rows Rs cur) (hf : full 1 cap x.length) (hl : rows.length < pc.length) :
    (h.new (pis x)).wr sP rows.length [.sl h.next 0 x.length cap] = some ((h.new (pis x)).set sP ((rows ++ [(⟨h.next, cap, x⟩ : SR)]).map SR.pv ++ pc.drop (rows.length + 1))) ∧
    LI σ H ((h.new (pis x)).set sP ((rows ++ [(⟨h.next, cap, x⟩ : SR)]).map SR.pv ++ pc.drop (rows.length + 1))) tp sO sP sC vO capP capC n cO pc ls (rows ++ [(⟨h.next, cap, x⟩ : SR)]) Rs cur := by
  have a1 := a.keepI b (keep_new h (pis x))
  have hnx := a.nx
  have bP := b.b sP (by simp)
  have nd := b.nd
  simp only [List.cons_append, List.nil_append, List.nodup_cons, List.mem_cons, not_or] at nd
  obtain ⟨⟨n1, n2, n3, n4⟩, ⟨n5, n6, n7⟩, ⟨n8, n9⟩, _⟩ := nd
  have ob := a1.oP
  refine ⟨?_, a1.keep.set bP.1 _, a1.nx, by rw [pobj_set, if_neg n2]; exact a1.tpo, by rw [pobj_set, if_neg n5]; exact a1.oO, by rw [pobj_set, if_pos rfl, List.length_append, List.length_singleton], by rw [pobj_set, if_neg (Ne.symm n8)]; exact a1.oC, fun j q hq => ?_, fun q hq => ?_, ?_⟩
  · rw [obj_wr ob, if_pos ⟨by simp only [List.length_append, List.length_map, List.length_drop, List.length_singleton]; omega, rfl⟩]
    congr 2
    have e1 : (rows.map SR.pv ++ pc.drop rows.length).take rows.length = rows.map SR.pv := by
      have : (rows.map SR.pv).length = rows.length := List.length_map _
      rw [← this, List.take_left']; rfl
    have e2 : (rows.map SR.pv ++ pc.drop rows.length).drop (rows.length + 1) = pc.drop (rows.length + 1) := by
      have := drop_mid (a := rows.map SR.pv) (b := pc.drop rows.length)
      rwa [List.length_map, List.drop_drop] at this
    rw [List.length_singleton, e1, e2, List.map_append]; rfl
  · have hm := LS.mem_of_get hq
    rw [pobj_set, if_neg fun e => n9 (by rw [← e]; exact hm)]
    exact a1.oL j q hq
  · have new : SR.ok (h.new (pis x)) H.next (⟨h.next, cap, x⟩ : SR) := ⟨hf, by rw [pobj_new, if_pos rfl], hnx, Nat.lt_succ_self _⟩
    rcases hq with hq | hq
    · rcases List.mem_append.1 hq with hq | hq
      · exact sr_put (a1.ok q (.inl hq)) bP.2
      · rw [List.mem_singleton.1 hq]; exact sr_put new bP.2
    · exact sr_put (a1.ok q (.inr hq)) bP.2
  · have hp : (slotsR ((rows ++ [(⟨h.next, cap, x⟩ : SR)]) ++ (Rs.flatten ++ cur))).Perm (h.next :: slotsR (rows ++ (Rs.flatten ++ cur))) := by
      simp only [slotsR, List.append_assoc, List.map_append, List.map_cons, List.map_nil, List.cons_append, List.nil_append]
      exact List.perm_middle
    exact hp.nodup_iff.2 (List.nodup_cons.2 ⟨a.fresh, a.nd⟩)
theorem LI.putC {q0 : LS} (b : BF σ H tp sO sP sC ls) (a : LI σ H h tp sO sP sC vO capP capC n cO pc ls rows Rs cur) (hf : full 1 cap x.length) (hq0 : ls[Rs.length]? = some (some q0)) (hl : cur.length < q0.cs.length) :
    (h.new (pis x)).wr q0.s cur.length [.sl h.next 0 x.length cap] = some ((h.new (pis x)).set q0.s ((cur ++ [(⟨h.next, cap, x⟩ : SR)]).map SR.pv ++ q0.cs.drop (cur.length + 1))) ∧
    LI σ H ((h.new (pis x)).set q0.s ((cur ++ [(⟨h.next, cap, x⟩ : SR)]).map SR.pv ++ q0.cs.drop (cur.length + 1))) tp sO sP sC vO capP capC n cO pc ls rows Rs (cur ++ [(⟨h.next, cap, x⟩ : SR)]) := by
  have a1 := a.keepI b (keep_new h (pis x))
  have hnx := a.nx
  have hm0 := LS.mem_of_get hq0
  have bP := b.b q0.s (List.mem_append.2 (.inr hm0))
  have nd := b.nd
  simp only [List.cons_append, List.nil_append, List.nodup_cons, List.mem_cons, not_or] at nd
  obtain ⟨⟨n1, n2, n3, n4⟩, ⟨n5, n6, n7⟩, ⟨n8, n9⟩, n10, n11⟩ := nd
  have ob := a1.oL _ _ hq0
  have hc : cont Rs cur Rs.length q0 = cur.map SR.pv ++ q0.cs.drop cur.length := by unfold cont; rw [if_neg (Nat.lt_irrefl _), if_pos rfl]
  rw [hc] at ob
  refine ⟨?_, a1.keep.set bP.1 _, a1.nx, by rw [pobj_set, if_neg fun e => n4 (by rw [e]; exact hm0)]; exact a1.tpo, by rw [pobj_set, if_neg fun e => n7 (by rw [e]; exact hm0)]; exact a1.oO, by rw [pobj_set, if_neg fun e => n9 (by rw [e]; exact hm0)]; exact a1.oP, by rw [pobj_set, if_neg fun e => n10 (by rw [e]; exact hm0)]; exact a1.oC, fun j q hq => ?_, fun q hq => ?_, ?_⟩
  · rw [obj_wr ob, if_pos ⟨by simp only [List.length_append, List.length_map, List.length_drop, List.length_singleton]; omega, rfl⟩]
    congr 2
    have e1 : (cur.map SR.pv ++ q0.cs.drop cur.length).take cur.length = cur.map SR.pv := by
      have : (cur.map SR.pv).length = cur.length := List.length_map _
      rw [← this, List.take_left']; rfl
    have e2 : (cur.map SR.pv ++ q0.cs.drop cur.length).drop (cur.length + 1) = q0.cs.drop (cur.length + 1) := by
      have := drop_mid (a := cur.map SR.pv) (b := q0.cs.drop cur.length)
      rwa [List.length_map, List.drop_drop] at this
    rw [List.length_singleton, e1, e2, List.map_append]; rfl
  · by_cases e : j = Rs.length
    · subst e
      rw [hq0] at hq
      cases hq
      rw [pobj_set, if_pos rfl]
      unfold cont
      rw [if_neg (Nat.lt_irrefl _), if_pos rfl, List.length_append, List.length_singleton]
    · have hne : q.s ≠ q0.s := fun es => by
        exact e (LS.slots_inj n11 hq hq0 es)
      rw [pobj_set, if_neg hne, a1.oL j q hq]
      unfold cont
      rw [if_neg (show ¬ j = Rs.length from e), if_neg (show ¬ j = Rs.length from e)]
  · have new : SR.ok (h.new (pis x)) H.next (⟨h.next, cap, x⟩ : SR) := ⟨hf, by rw [pobj_new, if_pos rfl], hnx, Nat.lt_succ_self _⟩
    rcases hq with hq | hq | hq
    · exact sr_put (a1.ok q (.inl hq)) bP.2
    · exact sr_put (a1.ok q (.inr (.inl hq))) bP.2
    · rcases List.mem_append.1 hq with hq | hq
      · exact sr_put (a1.ok q (.inr (.inr hq))) bP.2
      · rw [List.mem_singleton.1 hq]; exact sr_put new bP.2
  · have hp : (slotsR (rows ++ (Rs.flatten ++ (cur ++ [(⟨h.next, cap, x⟩ : SR)])))).Perm (h.next :: slotsR (rows ++ (Rs.flatten ++ cur))) := by
      simp only [slotsR, List.map_append, List.map_cons, List.map_nil]
      rw [← List.append_assoc, ← List.append_assoc, List.append_assoc (List.map SR.s rows)]
      exact List.perm_append_singleton _ _
    exact hp.nodup_iff.2 (List.nodup_cons.2 ⟨a.fresh, a.nd⟩)
theorem LI.close (a : LI σ H h tp sO sP sC vO capP capC n cO pc ls rows Rs cur) (hl : ∀ q, ls[Rs.length]? = some (some q) → cur.length = q.cs.length) : LI σ H h tp sO sP sC vO capP capC n cO pc ls rows (Rs ++ [cur]) [] := by
  refine ⟨a.keep, a.nx, a.tpo, a.oO, a.oP, a.oC, fun j q hq => ?_, fun q hq => a.ok q ?_, ?_⟩
  · rw [a.oL j q hq]
    unfold cont
    rw [List.length_append, List.length_singleton]
    rcases Nat.lt_trichotomy j Rs.length with x | x | x
    · rw [if_pos x, if_pos (by omega)]
      simp [List.getD_eq_getElem?_getD, List.getElem?_append_left x]
    · subst x
      rw [if_neg (Nat.lt_irrefl _), if_pos rfl, if_pos (by omega), List.drop_of_length_le (by rw [hl q hq]; exact Nat.le_refl _)]
      simp [List.getD_eq_getElem?_getD]
    · rw [if_neg (by omega), if_neg (by omega), if_neg (by omega)]
      split <;> simp
  · rcases hq with hq | hq | hq
    · exact .inl hq
    · simp only [List.flatten_append, List.flatten_cons, List.flatten_nil, List.append_nil, List.mem_append] at hq
      exact .inr hq
    · cases hq
  · have := a.nd
    simpa [List.flatten_append] using this
end Go.Proofs
namespace Go.Proofs
open Go.Ab Go.Lie
variable {σ H h : PHeap} {K : PV → PHeap → Prop} {n : Nat} {a : Nat → Nat} {b : Nat} {tp sO sP sC : Nat} {vO : PV} {pc : List PV} {ls : List (Option LS)} {O x : List Int} {capO capP capC cap : Cap} {rows cur : List SR} {Rs : List (List SR)}
def lrT : Option LS → List SR → TR
  | none, _ => .nil
  | some q, R => TR.rows q.s q.cap R
def Fit1 : Option LS → List SR → Prop
  | none, R => R = []
  | some q, R => R.length = q.cs.length
def Fits (ls : List (Option LS)) (Rs : List (List SR)) : Prop := All2 Fit1 ls Rs
theorem Fits.tl {o : Option LS} {R : List SR} (h : Fits (o :: ls) (R :: Rs)) : Fit1 o R ∧ Fits ls Rs :=
  ⟨h.2 0 o R rfl rfl, by have := h.1; simpa using this, fun k a b ha hb => h.2 (k + 1) a b (by simpa using ha) (by simpa using hb)⟩
theorem lr_pvs : ∀ {ls : List (Option LS)} {Rs : List (List SR)}, Fits ls Rs → TR.pvs (List.zipWith lrT ls Rs) = ls.map LS.pvo
  | [], [], _ => rfl
  | [], R :: Rs, h => by have := h.1; simp at this
  | o :: ls, [], h => by have := h.1; simp at this
  | none :: ls, R :: Rs, h => by
    simp only [List.zipWith_cons_cons, TR.pvs, List.map_cons, lr_pvs h.tl.2]; rfl
  | some q :: ls, R :: Rs, h => by
    have hl : R.length = q.cs.length := h.tl.1
    simp only [List.zipWith_cons_cons, TR.pvs, List.map_cons, lr_pvs h.tl.2]
    simp only [lrT, TR.rows, TR.pv, LS.pvo, LS.pv, List.length_map, hl]
theorem lr_slots : ∀ {ls : List (Option LS)} {Rs : List (List SR)}, Fits ls Rs → (TR.slotss (List.zipWith lrT ls Rs)).Perm (LS.slots ls ++ slotsR Rs.flatten)
  | [], [], _ => List.Perm.refl _
  | [], R :: Rs, h => by have := h.1; simp at this
  | o :: ls, [], h => by have := h.1; simp at this
  | none :: ls, R :: Rs, h => by
    have hR : R = [] := h.tl.1
    subst hR
    simp only [List.zipWith_cons_cons, TR.slotss, lrT, TR.slots, List.nil_append, List.flatten_cons, LS.slots]
    exact lr_slots h.tl.2
  | some q :: ls, R :: Rs, h => by
    have ih := lr_slots h.tl.2
    simp only [List.zipWith_cons_cons, TR.slotss, lrT, TR.rows, TR.slots, TR.rows_slots, List.flatten_cons, LS.slots, List.cons_append]
    refine List.Perm.cons _ ?_
    have e : slotsR (R ++ Rs.flatten) = slotsR R ++ slotsR Rs.flatten := by simp [slotsR]
    rw [e]
    refine ((ih.append_left (slotsR R)).trans ?_)
    rw [← List.append_assoc, ← List.append_assoc]
    exact List.perm_append_comm.append_right _
theorem lr_oks : ∀ {ls : List (Option LS)} {Rs : List (List SR)}, (∀ (j : Nat) (o : Option LS) (R : List SR), ls[j]? = some o → Rs[j]? = some R → (lrT o R).ok h b) → TR.oks h b (List.zipWith lrT ls Rs)
  | [], _, _ => trivial
  | o :: ls, [], _ => trivial
  | o :: ls, R :: Rs, k => ⟨k 0 o R rfl rfl, lr_oks fun j o' R' h1 h2 => k (j + 1) o' R' (by simpa using h1) (by simpa using h2)⟩
theorem lr_all2 : ∀ {ls : List (Option LS)} {Rs : List (List SR)}, Fits ls Rs → All2 FII (TR.fzs a (List.zipWith lrT ls Rs)) (Rs.map fun R => R.map SR.x)
  | [], [], _ => All2.nil _
  | [], R :: Rs, h => by have := h.1; simp at this
  | o :: ls, [], h => by have := h.1; simp at this
  | o :: ls, R :: Rs, h => by
    have ih := lr_all2 h.tl.2
    refine ⟨by simp only [List.zipWith_cons_cons, TR.fzs, List.map_cons, List.length_cons, ih.1], fun k c y hc hy => ?_⟩
    cases k with
    | zero =>
      simp only [List.zipWith_cons_cons, TR.fzs, List.map_cons, List.getElem?_cons_zero, Option.some.injEq] at hc hy
      rw [← hc, ← hy]
      cases o with
      | none =>
        have hR : R = [] := h.tl.1
        subst hR
        exact ⟨true, .nils, [], rfl, All2.nil _⟩
      | some q => exact TR.rows_FII
    | succ k =>
      simp only [List.zipWith_cons_cons, TR.fzs, List.map_cons, List.getElem?_cons_succ] at hc hy
      exact ih.2 k c y hc hy
end Go.Proofs
namespace Go.Proofs
open Go.Ab Go.Lie
variable {σ H h : PHeap} {K : PV → PHeap → Prop} {n c : Nat} {p : Int} {W : List (List Int)} {B : List (List (List Int))} {vP vB : PV} {s : Nat}
theorem vp_abs {P : Program} {c : IC} {Q : Exit → PEnv → PHeap → Prop} {e : PEnv} {h : PHeap} (id : Nat) (J : PEnv → PHeap → Prop) (h1 : ∀ Q' : Exit → PEnv → PHeap → Prop, (∀ e h, J e h → Q' (.exit id) e h) → vp P c Q' e h) (h2 : ∀ e h, J e h → Q (.exit id) e h) : vp P c Q e h := h1 Q h2
end Go.Proofs
namespace Go.Proofs
open Go.Ab Go.Lie
variable {σ H h : PHeap} {K : PV → PHeap → Prop} {n c : Nat} {p : Int} {W : List (List Int)} {B : List (List (List Int))} {vP vB : PV} {s : Nat}
variable {T : PHeap} {p0 : Nat} {fs : List (PV × List PV)} {ls : List LS}
theorem psl_move {b e m : Nat} {h h2 : PHeap} {v : PV} {cs : List PV} (a : PSl b e h v m cs) (ho : ∀ s off l c, v = .sl s off l c → h2.obj s = h.obj s) (hn : h.next ≤ h2.next) : PSl b e h2 v m cs := by
  obtain ⟨s, cap, rfl, h1, h2', h3, h4, h5⟩ := a
  exact ⟨s, cap, rfl, h1, by rw [ho s 0 _ cap rfl]; exact h2', h3, h4, Nat.lt_of_lt_of_le h5 hn⟩
theorem psl_lt {b e m : Nat} {h : PHeap} {v : PV} {cs : List PV} (a : PSl b e h v m cs) {s off l : Nat} {c : Cap} (hv : v = .sl s off l c) : s < h.next := pacc_lt a.acc hv
theorem leafs_pvs : ∀ cs : List PV, TR.pvs (cs.map TR.leaf) = cs
  | [] => rfl
  | c :: cs => by simp only [List.map_cons, TR.pvs, TR.pv, leafs_pvs cs]
theorem leafs_fzs {a : Nat → Nat} : ∀ cs : List PV, TR.fzs a (cs.map TR.leaf) = cs
  | [] => rfl
  | c :: cs => by simp only [List.map_cons, TR.fzs, TR.fz, leafs_fzs cs]
theorem leafs_okF {b : Nat} : ∀ {cs : List PV}, Bels 0 cs → TR.okFs h b (cs.map TR.leaf)
  | [], _ => trivial
  | c :: cs, hb => ⟨hb.1, leafs_okF hb.2⟩
def LS.tr (q : LS) : TR := .lst q.s q.cap (q.cs.map TR.leaf)
theorem LS.tr_pvs : ∀ ls : List LS, TR.pvs (ls.map LS.tr) = ls.map LS.pv
  | [] => rfl
  | q :: ls => by simp only [List.map_cons, TR.pvs, LS.tr_pvs ls]; simp only [LS.tr, TR.pv, List.length_map, LS.pv]
theorem LS.tr_okF {b : Nat} {q : LS} (h1 : q.ok h b) (h2 : Bels 0 q.cs) : (LS.tr q).okF h b := ⟨⟨by rw [List.length_map]; exact h1.1, by rw [leafs_pvs]; exact h1.2.1, h1.2.2.1, h1.2.2.2⟩, leafs_okF h2⟩
theorem LS.trs_okF {b : Nat} : ∀ {ls : List LS}, (∀ q, q ∈ ls → q.ok h b ∧ Bels 0 q.cs) → TR.okFs h b (ls.map LS.tr)
  | [], _ => trivial
  | q :: ls, k => ⟨LS.tr_okF (k q (List.mem_cons_self ..)).1 (k q (List.mem_cons_self ..)).2, LS.trs_okF fun q' hq => k q' (List.mem_cons_of_mem _ hq)⟩
def RowsOf (ls : List LS) (Ms : List (List (List Int))) : Prop := All2 (fun (q : LS) (R : List (List Int)) => All2 FI q.cs R) ls Ms
theorem rowsOf_all2 {a : Nat → Nat} {ls : List LS} {Ms : List (List (List Int))} (k : RowsOf ls Ms) : All2 FII (TR.fzs a (ls.map LS.tr)) Ms := by
  have hl : ∀ ls : List LS, (TR.fzs a (ls.map LS.tr)).length = ls.length := fun ls => by rw [TR.fzs_length, List.length_map]
  have hg : ∀ (ls : List LS) (i : Nat), (TR.fzs a (ls.map LS.tr))[i]? = ls[i]?.map fun q => (LS.tr q).fz a := by
    intro ls
    induction ls with
    | nil => intro i; simp [TR.fzs]
    | cons q ls ih =>
      intro i
      cases i with
      | zero => simp [TR.fzs]
      | succ i => simpa [TR.fzs] using ih i
  refine ⟨by rw [hl]; exact k.1, fun i c R hc hR => ?_⟩
  rw [hg] at hc
  obtain ⟨q, hq, rfl⟩ := Option.map_eq_some_iff.1 hc
  have h2 := k.2 i q R hq hR
  exact ⟨true, .sl (a q.s) 0 q.cs.length q.cap, q.cs, by simp only [LS.tr, TR.fz, leafs_fzs, List.length_map]; rw [h2.1], h2⟩
end Go.Proofs
namespace Go.Grp
end Go.Grp
namespace Go.Proofs
open Go.Ab Go.Lie Go.Grp
variable {σ : PHeap} {K : PV → PHeap → Prop} {O : List Int} {P : List (List Int)} {C : List (List (List Int))} {vO vP vC vx vy vz vL : PV} {x y z w w' : List Int} {xs : List (List Int)} {d j sp n : Nat}
structure ResG {α : Type} (r : α × Int) (z : α) (c : Int) : Prop where
  eq : (z, c) = r
theorem ResG.unique {α : Type} {r : α × Int} {z z' : α} {c c' : Int} (h : ResG r z c) (h' : ResG r z' c') : z = z' ∧ c = c' := by
  have := h.eq.trans h'.eq.symm
  simpa using this
theorem rt_ex (g : LG O P C) (hz : gS O z) {c : Int} (hcp : z ≠ zv O → OkC (at_ O 0) c) (hc : c = 2 ∨ c = 12) : gS O (rt O P C z c) := by
  by_cases hz0 : z = zv O
  · exact (rt_spec (w := zv O) (.inl ⟨hz0, rfl⟩)).gS g.F g.s hz
  · have h0 := pos_of_ne hz hz0
    have hp := (g.isp h0).bd
    have hb := g.bound h0 (Nat.le_refl O.length)
    have hpw : ∀ i, i ≤ O.length → TT O i (Grp.pw (gm O P C) (zv O) z ((at_ O 0).toNat ^ i)) := by
      intro i hi
      induction i with
      | zero => rw [Nat.pow_zero, g.F.g.toMon.pw_one hz]; exact hz
      | succ i ih =>
        have := pw_next g.s g.F g.cent (show i < O.length by omega) (ih (by omega))
        rw [g.eq (show i < O.length by omega), ← g.F.g.toMon.pw_mul hz] at this
        rw [Nat.pow_succ]; exact this
    have hn : (((at_ O 0).toNat ^ O.length : Nat) : Int) = at_ O 0 ^ O.length := by
      rw [Int.natCast_pow, Int.toNat_of_nonneg (by omega)]
    have hz2 : Grp.pw (gm O P C) (zv O) z ((at_ O 0).toNat ^ O.length) = zv O := (hpw _ (Nat.le_refl _)).ext (g.s.zv _) fun j h1 h2 => by omega
    obtain ⟨Y, hY⟩ := inv_ex2 (hcp hz0) hn (by omega) (c := c) (by omega)
    have hm0 : ((at_ O 0).toNat ^ O.length : Nat) ≠ 0 := fun e => by have h9 := hb.1; rw [← hn, e] at h9; simp at h9
    have b1 := Int.emod_nonneg Y (show (((at_ O 0).toNat ^ O.length : Nat) : Int) ≠ 0 by omega)
    refine (rt_spec (w := Grp.pw (gm O P C) (zv O) z (Y % ((at_ O 0).toNat ^ O.length : Nat)).toNat) (.inr ⟨hz0, O.length, _, _, hn, hz2, ?_, rfl⟩)).gS g.F g.s hz
    rw [Int.toNat_of_nonneg b1, Int.mul_emod, Int.emod_emod_of_dvd _ (Int.dvd_refl _), ← Int.mul_emod]
    exact hY
theorem gsum_in (g : LG O P C) (k : clsOk O P C) (hx : gS O x) (hy : gS O y) : gS O (gsum O P C x y) := by
  have G := g.F.g
  have cS := G.com_in hx hy
  exact G.cl (G.cl (G.cl (G.cl hx hy) (G.inv_in (rt_ex g cS (ok2 g k hx hy (.inl rfl)) (.inl rfl))).1) (rt_ex g (G.com_in cS hx) (ok12 g k hx hy hx) (.inr rfl))) (G.inv_in (rt_ex g (G.com_in cS hy) (ok12 g k hx hy hy) (.inr rfl))).1
theorem gbr_in (g : LG O P C) (k : clsOk O P C) (hx : gS O x) (hy : gS O y) : gS O (gbr O P C x y) := by
  have G := g.F.g
  have cS := G.com_in hx hy
  exact G.cl (G.cl cS (G.inv_in (rt_ex g (G.com_in cS hx) (ok12 g k hx hy hx) (.inl rfl))).1) (G.inv_in (rt_ex g (G.com_in cS hy) (ok12 g k hx hy hy) (.inl rfl))).1
end Go.Proofs
namespace Go.Grp
end Go.Grp
set_option linter.unusedSectionVars false
namespace Go.Grp
section
variable {α : Type} [Inhabited α] {S : α → Prop} {m : α → α → α} {e : α} {a b c x y z : α}
theorem Gp.inv_inv (G : Gp S m e) (ha : S a) : ginv S m e (ginv S m e a) = a := (G.inv_eq (G.inv_in ha).1 ha (G.inv_l ha)).symm
theorem Gp.com_swap (G : Gp S m e) (hx : S x) (hy : S y) : com S m e y x = ginv S m e (com S m e x y) := by
  have hc := G.com_in hx hy
  have hi := (G.inv_in hc).1
  refine (G.com_eq hy hx hi ?_).symm
  have h1 := G.com_spec hx hy
  rw [← h1, G.as (G.cl hy hx) hc hi, G.inv_r hc, G.r1 (G.cl hy hx)]
theorem Gp.inv_one (G : Gp S m e) : ginv S m e e = e := (G.inv_eq G.one G.one (G.l1 G.one)).symm
def Cm (S : α → Prop) (m : α → α → α) (a : α) : Prop := S a ∧ ∀ z, S z → m a z = m z a
theorem Gp.cm_of (G : Gp S m e) (ha : S a) (h : ∀ z, S z → com S m e a z = e) : Cm S m a := ⟨ha, fun z hz => by
  have h1 := G.com_spec ha hz
  rw [h z hz, G.r1 (G.cl hz ha)] at h1
  exact h1.symm⟩
theorem Gp.cm_pw (G : Gp S m e) (h : Cm S m a) (k : Nat) : Cm S m (Grp.pw m e a k) := by
  refine ⟨G.toMon.pw h.1 k, fun z hz => ?_⟩
  induction k with
  | zero => show m e z = m z e; rw [G.l1 hz, G.r1 hz]
  | succ k ih =>
    show m (m (Grp.pw m e a k) a) z = m z (m (Grp.pw m e a k) a)
    have hp := G.toMon.pw h.1 k
    rw [G.as hp h.1 hz, h.2 z hz, ← G.as hp hz h.1, ih, G.as hz hp h.1]
theorem Gp.com_inv (G : Gp S m e) (hc : S c) (hy : S y) (h : Cm S m (com S m e c y)) : com S m e (ginv S m e c) y = ginv S m e (com S m e c y) := by
  have hi := (G.inv_in hc).1
  have hk := G.com_in hc hy
  have h1 := G.com_mul hc hi hy
  rw [G.inv_r hc, G.com_one hy] at h1
  have h2 : com S m e c y = cnj S m e (com S m e c y) (ginv S m e c) := G.cnj_eq hk hi hk (h.2 _ hi).symm
  rw [← h2] at h1
  exact G.inv_eq hk (G.com_in hi hy) h1.symm
theorem Gp.pw_inv (G : Gp S m e) (hz : S z) : ∀ k, Grp.pw m e (ginv S m e z) k = ginv S m e (Grp.pw m e z k)
  | 0 => G.inv_one.symm
  | k + 1 => by
    have hi := (G.inv_in hz).1
    have hp := G.toMon.pw hz k
    have hq := G.toMon.pw hi k
    refine G.inv_eq (G.cl hp hz) (G.cl hq hi) ?_
    show m (m (Grp.pw m e z k) z) (m (Grp.pw m e (ginv S m e z) k) (ginv S m e z)) = e
    rw [G.toMon.pw_comm hi k, G.as hp hz (G.cl hi hq), ← G.as hz hi hq, G.inv_r hz, G.l1 hq, G.pw_inv hz k, G.inv_r hp]
end
variable {O : List Int} {P : List (List Int)} {C : List (List (List Int))} {x y z w : List Int}
open Go.Lie Go.Ab
theorem rti (F : Full O P C O.length) (hz : gS O z) {c : Int} (h : Rt O P C z c w) : Rt O P C (ginv (gS O) (gm O P C) (zv O) z) c (ginv (gS O) (gm O P C) (zv O) w) := by
  have G := F.g
  rcases h with ⟨rfl, rfl⟩ | ⟨h0, j, y, n, h1, h2, h3, rfl⟩
  · exact .inl ⟨G.inv_one, G.inv_one⟩
  · refine .inr ⟨fun e => h0 ?_, j, y, n, h1, ?_, h3, (G.pw_inv hz y).symm⟩
    · rw [← G.inv_inv hz, e, G.inv_one]
    · rw [G.pw_inv hz, h2, G.inv_one]
theorem rtp (F : Full O P C O.length) (hz : gS O z) {c : Int} (h : Rt O P C z c w) : ∃ k, w = Grp.pw (gm O P C) (zv O) z k := by
  rcases h with ⟨rfl, rfl⟩ | ⟨h0, j, y, n, h1, h2, h3, rfl⟩
  · exact ⟨0, rfl⟩
  · exact ⟨y, rfl⟩
theorem rts (F : Full O P C O.length) (hz : gS O z) (h : Rt O P C z 2 w) : gm O P C w w = z := by
  have G := F.g
  rcases h with ⟨rfl, rfl⟩ | ⟨h0, j, y, n, h1, h2, h3, rfl⟩
  · exact G.l1 G.one
  · rw [← G.toMon.pw_add hz, ← show Grp.pw (gm O P C) (zv O) z 1 = z from G.toMon.pw_one hz]
    rw [G.toMon.pw_one hz]
    refine (pw_same F hz h2 ?_).trans (G.toMon.pw_one hz)
    rw [show ((y + y : Nat) : Int) = 2 * y by omega, h3]; rfl
section
variable (s : Shp O P C) (F : Full O P C O.length) (hC : Cent O C)
include s F hC
theorem com_tt2 (h2 : 2 ≤ O.length) (hx : gS O x) (hy : gS O y) : TT O 2 (gcom O P C x y) := by
  have G := F.g
  have hN := tt_nsub s F hC h2
  have uS : ∀ i, i < O.length → gS O (unit O i) := fun i hi => s.unit hi (Nat.zero_le _)
  have hA : ∀ i, i < O.length → 1 ≤ i → ∀ {y : List Int}, gS O y → TT O 2 (gcom O P C (unit O i) y) := fun i hi h1 y hy => com_deep s F hC (t := 1) (by omega) (s.unit hi h1) hy
  have hB : ∀ {y : List Int}, gS O y → TT O 2 (gcom O P C (unit O 0) y) := fun {y} hy => by
    refine gen_all s F hN (uS 0 (by omega)) (fun j hj => ?_) hy
    by_cases e : j = 0
    · subst e
      rw [show gcom O P C (unit O 0) (unit O 0) = zv O from (G.com_eq (uS 0 hj) (uS 0 hj) G.one (G.r1 (G.cl (uS 0 hj) (uS 0 hj)))).symm]
      exact hN.one
    · rw [show gcom O P C (unit O 0) (unit O j) = _ from G.com_swap (uS j hj) (uS 0 (by omega))]
      exact hN.inv (hA j hj (by omega) (uS 0 (by omega)))
  refine gen_all s F hN hx (fun i hi => ?_) hy
  rw [show gcom O P C x (unit O i) = _ from G.com_swap (uS i hi) hx]
  refine hN.inv ?_
  by_cases e : i = 0
  · subst e; exact hB hx
  · exact hA i hi (by omega) hx
theorem com4 (h4 : O.length ≤ 4) (hx : gS O x) (hy : gS O y) {u v : List Int} (hu : gS O u) (hv : gS O v) : gcom O P C (gcom O P C (gcom O P C x y) u) v = zv O := by
  have G := F.g
  have hc := G.com_in hx hy
  have hd := G.com_in hc hu
  have nil : ∀ {t : Nat} {x : List Int}, TT O t x → O.length ≤ t → x = zv O := fun h hl => h.ext (s.zv _) fun j h1 h2 => by omega
  have one : ∀ {z : List Int}, gS O z → gcom O P C (zv O) z = zv O := fun hz => G.com_one hz
  rcases Nat.lt_or_ge O.length 2 with h | h
  · have : gcom O P C x y = zv O := by
      rcases Nat.lt_or_ge 0 O.length with g | g
      · exact nil (com_deep s F hC g hx hy) (by omega)
      · exact nil (t := 0) hc (by omega)
    rw [this, one hu, one hv]
  · have t2 := com_tt2 s F hC h hx hy
    rcases Nat.lt_or_ge 2 O.length with h2 | h2
    · have t3 := com_deep s F hC h2 t2 hu
      rcases Nat.lt_or_ge 3 O.length with h3 | h3
      · exact nil (com_deep s F hC h3 t3 hv) h4
      · rw [nil t3 h3, one hv]
    · rw [nil t2 h2, one hu, one hv]
end
end Go.Grp
namespace Go.Proofs
open Go.Ab Go.Lie Go.Grp
variable {O : List Int} {P : List (List Int)} {C : List (List (List Int))} {x y z w : List Int}
theorem rt_R (g : LG O P C) (hz : gS O z) {c : Int} (hcp : z ≠ zv O → OkC (at_ O 0) c) (hc : c = 2 ∨ c = 12) : Rt O P C z c (rt O P C z c) := by
  by_cases hz0 : z = zv O
  · exact rt_spec (w := zv O) (.inl ⟨hz0, rfl⟩)
  · have h0 := pos_of_ne hz hz0
    have hp := (g.isp h0).bd
    have hb := g.bound h0 (Nat.le_refl O.length)
    have hpw : ∀ i, i ≤ O.length → TT O i (Grp.pw (gm O P C) (zv O) z ((at_ O 0).toNat ^ i)) := by
      intro i hi
      induction i with
      | zero => rw [Nat.pow_zero, g.F.g.toMon.pw_one hz]; exact hz
      | succ i ih =>
        have := pw_next g.s g.F g.cent (show i < O.length by omega) (ih (by omega))
        rw [g.eq (show i < O.length by omega), ← g.F.g.toMon.pw_mul hz] at this
        rw [Nat.pow_succ]; exact this
    have hn : (((at_ O 0).toNat ^ O.length : Nat) : Int) = at_ O 0 ^ O.length := by
      rw [Int.natCast_pow, Int.toNat_of_nonneg (by omega)]
    have hz2 : Grp.pw (gm O P C) (zv O) z ((at_ O 0).toNat ^ O.length) = zv O := (hpw _ (Nat.le_refl _)).ext (g.s.zv _) fun j h1 h2 => by omega
    obtain ⟨Y, hY⟩ := inv_ex2 (hcp hz0) hn (by omega) (c := c) (by omega)
    have hm0 : ((at_ O 0).toNat ^ O.length : Nat) ≠ 0 := fun e => by have h9 := hb.1; rw [← hn, e] at h9; simp at h9
    have b1 := Int.emod_nonneg Y (show (((at_ O 0).toNat ^ O.length : Nat) : Int) ≠ 0 by omega)
    refine rt_spec (w := Grp.pw (gm O P C) (zv O) z (Y % ((at_ O 0).toNat ^ O.length : Nat)).toNat) (.inr ⟨hz0, O.length, _, _, hn, hz2, ?_, rfl⟩)
    rw [Int.toNat_of_nonneg b1, Int.mul_emod, Int.emod_emod_of_dvd _ (Int.dvd_refl _), ← Int.mul_emod]
    exact hY
theorem com_cm (g : LG O P C) (k : clsOk O P C) (hx : gS O x) (hy : gS O y) (hz : gS O z) : Cm (gS O) (gm O P C) (gcom O P C (gcom O P C x y) z) := by
  have G := g.F.g
  have hc := G.com_in hx hy
  have hd := G.com_in hc hz
  refine G.cm_of hd fun v hv => ?_
  have small : O.length ≤ 4 → gcom O P C (gcom O P C (gcom O P C x y) z) v = zv O := fun h => com4 g.s g.F g.cent h hx hy hz hv
  rcases Nat.lt_or_ge 0 O.length with h0 | h0
  · rcases k with k | ⟨k, k1, k2⟩
    · rw [k] at h0; simp at h0
    · rcases g.isp h0 with e | e | e | e
      · have : gcom O P C (gcom O P C x y) z = zv O := com_triv2 g.s g.F k2 (by omega) hc hz
        rw [this]; exact G.com_one hv
      · have : gcom O P C (gcom O P C x y) z = zv O := com_triv3 g.s g.F k2 (by omega) hx hy hz
        rw [this]; exact G.com_one hv
      all_goals
        refine small ?_
        rcases Nat.lt_or_ge 4 O.length with h5 | h5
        · have := (g.bound h0 (i := 5) (by omega)).2
          rw [e] at this
          exact absurd this (by decide)
        · exact h5
  · exact small (by omega)
theorem gsum_comm (g : LG O P C) (k : clsOk O P C) (hx : gS O x) (hy : gS O y) : gsum O P C x y = gsum O P C y x := by
  have G := g.F.g
  have F := g.F
  have cS := G.com_in hx hy
  have aC := com_cm g k hx hy hx
  have bC := com_cm g k hx hy hy
  have hh := rt_R g cS (ok2 g k hx hy (.inl rfl)) (.inl rfl)
  have ra := rt_R g aC.1 (ok12 g k hx hy hx) (.inr rfl) (c := 12)
  have rb := rt_R g bC.1 (ok12 g k hx hy hy) (.inr rfl) (c := 12)
  have e1 : gcom O P C y x = gi_ O P C (gcom O P C x y) := G.com_swap hx hy
  have e2 : gcom O P C (gcom O P C y x) x = gi_ O P C (gcom O P C (gcom O P C x y) x) := by rw [e1]; exact G.com_inv cS hx aC
  have e3 : gcom O P C (gcom O P C y x) y = gi_ O P C (gcom O P C (gcom O P C x y) y) := by rw [e1]; exact G.com_inv cS hy bC
  have iS := (G.inv_in cS).1
  have f1 := rt_eq g iS (rti F cS hh)
  have f2 := rt_eq g (G.inv_in aC.1).1 (rti F aC.1 ra)
  have f3 := rt_eq g (G.inv_in bC.1).1 (rti F bC.1 rb)
  have sq : gm O P C (rt O P C (gcom O P C x y) 2) (rt O P C (gcom O P C x y) 2) = gcom O P C x y := rts F cS hh
  have hS := hh.gS F g.s cS
  obtain ⟨ka, ea⟩ := rtp F aC.1 ra
  obtain ⟨kb, eb⟩ := rtp F bC.1 rb
  have Ca := G.cm_pw aC ka
  rw [← ea] at Ca
  have bS := rb.gS F g.s bC.1
  unfold gsum
  rw [e2, e3, e1, ← f1, ← f2, ← f3]
  generalize rt O P C (gcom O P C x y) 2 = h at *
  generalize rt O P C (gcom O P C (gcom O P C x y) x) 12 = R at *
  generalize rt O P C (gcom O P C (gcom O P C x y) y) 12 = Q at *
  have hiS := (G.inv_in hS).1
  have Qi := (G.inv_in bS).1
  have yx := G.cl hy hx
  rw [show gi_ O P C (gi_ O P C h) = h from G.inv_inv hS, show gi_ O P C (gi_ O P C R) = R from G.inv_inv Ca.1]
  have e4 : gm O P C (gm O P C x y) (gi_ O P C h) = gm O P C (gm O P C y x) h := by
    have h1 : gm O P C (gm O P C y x) (gcom O P C x y) = gm O P C x y := G.com_spec hx hy
    rw [← h1, ← sq, ← G.as yx hS hS, G.as (G.cl yx hS) hS hiS, show gm O P C h (gi_ O P C h) = zv O from G.inv_r hS, G.r1 (G.cl yx hS)]
  have u := G.cl yx hS
  rw [e4, G.as u Ca.1 Qi, G.as u Qi Ca.1, Ca.2 _ Qi]
end Go.Proofs
namespace Go.Grp
end Go.Grp
namespace Go.Proofs
open Go.Ab Go.Lie Go.Grp
variable {σ : PHeap} {K : PV → PHeap → Prop} {O : List Int} {P : List (List Int)} {C : List (List (List Int))} {vO vP vC vx vy vz vL : PV} {x y z w w' : List Int} {xs : List (List Int)} {d j sp n : Nat}
noncomputable def stC (O : List Int) (P : List (List Int)) (C : List (List (List Int))) (z : List Int) : Nat → List Int × List Int
  | 0 => (List.replicate O.length 0, z)
  | i + 1 => ((stC O P C z i).1.set i (at_ (stC O P C z i).2 i), gsum O P C (gi_ O P C (Grp.pw (gm O P C) (zv O) (Grp.unit O i) (at_ (stC O P C z i).2 i).toNat)) (stC O P C z i).2)
theorem stC_len : ∀ i, (stC O P C z i).1.length = O.length
  | 0 => List.length_replicate ..
  | i + 1 => by rw [stC, List.length_set]; exact stC_len i
theorem stC_in (g : LG O P C) (k : clsOk O P C) (hz : gS O z) : ∀ {i : Nat}, i ≤ O.length → gS O (stC O P C z i).2
  | 0, _ => hz
  | i + 1, hi => gsum_in g k (g.F.g.inv_in (g.F.g.toMon.pw (g.s.unit (by omega) (Nat.zero_le _)) _)).1 (stC_in g k hz (by omega))
noncomputable def cfG (O : List Int) (P : List (List Int)) (C : List (List (List Int))) (z : List Int) : List Int := (stC O P C z O.length).1
theorem asSum_ok (g : LG O P C) (k : clsOk O P C) (hs : PtrG σ sp vO vP vC) (hR : IsPr vO vP vC O P C) (hz : gS O z) (hvz : FI vz z) (hk : ∀ cap, full 1 cap O.length → K (.sl σ.next 0 O.length cap) (σ.new (pis (cfG O P C z)))) :
    PCalls Tryz.prog 48 [.ptr sp 0, vz] σ K := by
  have s := g.s
  have F := g.F
  have G := F.g
  have hn6 := s.le
  have hzl := hz.len
  obtain ⟨wx, ax, rfl⟩ := hvz
  refine PCalls.gh ?_
  have hne : ¬ sp = σ.next := Nat.ne_of_lt hs.lt
  refine pcalls_of_vp mix Tryz.func48 cf48 rfl ?_
  dsimp only [if48, qI, eI, nI, qD, eD]
  simp only [pwA, if_true, if_false, eq_self, nm_eq, reduceCtorEq, ↓reduceIte, nQ10, nQ7, nQ11, nQ12, nQ16, nQ17, nQ18, iQ2, iQ3, iQ4, iQ5, iQ6, lQ19, iQ7, lQ20, hzl, List.length_replicate, pis_rep, mk8 (n := O.length) (by omega), mkL (n := O.length) (by omega)]
  refine vp_loop (fun m vs h' => ∃ i v, i ≤ O.length ∧ m = O.length - i ∧ vs = [.ptr sp 0, v, .sl σ.next 0 O.length (.known O.length), .int .i64 O.length, .int .i64 (i : Nat)] ∧ h' = σ.new (pis (stC O P C z i).1) ∧ FI v (stC O P C z i).2) O.length ?_ ?_
  · exact ⟨0, .fz wx ax O.length (pis z), by omega, by omega, rfl, rfl, ⟨_, _, by rw [show (stC O P C z 0).2 = z from rfl, hzl]⟩⟩
  rintro m vs h' ⟨i, v, hi, rfl, rfl, rfl, hv⟩
  simp only [pwA, if_true, if_false, eq_self, nm_eq, reduceCtorEq, ↓reduceIte, nQ10, nQ7, nQ11, nQ12, nQ16, nQ17, nQ18, iQ2, iQ3, iQ4, iQ5, iQ6, lQ19, iQ7, lQ20]
  refine iteI (fun hlt => ?_) fun hge => ?_
  rotate_left
  · have hie : i = O.length := by omega
    subst hie
    exact Gh.finS (keep_new σ _) (by simp only [pwA, if_true, if_false, eq_self, nm_eq, reduceCtorEq, ↓reduceIte, nQ10, nQ7, nQ11, nQ12, nQ16, nQ17, nQ18, iQ2, iQ3, iQ4, iQ5, iQ6, lQ19, iQ7, lQ20]; rfl) (Nat.le_refl _) (pis_bel _ _) (hk _ (.inr rfl))
  have hel := stC_in g k hz hi
  have hb := hel.bd i hlt
  have hell := hel.len
  have hol := stC_len (P := P) (C := C) (O := O) (z := z) i
  have hlx : i < (stC O P C z i).2.length := by omega
  have hlo : i < (stC O P C z i).1.length := by omega
  have hp := (g.isp (by omega)).bd
  have heq := g.eq hlt
  have hv0 := hv
  obtain ⟨w0, a0, rfl⟩ := hv
  rw [hell] at hv0
  have hset : (pis (stC O P C z i).1).take i ++ [.int .i64 (at_ (stC O P C z i).2 i)] ++ (pis (stC O P C z i).1).drop (i + 1) = pis (stC O P C z (i + 1)).1 := pis_set_at hlo
  have hs2 : PtrG (σ.new (pis (stC O P C z (i + 1)).1)) sp vO vP vC := hs.new _
  have hu : gS O (Grp.unit O i) := s.unit hlt (Nat.zero_le _)
  have hpw := G.toMon.pw hu (at_ (stC O P C z i).2 i).toNat
  simp only [pwA, if_true, if_false, eq_self, nm_eq, reduceCtorEq, ↓reduceIte, nQ10, nQ7, nQ11, nQ12, nQ16, nQ17, nQ18, iQ2, iQ3, iQ4, iQ5, iQ6, lQ19, iQ7, lQ20, hlt, pisA hlx, hlx, hlo, Nat.succ_le_of_lt hlo, pis_length, hset, hell]
  refine unitVector_fz (by omega) hlt fun a1 => ?_
  simp only [pwA, if_true, if_false, eq_self, nm_eq, reduceCtorEq, ↓reduceIte, nQ10, nQ7, nQ11, nQ12, nQ16, nQ17, nQ18, iQ2, iQ3, iQ4, iQ5, iQ6, lQ19, iQ7, lQ20, pisA hlx]
  refine power_fz s F hs2 hR (a := Grp.unit O i) (up_ hu) ⟨true, a1, by rw [hu.len]; rfl⟩ (k := at_ (stC O P C z i).2 i) (by omega) fun v1 f1 => ?_
  simp only [pwA, if_true, if_false, eq_self, nm_eq, reduceCtorEq, ↓reduceIte, nQ10, nQ7, nQ11, nQ12, nQ16, nQ17, nQ18, iQ2, iQ3, iQ4, iQ5, iQ6, lQ19, iQ7, lQ20]
  refine invert_fz s F hs2 hR (up_ hpw) f1 fun v2 z2 t2 m2 f2 => ?_
  have S2 : gS O z2 := by rw [Nat.sub_self] at t2; exact t2
  have e2 : z2 = gi_ O P C _ := G.inv_eq hpw S2 m2
  simp only [pwA, if_true, if_false, eq_self, nm_eq, reduceCtorEq, ↓reduceIte, nQ10, nQ7, nQ11, nQ12, nQ16, nQ17, nQ18, iQ2, iQ3, iQ4, iQ5, iQ6, lQ19, iQ7, lQ20]
  refine PCalls.fzI (fun K' => fun hr => groupSum_ok g k hs2 hR hel S2 hv0 f2 fun _ => hr) fun a3 => ?_
  have e3 : gsum O P C (stC O P C z i).2 z2 = (stC O P C z (i + 1)).2 := by rw [gsum_comm g k hel S2, e2]; rfl
  rw [e3]
  simp only [pwA, if_true, if_false, eq_self, nm_eq, reduceCtorEq, ↓reduceIte, nQ10, nQ7, nQ11, nQ12, nQ16, nQ17, nQ18, iQ2, iQ3, iQ4, iQ5, iQ6, lQ19, iQ7, lQ20, wrapS hlt (by omega : O.length ≤ 4611686018427387904)]
  exact ⟨_, by omega, i + 1, _, by omega, rfl, rfl, rfl, ⟨_, _, rfl⟩⟩
theorem l34Coefficients_ok (g : LG O P C) (k : clsOk O P C) (hR : IsPr vO vP vC O P C) (hz : gS O z) (hvz : FI vz z) (hk : ∀ v, FI v (cfG O P C z) → K v σ) :
    PCalls Tryz.prog 81 [.agg [vO, vP, vC], vz] σ K := by
  have s := g.s
  have F := g.F
  have G := F.g
  have hn6 := s.le
  have hzl := hz.len
  have h0 := hR.O.one
  have h1 := hR.P.one
  have h2 := hR.C.one
  have hR0 := hR
  obtain ⟨⟨wO, aO, rfl⟩, _, _⟩ := hR
  obtain ⟨wx, ax, rfl⟩ := hvz
  refine PCalls.gh ?_
  refine pcalls_of_vp mix Tryz.func81 cf81 rfl ?_
  dsimp only [if81, qI, eI, nI, qD, eD]
  simp only [pwA, if_true, if_false, eq_self, nm_eq, reduceCtorEq, ↓reduceIte, nQ10, nQ7, nQ11, nQ12, nQ16, nQ17, nQ18, iQ2, iQ3, iQ4, iQ5, iQ6, lQ19, iQ7, lQ20, h0, h1, h2, hzl, List.length_replicate, pis_rep, mk8 (n := O.length) (by omega), mkL (n := O.length) (by omega)]
  refine vp_loop (fun m vs h' => ∃ i v, i ≤ O.length ∧ m = O.length - i ∧ vs = [.ptr σ.next 0, .int .i64 O.length, .sl (σ.next + 1) 0 O.length (.known O.length), v, .int .i64 (i : Nat)] ∧ h' = (σ.new [.fz wO aO O.length (pis O), vP, vC]).new (pis (stC O P C z i).1) ∧ FI v (stC O P C z i).2) O.length ?_ ?_
  · exact ⟨0, .fz wx ax O.length (pis z), by omega, by omega, rfl, rfl, ⟨_, _, by rw [show (stC O P C z 0).2 = z from rfl, hzl]⟩⟩
  rintro m vs h' ⟨i, v, hi, rfl, rfl, rfl, hv⟩
  simp only [pwA, if_true, if_false, eq_self, nm_eq, reduceCtorEq, ↓reduceIte, nQ10, nQ7, nQ11, nQ12, nQ16, nQ17, nQ18, iQ2, iQ3, iQ4, iQ5, iQ6, lQ19, iQ7, lQ20]
  refine iteI (fun hlt => ?_) fun hge => ?_
  rotate_left
  · have hie : i = O.length := by omega
    subst hie
    exact Gh.finF (s := σ.next + 1) ((keep_new σ _).new _) (by simp only [pwA, if_true, if_false, eq_self, nm_eq, reduceCtorEq, ↓reduceIte, nQ10, nQ7, nQ11, nQ12, nQ16, nQ17, nQ18, iQ2, iQ3, iQ4, iQ5, iQ6, lQ19, iQ7, lQ20]; rfl) (Nat.le_succ _) (pis_bel _ _) (by simp [capOK, stC_len]) fun o1 => hk _ ⟨true, _, by rw [show (cfG O P C z).length = O.length from stC_len _]; rfl⟩
  have hel := stC_in g k hz hi
  have hb := hel.bd i hlt
  have hell := hel.len
  have hol := stC_len (P := P) (C := C) (O := O) (z := z) i
  have hlx : i < (stC O P C z i).2.length := by omega
  have hlo : i < (stC O P C z i).1.length := by omega
  have hp := (g.isp (by omega)).bd
  have heq := g.eq hlt
  have hv0 := hv
  obtain ⟨w0, a0, rfl⟩ := hv
  rw [hell] at hv0
  have hset : (pis (stC O P C z i).1).take i ++ [.int .i64 (at_ (stC O P C z i).2 i)] ++ (pis (stC O P C z i).1).drop (i + 1) = pis (stC O P C z (i + 1)).1 := pis_set_at hlo
  have hat : at_ (stC O P C z (i + 1)).1 i = at_ (stC O P C z i).2 i := by rw [stC, at_eq (by rw [List.length_set]; exact hlo)]; simp
  have hl2 : i < (stC O P C z (i + 1)).1.length := by rw [stC_len]; exact hlt
  have hu : gS O (Grp.unit O i) := s.unit hlt (Nat.zero_le _)
  have hpw := G.toMon.pw hu (at_ (stC O P C z i).2 i).toNat
  have S2 := (G.inv_in hpw).1
  simp only [pwA, if_true, if_false, eq_self, nm_eq, reduceCtorEq, ↓reduceIte, nQ10, nQ7, nQ11, nQ12, nQ16, nQ17, nQ18, iQ2, iQ3, iQ4, iQ5, iQ6, lQ19, iQ7, lQ20, hlt, pisA hlx, hlx, hlo, Nat.succ_le_of_lt hlo, pis_length, hset, hell, pisA hl2, hat]
  refine l07Unit_ok (by omega) hlt fun v1 f1 => ?_
  simp only [pwA, if_true, if_false, eq_self, nm_eq, reduceCtorEq, ↓reduceIte, nQ10, nQ7, nQ11, nQ12, nQ16, nQ17, nQ18, iQ2, iQ3, iQ4, iQ5, iQ6, lQ19, iQ7, lQ20, pisA hl2, hat]
  refine l10Pow_ok g hR0 (x := Grp.unit O i) hu f1 (k := at_ (stC O P C z i).2 i) (by omega) fun v2 f2 => ?_
  simp only [pwA, if_true, if_false, eq_self, nm_eq, reduceCtorEq, ↓reduceIte, nQ10, nQ7, nQ11, nQ12, nQ16, nQ17, nQ18, iQ2, iQ3, iQ4, iQ5, iQ6, lQ19, iQ7, lQ20]
  refine l10Inv_ok s g.co hR0 hpw f2 fun v3 f3 => ?_
  simp only [pwA, if_true, if_false, eq_self, nm_eq, reduceCtorEq, ↓reduceIte, nQ10, nQ7, nQ11, nQ12, nQ16, nQ17, nQ18, iQ2, iQ3, iQ4, iQ5, iQ6, lQ19, iQ7, lQ20]
  refine l34Sum_ok g k hR0 S2 hel f3 hv0 fun v4 f4 => ?_
  simp only [pwA, if_true, if_false, eq_self, nm_eq, reduceCtorEq, ↓reduceIte, nQ10, nQ7, nQ11, nQ12, nQ16, nQ17, nQ18, iQ2, iQ3, iQ4, iQ5, iQ6, lQ19, iQ7, lQ20, wrapS hlt (by omega : O.length ≤ 4611686018427387904)]
  exact ⟨_, by omega, i + 1, v4, by omega, rfl, rfl, rfl, f4⟩
end Go.Proofs
namespace Go.Proofs
open Go.Ab Go.Lie
variable {σ h : PHeap} {K : PV → PHeap → Prop} {n : Nat} {p : Int} {p0 sO : Nat} {vO vP vC : PV} {cO pc : List PV} {ls : List (Option LS)} {O : List Int}
theorem TI.setO (a : TI σ h p0 sO vO vP vC cO pc ls) (Y : List PV) : TI σ (h.set sO Y) p0 sO vO vP vC Y pc ls := by
  have hp := a.p0b
  have hs := a.sOb
  refine ⟨a.keep.set hs.1 _, by rw [pobj_set, if_neg a.pO]; exact a.obj, hp, by rw [pobj_set, if_pos rfl], hs, a.pO, ?_, ?_, fun q hq => ?_, a.nd, a.neP, a.neC, a.neL, a.nePC⟩
  · exact pacc_move a.accP (fun s off l c e => by rw [pobj_set, if_neg fun e2 => a.neP sO (.inr (.inr rfl)) off l c (by rw [e, e2])]) (Nat.le_refl _)
  · exact pacc_move a.accC (fun s off l c e => by rw [pobj_set, if_neg fun e2 => a.neC sO (.inr (.inr rfl)) off l c (by rw [e, e2])]) (Nat.le_refl _)
  · refine (a.ok q hq).move ?_ (Nat.le_refl _)
    rw [pobj_set, if_neg fun e => a.neL.2 (by rw [← e]; exact LS.mem_slots.2 ⟨q, hq, rfl⟩)]
theorem zeroRing_ok (hn1 : 1 ≤ n) (hn6 : n ≤ 6)
    (hk : ∀ vP vC pc ls h, TI σ h (σ.next + 1) σ.next (.int .i64 p) vP vC [.int .i64 p, vP, vC] pc ls → pc.length = n → ls.length = n → LShape n ls → K (.agg [.int .i64 p, vP, vC]) h) :
    PCalls Tryz.prog 47 [.int .i64 p, .int .i64 n] σ K := by
  refine pcalls_of_vp mix Tryz.func47 cf47 rfl ?_
  dsimp only [if47, qI, eI, nI, qD, eD]
  simp only [pwA, if_true, if_false, eq_self, nm_eq, reduceCtorEq, ↓reduceIte, nQ10, nQ7, nQ11, nQ12, nQ16, nQ17, nQ18, iQ2, iQ3, iQ4, iQ5, iQ6, lQ19, iQ7, lQ20]
  refine vp_loop (fun m us h' => ∃ (i : Nat) (vP vC : PV) (pc : List PV) (ls : List (Option LS)), i ≤ n ∧ m = n - i ∧ us = [.int .i64 n, .ptr σ.next 0, .ptr (σ.next + 1) 0, .int .i64 n, .int .i64 i] ∧ TI σ h' (σ.next + 1) σ.next (.int .i64 p) vP vC [.int .i64 0, .fz true .nils 0 [], .fz true .nils 0 []] pc ls ∧ pc.length = i ∧ ls.length = i ∧ LShape n ls) n ?_ ?_
  · exact ⟨0, _, _, [], [], by omega, by omega, rfl, ⟨(keep_new σ _).new _, by simp only [pwA, if_true, if_false, eq_self, nm_eq, reduceCtorEq, ↓reduceIte, nQ10, nQ7, nQ11, nQ12, nQ16, nQ17, nQ18, iQ2, iQ3, iQ4, iQ5, iQ6, lQ19, iQ7, lQ20], ⟨by omega, by simp only [pwA, if_true, if_false, eq_self, nm_eq, reduceCtorEq, ↓reduceIte, nQ10, nQ7, nQ11, nQ12, nQ16, nQ17, nQ18, iQ2, iQ3, iQ4, iQ5, iQ6, lQ19, iQ7, lQ20]⟩, by simp only [pwA, if_true, if_false, eq_self, nm_eq, reduceCtorEq, ↓reduceIte, nQ10, nQ7, nQ11, nQ12, nQ16, nQ17, nQ18, iQ2, iQ3, iQ4, iQ5, iQ6, lQ19, iQ7, lQ20], ⟨Nat.le_refl _, by simp only [pwA, if_true, if_false, eq_self, nm_eq, reduceCtorEq, ↓reduceIte, nQ10, nQ7, nQ11, nQ12, nQ16, nQ17, nQ18, iQ2, iQ3, iQ4, iQ5, iQ6, lQ19, iQ7, lQ20]; omega⟩, by omega, PAcc.nil _ _ _, PAcc.nil _ _ _, fun q hq => (by cases hq), List.nodup_nil, fun s hs off l c e => (by cases e), fun s hs off l c e => (by cases e), ⟨fun h => (by cases h), fun h => (by cases h)⟩, fun s off l c e => (by cases e)⟩, rfl, rfl, fun j hj => absurd hj (by simp)⟩
  as_aux_lemma =>
  rintro m us h' ⟨i, vP, vC, pc, ls, hi, rfl, rfl, a, hpl, hll, hsh⟩
  have hone : vP.one = true ∧ vC.one = true := ⟨a.accP.one, a.accC.one⟩
  have q0 : h'.rd1 (σ.next + 1) 1 = some vP := by rw [obj_rd1 a.obj]; rfl
  have q3 : h'.rd (σ.next + 1) 0 3 = some [.int .i64 p, vP, vC] := by rw [obj_rd a.obj]; rfl
  simp only [pwA, if_true, if_false, eq_self, nm_eq, reduceCtorEq, ↓reduceIte, nQ10, nQ7, nQ11, nQ12, nQ16, nQ17, nQ18, iQ2, iQ3, iQ4, iQ5, iQ6, lQ19, iQ7, lQ20]
  refine iteI (fun hlt => ?_) fun hge => ?_
  rotate_left
  · have hie : i = n := by omega
    have hwr : h'.wr σ.next 0 [.int .i64 p, vP, vC] = some (h'.set σ.next [.int .i64 p, vP, vC]) := by
      rw [obj_wr a.oO, if_pos ⟨by simp, by simp only [List.all_cons, List.all_nil, hone.1, hone.2]; rfl⟩]; rfl
    have hrd : (h'.set σ.next [.int .i64 p, vP, vC]).rd σ.next 0 3 = some [.int .i64 p, vP, vC] := by rw [prd_set, if_pos rfl]; rfl
    have := hk vP vC pc ls _ (a.setO _) (by omega) (by omega) hsh
    simp only [pwA, if_true, if_false, eq_self, nm_eq, reduceCtorEq, ↓reduceIte, nQ10, nQ7, nQ11, nQ12, nQ16, nQ17, nQ18, iQ2, iQ3, iQ4, iQ5, iQ6, lQ19, iQ7, lQ20, q3, hwr, hrd]
    exact this
  have hlt' : i < n := by omega
  have mk := mk8 (n := n) (by omega)
  have hne1 : ¬ σ.next + 1 = h'.next := by have := a.p0b.2; omega
  have hne2 : ¬ σ.next = h'.next := by have := a.sOb.2; omega
  simp only [pwA, if_true, if_false, eq_self, nm_eq, reduceCtorEq, ↓reduceIte, nQ10, nQ7, nQ11, nQ12, nQ16, nQ17, nQ18, iQ2, iQ3, iQ4, iQ5, iQ6, lQ19, iQ7, lQ20, q0, mk, mkL (n := n) (by omega), List.length_replicate, hne1, hne2]
  refine TI.pushP (a.keepI (keep_new h' _)) ⟨rfl, hone.2⟩ (by omega) fun v2 h2 u1 u2 u3 a2 l2 => ?_
  simp only [pwA, if_true, if_false, eq_self, nm_eq, reduceCtorEq, ↓reduceIte, nQ10, nQ7, nQ11, nQ12, nQ16, nQ17, nQ18, iQ2, iQ3, iQ4, iQ5, iQ6, lQ19, iQ7, lQ20, u1, u2, u3]
  clear u1 u2 u3 q0 q3 hne1 hne2
  generalize h2.set (σ.next + 1) [.int .i64 p, v2, vC] = hb at *
  have wi1 : IntKind.i64.wrap ((n : Int) - 1) = ((n - 1 : Nat) : Int) := by rw [wrap64 (by omega) (by omega)]; omega
  have wi2 : IntKind.i64.wrap (((n - 1 : Nat) : Int) - i) = ((n - 1 - i : Nat) : Int) := by rw [wrap64 (by omega) (by omega)]; omega
  simp only [pwA, if_true, if_false, eq_self, nm_eq, reduceCtorEq, ↓reduceIte, nQ10, nQ7, nQ11, nQ12, nQ16, nQ17, nQ18, iQ2, iQ3, iQ4, iQ5, iQ6, lQ19, iQ7, lQ20, wi1, wi2]
  refine vp_loop (fun m us h3 => ∃ (q : Nat) (vL : PV) (cells : List PV), q ≤ n - 1 - i ∧ m = n - 1 - i - q ∧ us = [.int .i64 n, .ptr σ.next 0, .ptr (σ.next + 1) 0, vL, .int .i64 n, .int .i64 i, .int .i64 ((n - 1 - i : Nat) : Int), .int .i64 q] ∧ Keep hb h3 ∧ PAcc hb.next 1 h3 vL q cells ∧ (q = 0 → vL = .fz true .nils 0 [])) (n - 1 - i) ⟨0, _, [], by omega, rfl, rfl, Keep.refl _, PAcc.nil _ _ _, fun _ => rfl⟩ ?_
  rintro m us h3 ⟨q, vL, cells, hq, rfl, rfl, k3, p3, hnil⟩
  have b := a2.keepI k3
  have q2 : h3.rd1 (σ.next + 1) 2 = some vC := by rw [obj_rd1 b.obj]; rfl
  simp only [pwA, if_true, if_false, eq_self, nm_eq, reduceCtorEq, ↓reduceIte, nQ10, nQ7, nQ11, nQ12, nQ16, nQ17, nQ18, iQ2, iQ3, iQ4, iQ5, iQ6, lQ19, iQ7, lQ20]
  refine iteI (fun hltq => ?_) fun hgeq => ?_
  · have hq' : q < n - 1 - i := by omega
    have e5 : IntKind.i64.wrap ((q : Int) + 1) = ((q + 1 : Nat) : Int) := wrapS hq' (by omega)
    simp only [pwA, if_true, if_false, eq_self, nm_eq, reduceCtorEq, ↓reduceIte, nQ10, nQ7, nQ11, nQ12, nQ16, nQ17, nQ18, iQ2, iQ3, iQ4, iQ5, iQ6, lQ19, iQ7, lQ20, mk, mkL (n := n) (by omega), List.length_replicate]
    refine PAcc.push (bytes := 24) (σb := hb) (k3.new _) (p3.keep (keep_new _ _)) (by omega) (by omega) fun v' h4 k4 p4 => ?_
    simp only [pwA, if_true, if_false, eq_self, nm_eq, reduceCtorEq, ↓reduceIte, nQ10, nQ7, nQ11, nQ12, nQ16, nQ17, nQ18, iQ2, iQ3, iQ4, iQ5, iQ6, lQ19, iQ7, lQ20, e5]
    exact ⟨_, by omega, q + 1, v', _, by omega, rfl, rfl, k4, p4.acc, fun h => by omega⟩
  have hqe : q = n - 1 - i := by omega
  have hne : ¬ σ.next + 1 = h3.next := by have := b.p0b.2; omega
  have hL1 := p3.one
  have hL2 := p3.cells
  have hbn : hb.next ≤ h3.next := k3.next
  obtain ⟨o, ho, hov⟩ : ∃ o : Option LS, LS.pvo o = vL ∧ ((o = none ∧ q = 0) ∨ ∃ s c, o = some ⟨s, c, cells⟩ ∧ cells.length = q ∧ 0 < q ∧ full 1 c q ∧ h3.obj s = some cells ∧ hb.next ≤ s ∧ s < h3.next) := by
    rcases Nat.eq_zero_or_pos q with e | e
    · exact ⟨none, (hnil e).symm, .inl ⟨rfl, e⟩⟩
    · obtain ⟨s, c, rfl, z1, z2, z3, z4, z5⟩ := p3.pos e
      exact ⟨some ⟨s, c, cells⟩, by simp only [LS.pvo, LS.pv]; rw [show cells.length = q by omega], .inr ⟨s, c, rfl, by omega, e, z1, z2, z4, z5⟩⟩
  subst ho
  simp only [pwA, if_true, if_false, eq_self, nm_eq, reduceCtorEq, ↓reduceIte, nQ10, nQ7, nQ11, nQ12, nQ16, nQ17, nQ18, iQ2, iQ3, iQ4, iQ5, iQ6, lQ19, iQ7, lQ20, q2, hL1, hL2, hne]
  refine TI.pushC b ⟨rfl, b.accP.one⟩ (by omega) (fun q' e => ?_) fun v5 h5 u1 u2 u3 a5 l5 => ?_
  · rcases hov with ⟨e1, _⟩ | ⟨s, c, e1, z0, z1, z2, z3, z4, z5⟩
    · rw [e1] at e; cases e
    · rw [e1] at e
      cases e
      have hb0 := a2.p0b
      have hb1 := a2.sOb
      refine ⟨⟨by rw [z0]; exact z2, z3, by have := a2.keep.next; show σ.next ≤ s; omega, z5⟩, fun hm => ?_, by show s ≠ _; omega, by show s ≠ _; omega, fun off l c' e2 => ?_, fun off l c' e2 => ?_⟩
      · have := (a2.lt hm).2
        have : s < hb.next := this
        omega
      · have : s < hb.next := pacc_lt a2.accP e2
        omega
      · have : s < hb.next := pacc_lt a2.accC e2
        omega
  simp only [pwA, if_true, if_false, eq_self, nm_eq, reduceCtorEq, ↓reduceIte, nQ10, nQ7, nQ11, nQ12, nQ16, nQ17, nQ18, iQ2, iQ3, iQ4, iQ5, iQ6, lQ19, iQ7, lQ20, u1, u2, u3, wrapS hlt' (by omega : n ≤ 4611686018427387904)]
  refine ⟨_, by omega, i + 1, v2, v5, _, ls ++ [o], by omega, rfl, rfl, a5, by rw [List.length_append]; simp; omega, by rw [List.length_append]; simp; omega, hsh.snoc (fun e => ?_) fun e => ?_⟩
  · rcases hov with ⟨e1, _⟩ | ⟨s, c, e1, z0, z1, z2, z3, z4, z5⟩
    · exact e1
    · omega
  · rcases hov with ⟨e1, e2⟩ | ⟨s, c, e1, z0, z1, z2, z3, z4, z5⟩
    · omega
    · exact ⟨_, e1, by rw [hll]; show cells.length = _; omega⟩
end Go.Proofs
namespace Go.Grp
end Go.Grp
namespace Go.Proofs
open Go.Ab Go.Lie
section
variable {σ H h : PHeap} {K : PV → PHeap → Prop} {n : Nat} {a : Nat → Nat} {b : Nat} {p : Int} {tp sO sP sC : Nat} {vO : PV} {pc cO : List PV} {ls : List (Option LS)} {O x : List Int} {capO capP capC cap : Cap} {rows cur : List SR} {Rs : List (List SR)}
theorem LI.finR {σ0 T : PHeap} {Y : List PV} {res : Nat} (hT : Keep σ0 T) (hres : σ0.next ≤ res ∧ res < T.next) (hPc : full 1 capP rows.length) (hCc : full 1 capC Rs.length) (hpc : pc.length = rows.length)
    (hfull : ∀ q, some q ∈ ls → full 1 q.cap q.cs.length) (bf : BF T H tp sO sP sC ls) (l : LI T H h tp sO sP sC vO capP capC n cO pc ls rows Rs []) (hf : Fits ls Rs)
    (hk : ∀ vQ vC t, FII vQ (rows.map SR.x) → FIII vC (Rs.map fun R => R.map SR.x) → Own σ0.top t (.agg [.int .i64 p, vQ, vC]) → σ0.top ≤ t → K (.tup [.agg [.int .i64 p, vQ, vC], .int .i64 0]) (σ0.up t)) :
    Gh σ0 K (.tup [.agg [.int .i64 p, .sl sP 0 rows.length capP, .sl sC 0 Rs.length capC], .int .i64 0]) (h.set res Y) := by
  have hTn := hT.next
  have bO := bf.b sO (by simp)
  have bP := bf.b sP (by simp)
  have bC := bf.b sC (by simp)
  have hHn := l.nx
  have hlen : ls.length = Rs.length := hf.1
  have hzl : (List.zipWith lrT ls Rs).length = Rs.length := by rw [List.length_zipWith]; omega
  have e : (TR.tup [.agg [.leaf (.int .i64 p), TR.rows sP capP rows, .lst sC capC (List.zipWith lrT ls Rs)], .leaf (.int .i64 0)]).pv = .tup [.agg [.int .i64 p, .sl sP 0 rows.length capP, .sl sC 0 Rs.length capC], .int .i64 0] := by
    simp only [TR.pv, TR.pvs, TR.row_pv, TR.rows, List.length_map, hzl]
  rw [← e]
  have ob : ∀ s, s ≠ res → (h.set res Y).obj s = h.obj s := fun s hs => by rw [pobj_set, if_neg hs]
  have rok : ∀ q : SR, q.ok h H.next → q.ok (h.set res Y) σ0.next := fun q ⟨g1, g2, g3, g4⟩ => ⟨g1, by rw [ob _ (by have := (bf.b sO (by simp)); omega)]; exact g2, by have := (bf.b sO (by simp)); omega, g4⟩
  have okR : ∀ q ∈ rows, q.ok (h.set res Y) σ0.next := fun q hq => rok q (l.ok q (.inl hq))
  refine Gh.treeO ((hT.trans l.keep).set hres.1 _) ⟨⟨trivial, TR.rows_ok hPc (by rw [ob _ (by omega), l.oP, List.drop_of_length_le (by omega), List.append_nil]) (by omega) (by show sP < h.next; omega) okR, ⟨⟨by rw [hzl]; exact hCc, by rw [ob _ (by omega), l.oC, lr_pvs hf], by omega, by show sC < h.next; omega⟩, lr_oks fun j o R ho hR => ?_⟩, trivial⟩, trivial, trivial⟩ ?_ fun a T' g1 g2 => ?_
  · cases o with
    | none => trivial
    | some q =>
      have hm := LS.mem_of_get ho
      have bq := bf.b q.s (List.mem_append.2 (.inr hm))
      have hRl : R.length = q.cs.length := hf.2 j _ _ ho hR
      obtain ⟨hj, hje⟩ := List.getElem?_eq_some_iff.1 hR
      refine TR.rows_ok (by rw [hRl]; exact hfull q (List.mem_of_getElem? ho)) ?_ (by omega) (by show q.s < h.next; omega) fun q' hq' => rok q' (l.ok q' (.inr (.inl (List.mem_flatten.2 ⟨R, List.mem_of_getElem? hR, hq'⟩))))
      rw [ob _ (by omega), l.oL j q ho]
      unfold cont
      rw [if_pos hj, List.getD_eq_getElem?_getD, hR]; rfl
  · have nd := bf.nd
    have nr := l.nd
    rw [List.append_nil] at nr
    have hp : ((TR.tup [.agg [.leaf (.int .i64 p), TR.rows sP capP rows, .lst sC capC (List.zipWith lrT ls Rs)], .leaf (.int .i64 0)]).slots).Perm (([sP, sC] ++ LS.slots ls) ++ slotsR (rows ++ Rs.flatten)) := by
      have e2 : slotsR (rows ++ Rs.flatten) = slotsR rows ++ slotsR Rs.flatten := by simp [slotsR]
      simp only [TR.slots, TR.slotss, TR.rows, TR.rows_slots, List.append_nil, List.cons_append, List.nil_append, e2]
      refine List.Perm.cons _ ?_
      have h3 := (lr_slots hf).cons sC |>.append_left (slotsR rows)
      refine h3.trans ?_
      simp only [← List.cons_append]
      rw [← List.append_assoc, ← List.append_assoc]
      exact List.perm_append_comm.append_right _
    refine hp.nodup_iff.2 (List.nodup_append.2 ⟨?_, nr, fun x hx y hy e => ?_⟩)
    · simp only [List.cons_append, List.nil_append, List.nodup_cons] at nd ⊢
      exact nd.2.2
    · have h1 := (bf.b x (by simp only [List.cons_append, List.nil_append, List.mem_cons] at hx ⊢; exact .inr (.inr hx))).2
      obtain ⟨q, hq, e3⟩ := List.mem_map.1 hy
      have h2 := (l.ok q (by rcases List.mem_append.1 hq with hq | hq; exact .inl hq; exact .inr (.inl hq))).2.2.1
      omega
  · obtain ⟨⟨w, _⟩, nd, lt⟩ := g1
    refine hk _ _ T' TR.rows_FII ⟨true, .sl (a sC) 0 Rs.length capC, TR.fzs a (List.zipWith lrT ls Rs), by simp only [TR.fz, hzl, List.length_map], lr_all2 hf⟩ ⟨w, ?_, fun o ho => lt o ?_⟩ g2
    · simpa [TR.fz, TR.fzs, ead, eads] using nd
    · simpa [TR.fz, TR.fzs, ead, eads] using ho
end
end Go.Proofs
namespace Go.Proofs
open Go.Ab Go.Lie Go.Grp
variable {σ H h : PHeap} {K : PV → PHeap → Prop} {n c : Nat} {p : Int} {O : List Int} {P : List (List Int)} {C : List (List (List Int))} {vO vP vC : PV} {s : Nat}
noncomputable def lrP (O : List Int) (P : List (List Int)) (C : List (List (List Int))) (i : Nat) : List Int := cfG O P C (Grp.pw (gm O P C) (zv O) (Grp.unit O i) (at_ O 0).toNat)
noncomputable def lrC (O : List Int) (P : List (List Int)) (C : List (List (List Int))) (i k : Nat) : List Int := cfG O P C (gbr O P C (Grp.unit O i) (Grp.unit O (i + (1 + k))))
noncomputable def lrPs (O : List Int) (P : List (List Int)) (C : List (List (List Int))) (m : Nat) : List (List Int) := (List.range m).map (lrP O P C)
noncomputable def lrR (O : List Int) (P : List (List Int)) (C : List (List (List Int))) (i m : Nat) : List (List Int) := (List.range m).map (lrC O P C i)
noncomputable def lrCs (O : List Int) (P : List (List Int)) (C : List (List (List Int))) (m : Nat) : List (List (List Int)) := (List.range m).map fun i => lrR O P C i (O.length - 1 - i)
open Classical in
noncomputable def lrRes (O : List Int) (P : List (List Int)) (C : List (List (List Int))) : (Int × List (List Int) × List (List (List Int))) × Int :=
  if codeG O P C [] = 0 then ((if O = [] then 2 else at_ O 0, lrPs O P C O.length, lrCs O P C O.length), 0) else ((0, [], []), codeG O P C [])
theorem cf_len (z : List Int) : (cfG O P C z).length = O.length := stC_len _
theorem LazardRing_T (hR : IsPr vO vP vC O P C) (sz : SzP O P C)
    (hk : ∀ p vQ vB W B c t, ResG (lrRes O P C) (p, W, B) c → IsR vQ vB W B → Own σ.top t (.agg [.int .i64 p, vQ, vB]) → σ.top ≤ t → K (.tup [.agg [.int .i64 p, vQ, vB], .int .i64 c]) (σ.up t)) : PCalls Tryz.prog 19 [.agg [vO, vP, vC]] σ K := by
  have h0 := hR.O.one
  have h1 := hR.P.one
  have h2 := hR.C.one
  refine PCalls.gh ?_
  generalize hT : (σ.new [vO, vP, vC]).new [.int .i64 0, .fz true .nils 0 [], .fz true .nils 0 []] = T
  have hTn : T.next = σ.next + 2 := by rw [← hT]; rfl
  have hTt : T.top = σ.top := by rw [← hT]; rfl
  have hkT : Keep σ T := by rw [← hT]; exact (keep_new σ _).new _
  have hs : PtrG T σ.next vO vP vC := ⟨by rw [← hT]; simp only [pwA, if_true, if_false, eq_self, nm_eq, reduceCtorEq, ↓reduceIte, nQ10, nQ7, nQ11, nQ12, nQ16, nQ17, nQ18, iQ2, iQ3, iQ4, iQ5, iQ6, lQ19, iQ7, lQ20], by omega⟩
  have hO3 : ∀ {g : PHeap} {u0 u1 u2 : PV}, Keep T g → u0.one = true → u1.one = true → u2.one = true → g.wr (σ.next + 1) 0 [u0, u1, u2] = some (g.set (σ.next + 1) [u0, u1, u2]) ∧ (g.set (σ.next + 1) [u0, u1, u2]).rd (σ.next + 1) 0 3 = some [u0, u1, u2] := fun {g u0 u1 u2} k z0 z1 z2 => by
    have hres : g.obj (σ.next + 1) = some [.int .i64 0, .fz true .nils 0 [], .fz true .nils 0 []] := by rw [k.obj _ (by omega), ← hT]; simp only [pwA, if_true, if_false, eq_self, nm_eq, reduceCtorEq, ↓reduceIte, nQ10, nQ7, nQ11, nQ12, nQ16, nQ17, nQ18, iQ2, iQ3, iQ4, iQ5, iQ6, lQ19, iQ7, lQ20]
    exact ⟨by rw [obj_wr hres, if_pos ⟨by simp, by simp only [List.all_cons, List.all_nil, z0, z1, z2]; rfl⟩]; rfl, by rw [prd_set, if_pos rfl]; rfl⟩
  refine pcalls_of_vp mix Tryz.func19 cf19 rfl ?_
  dsimp only [if19, qI, eI, nI, qD, eD]
  simp only [pwA, if_true, if_false, eq_self, nm_eq, reduceCtorEq, ↓reduceIte, nQ10, nQ7, nQ11, nQ12, nQ16, nQ17, nQ18, iQ2, iQ3, iQ4, iQ5, iQ6, lQ19, iQ7, lQ20, h0, h1, h2]
  rw [hT]
  refine lazardGroupCode_ok (xs := []) hs hR sz ⟨true, .nils, [], rfl, All2.nil _⟩ ⟨by simp, fun y hy => by cases hy⟩ ?_
  by_cases hc0 : codeG O P C [] = 0
  rotate_left
  · obtain ⟨g1, g2⟩ := hO3 (Keep.refl T) (u0 := .int .i64 0) (u1 := .fz true .nils 0 []) (u2 := .fz true .nils 0 []) rfl rfl rfl
    simp only [pwA, if_true, if_false, eq_self, nm_eq, reduceCtorEq, ↓reduceIte, nQ10, nQ7, nQ11, nQ12, nQ16, nQ17, nQ18, iQ2, iQ3, iQ4, iQ5, iQ6, lQ19, iQ7, lQ20, hc0, g1, g2]
    exact Gh.fin0T (t := σ.top) (hkT.set (by omega) _) (by show σ.top ≤ T.top; omega) ⟨⟨trivial, trivial, trivial, trivial⟩, trivial, trivial⟩ fun _ => hk 0 _ _ [] [] _ σ.top ⟨by unfold lrRes; rw [if_neg hc0]⟩ ⟨⟨true, .nils, [], rfl, All2.nil _⟩, ⟨true, .nils, [], rfl, All2.nil _⟩⟩ ⟨⟨trivial, .inl rfl, .inl rfl, trivial⟩, List.nodup_nil, fun o ho => by cases ho⟩ (Nat.le_refl _)
  obtain ⟨g, k0, _⟩ := codeG_0 hc0
  have hn6 := g.s.le
  have hR0 := hR
  obtain ⟨⟨wO, aO, rfl⟩, hP, hC⟩ := hR
  have rO : ∀ {g : PHeap}, Keep T g → g.rd1 σ.next 0 = some (.fz wO aO O.length (pis O)) := fun {g} k => by
    have := hs.obj
    rw [← k.obj _ (by omega)] at this
    rw [obj_rd1 this]; rfl
  have r0 := rO (Keep.refl T)
  simp only [pwA, if_true, if_false, eq_self, nm_eq, reduceCtorEq, ↓reduceIte, nQ10, nQ7, nQ11, nQ12, nQ16, nQ17, nQ18, iQ2, iQ3, iQ4, iQ5, iQ6, lQ19, iQ7, lQ20, hc0, r0]
  rcases Nat.eq_zero_or_pos O.length with hn0 | hpos
  · obtain ⟨g1, g2⟩ := hO3 (Keep.refl T) (u0 := .int .i64 2) (u1 := .fz true .nils 0 []) (u2 := .fz true .nils 0 []) rfl rfl rfl
    have hOn : O = [] := List.eq_nil_of_length_eq_zero hn0
    simp only [pwA, if_true, if_false, eq_self, nm_eq, reduceCtorEq, ↓reduceIte, nQ10, nQ7, nQ11, nQ12, nQ16, nQ17, nQ18, iQ2, iQ3, iQ4, iQ5, iQ6, lQ19, iQ7, lQ20, hn0, g1, g2]
    refine Gh.fin0T (t := σ.top) (hkT.set (by omega) _) (by show σ.top ≤ T.top; omega) ⟨⟨trivial, trivial, trivial, trivial⟩, trivial, trivial⟩ fun _ => hk 2 _ _ [] [] _ σ.top ⟨?_⟩ ⟨⟨true, .nils, [], rfl, All2.nil _⟩, ⟨true, .nils, [], rfl, All2.nil _⟩⟩ ⟨⟨trivial, .inl rfl, .inl rfl, trivial⟩, List.nodup_nil, fun o ho => by cases ho⟩ (Nat.le_refl _)
    unfold lrRes
    rw [if_pos hc0, if_pos hOn, hn0]; rfl
  have hpr := (g.isp hpos).bd
  have hz1 : ¬ O.length = 0 := by omega
  have hz2 : ¬ ((O.length : Int) = 0) := by omega
  have hOn : ¬ O = [] := fun e => hz1 (by rw [e]; rfl)
  have hO0 : (pis O)[0]? = some (.int .i64 (at_ O 0)) := pisA hpos
  have hz3 : (0 : Int) < O.length := by omega
  simp only [pwA, if_true, if_false, eq_self, nm_eq, reduceCtorEq, ↓reduceIte, nQ10, nQ7, nQ11, nQ12, nQ16, nQ17, nQ18, iQ2, iQ3, iQ4, iQ5, iQ6, lQ19, iQ7, lQ20, hz1, hz2, hz3, hOn, r0, hpos, hO0]
  refine zeroRing_ok (p := at_ O 0) hpos hn6 fun vQ vB pc ls h1 ti hpl hll hsh => ?_
  have d1 := ti.accP.one
  have d2 := ti.accC.one
  obtain ⟨sP, capP, rfl, cP, oP, lP, bP, xP⟩ := ti.accP.pos (by omega)
  obtain ⟨sC, capC, rfl, cC, oC, lC, bC, xC⟩ := ti.accC.pos (by omega)
  rw [hpl] at cP
  rw [hll] at cC
  have tiO := ti.oO
  have tiOb := ti.sOb
  have b : BF T (h1.new [.int .i64 (at_ O 0), .sl sP 0 O.length capP, .sl sC 0 O.length capC]) h1.next T.next sP sC ls := by
    have hb : ∀ s, s ∈ [h1.next, T.next, sP, sC] ++ LS.slots ls → T.next ≤ s ∧ s < h1.next + 1 := fun s hs => by
      simp only [List.cons_append, List.nil_append, List.mem_cons] at hs
      have := ti.keep.next
      rcases hs with rfl | rfl | rfl | rfl | hs
      · omega
      · omega
      · omega
      · omega
      · have := ti.lt hs; omega
    refine ⟨fun s hs => hb s hs, ?_⟩
    simp only [List.cons_append, List.nil_append, List.nodup_cons, List.mem_cons, not_or]
    refine ⟨⟨by omega, by omega, by omega, fun hm => by have := (ti.lt hm).2; omega⟩, ⟨fun e => ti.neP T.next (.inr (.inr rfl)) 0 _ capP (by rw [← e]), fun e => ti.neC T.next (.inr (.inr rfl)) 0 _ capC (by rw [← e]), ti.neL.2⟩, ⟨fun e => ti.nePC sP 0 _ capP rfl 0 _ capC (by rw [e]), fun hm => ti.neP sP (.inl hm) 0 _ capP rfl⟩, fun hm => ti.neC sC (.inl hm) 0 _ capC rfl, ti.nd⟩
  have li : LI T (h1.new [.int .i64 (at_ O 0), .sl sP 0 O.length capP, .sl sC 0 O.length capC]) (h1.new [.int .i64 (at_ O 0), .sl sP 0 O.length capP, .sl sC 0 O.length capC]) h1.next T.next sP sC (.int .i64 (at_ O 0)) capP capC O.length [.int .i64 (at_ O 0), .sl sP 0 pc.length capP, .sl sC 0 ls.length capC] pc ls [] [] [] := by
    refine ⟨ti.keep.new _, Nat.le_refl _, by rw [pobj_new, if_pos rfl], by rw [pobj_new, if_neg (by omega)]; exact tiO, by rw [pobj_new, if_neg (by omega)]; simpa using oP, by rw [pobj_new, if_neg (by omega)]; exact oC, fun j q hq => ?_, fun q hq => (by simp at hq), by simp [slotsR]⟩
    have := (ti.ok q (List.mem_of_getElem? hq))
    rw [pobj_new, if_neg (by have := this.2.2.2; omega), this.2.1]
    unfold cont
    simp
  rw [hpl, hll]
  rw [hpl, hll] at li
  simp only [pwA, if_true, if_false, eq_self, nm_eq, reduceCtorEq, ↓reduceIte, nQ10, nQ7, nQ11, nQ12, nQ16, nQ17, nQ18, iQ2, iQ3, iQ4, iQ5, iQ6, lQ19, iQ7, lQ20]
  clear oP oC lP lC bP bC tiO tiOb
  generalize h1.new [.int .i64 (at_ O 0), .sl sP 0 O.length capP, .sl sC 0 O.length capC] = H at *
  generalize h1.next = tp at *
  have hpt := hs.lt
  refine vp_loop (fun m us h => ∃ (i : Nat) (rows : List SR) (Rs : List (List SR)), i ≤ O.length ∧ m = O.length - i ∧ us = [.ptr σ.next 0, .ptr (σ.next + 1) 0, .int .i64 O.length, .ptr tp 0, .int .i64 O.length, .int .i64 i] ∧ LI T H h tp T.next sP sC (.int .i64 (at_ O 0)) capP capC O.length [.int .i64 (at_ O 0), .sl sP 0 O.length capP, .sl sC 0 O.length capC] pc ls rows Rs [] ∧ rows.length = i ∧ Rs.length = i ∧ rows.map SR.x = lrPs O P C i ∧ Rs.map (fun R => R.map SR.x) = lrCs O P C i) O.length ⟨0, [], [], by omega, by omega, rfl, li, rfl, rfl, rfl, rfl⟩ ?_
  as_aux_lemma =>
  rintro m us h ⟨i, rows, Rs, hi, rfl, rfl, a, hrl, hRl, hrv, hRv⟩
  have hsp : PtrG h σ.next (.fz wO aO O.length (pis O)) vP vC := ⟨by rw [a.keep.obj _ (by omega)]; exact hs.obj, by have := a.keep.next; omega⟩
  have p0 := rO a.keep
  have f1 : h.rd1 tp 1 = some (.sl sP 0 O.length capP) := by rw [obj_rd1 a.tpo]; rfl
  have f2 : h.rd1 tp 2 = some (.sl sC 0 O.length capC) := by rw [obj_rd1 a.tpo]; rfl
  have f3 : h.rd tp 0 3 = some [.int .i64 (at_ O 0), .sl sP 0 O.length capP, .sl sC 0 O.length capC] := by rw [obj_rd a.tpo]; rfl
  simp only [pwA, if_true, if_false, eq_self, nm_eq, reduceCtorEq, ↓reduceIte, nQ10, nQ7, nQ11, nQ12, nQ16, nQ17, nQ18, iQ2, iQ3, iQ4, iQ5, iQ6, lQ19, iQ7, lQ20]
  refine iteI (fun hlt => ?_) fun hge => ?_
  rotate_left
  · as_aux_lemma =>
    have hie : i = O.length := by omega
    rw [hie] at hrl hRl hrv hRv
    obtain ⟨g1, g2⟩ := hO3 a.keep (u0 := .int .i64 (at_ O 0)) (u1 := .sl sP 0 O.length capP) (u2 := .sl sC 0 O.length capC) rfl rfl rfl
    simp only [pwA, if_true, if_false, eq_self, nm_eq, reduceCtorEq, ↓reduceIte, nQ10, nQ7, nQ11, nQ12, nQ16, nQ17, nQ18, iQ2, iQ3, iQ4, iQ5, iQ6, lQ19, iQ7, lQ20, f3, g1, g2]
    have hf : Fits ls Rs := by
      refine ⟨by omega, fun j o' R ho hR => ?_⟩
      obtain ⟨hj, hje⟩ := List.getElem?_eq_some_iff.1 ho
      obtain ⟨hj2, hje2⟩ := List.getElem?_eq_some_iff.1 hR
      have hRl2 : R.length = O.length - 1 - j := by
        have e := congrArg (fun L => L[j]?) hRv
        simp only [List.getElem?_map, hR, Option.map_some] at e
        unfold lrCs at e
        rw [List.getElem?_map, List.getElem?_range (by omega)] at e
        simp only [Option.map_some, Option.some.injEq] at e
        have := congrArg List.length e
        simpa [lrR] using this
      obtain ⟨s1, s2⟩ := hsh j hj
      rw [hje] at s1 s2
      by_cases e : j + 1 = O.length
      · rw [s1 e]; exact List.eq_nil_of_length_eq_zero (by omega)
      · obtain ⟨q, e1, e2⟩ := s2 (by omega)
        rw [e1]; show R.length = _; omega
    have fin := LI.finR (K := K) (p := at_ O 0) (Y := [.int .i64 (at_ O 0), .sl sP 0 O.length capP, .sl sC 0 O.length capC]) (res := σ.next + 1) (capP := capP) (capC := capC) hkT ⟨by omega, by omega⟩ (by rw [hrl]; exact cP) (by rw [hRl]; exact cC) (by omega) (fun q hq => (ti.ok q hq).1) b a hf fun vQ vC t h2 h3 h4 h5 => hk _ vQ vC _ _ _ t ⟨by unfold lrRes; rw [if_pos hc0, if_neg hOn, hrv, hRv]⟩ ⟨h2, h3⟩ h4 h5
    rw [hrl, hRl] at fin
    exact fin
  have hlt' : i < O.length := by omega
  have hu : gS O (Grp.unit O i) := g.s.unit hlt' (Nat.zero_le _)
  have hpw := g.F.g.toMon.pw hu (at_ O 0).toNat
  have hne : ¬ tp = h.next := by have := (b.b tp (by simp)).2; have := a.nx; omega
  have hns : ¬ σ.next = h.next := by have := hsp.lt; omega
  simp only [pwA, if_true, if_false, eq_self, nm_eq, reduceCtorEq, ↓reduceIte, nQ10, nQ7, nQ11, nQ12, nQ16, nQ17, nQ18, iQ2, iQ3, iQ4, iQ5, iQ6, lQ19, iQ7, lQ20, f1, p0, hz3, hO0]
  refine unitVector_fz (by omega) hlt' fun a1 => ?_
  have fu1 : FI (.fz true a1 O.length (pis (unitL O.length i))) (Grp.unit O i) := ⟨true, a1, by rw [hu.len]; rfl⟩
  simp only [pwA, if_true, if_false, eq_self, nm_eq, reduceCtorEq, ↓reduceIte, nQ10, nQ7, nQ11, nQ12, nQ16, nQ17, nQ18, iQ2, iQ3, iQ4, iQ5, iQ6, lQ19, iQ7, lQ20, f1, p0, hz3, hO0]
  refine power_fz g.s g.F hsp hR0 (a := Grp.unit O i) (up_ hu) fu1 (k := at_ O 0) (by omega) fun v1 fv1 => ?_
  simp only [pwA, if_true, if_false, eq_self, nm_eq, reduceCtorEq, ↓reduceIte, nQ10, nQ7, nQ11, nQ12, nQ16, nQ17, nQ18, iQ2, iQ3, iQ4, iQ5, iQ6, lQ19, iQ7, lQ20, f1, p0, hz3, hO0]
  refine asSum_ok g k0 hsp hR0 hpw fv1 fun cap1 hc1 => ?_
  have hxv : cfG O P C (Grp.pw (gm O P C) (zv O) (Grp.unit O i) (at_ O 0).toNat) = lrP O P C i := rfl
  have hxl : (lrP O P C i).length = O.length := cf_len _
  rw [show cfG O P C (Grp.pw (mu O P C O.length) (zv O) (Grp.unit O i) (at_ O 0).toNat) = lrP O P C i from rfl]
  have a9 := a
  obtain ⟨u1, a2⟩ := LI.putP b a (x := lrP O P C i) (cap := cap1) (by rw [hxl]; exact hc1) (by omega)
  rw [hrl, hxl] at u1
  rw [hrl] at a2
  have f1n : (h.new (pis (lrP O P C i))).rd1 tp 1 = some (.sl sP 0 O.length capP) := by rw [obj_rd1 (a.keepI b (keep_new h _)).tpo]; rfl
  have p0n : (h.new (pis (lrP O P C i))).rd1 σ.next 0 = some (.fz wO aO O.length (pis O)) := rO ((a.keepI b (keep_new h _)).keep)
  generalize h.new (pis (lrP O P C i)) = hN at *
  have hv2 : (rows ++ [(⟨h.next, cap1, lrP O P C i⟩ : SR)]).map SR.x = lrPs O P C (i + 1) := by
    rw [List.map_append, hrv]; unfold lrPs; rw [List.range_succ, List.map_append]; rfl
  have hr2 : (rows ++ [(⟨h.next, cap1, lrP O P C i⟩ : SR)]).length = i + 1 := by rw [List.length_append, hrl]; rfl
  generalize rows ++ [(⟨h.next, cap1, lrP O P C i⟩ : SR)] = rows2 at *
  clear f1 f2 f3 p0 hrv hrl a9
  generalize hN.set sP (rows2.map SR.pv ++ pc.drop (i + 1)) = h0 at *
  have lC : ∀ {g : PHeap} {cur : List SR}, LI T H g tp T.next sP sC (.int .i64 (at_ O 0)) capP capC O.length [.int .i64 (at_ O 0), .sl sP 0 O.length capP, .sl sC 0 O.length capC] pc ls rows2 Rs cur → g.rd1 tp 2 = some (.sl sC 0 O.length capC) ∧ g.rd1 sC i = some (LS.pvo (ls[i]'(by omega))) := fun {g cur} l => by
    refine ⟨by rw [obj_rd1 l.tpo]; rfl, ?_⟩
    rw [obj_rd1 l.oC, List.getElem?_map, List.getElem?_eq_getElem (by omega)]; rfl
  obtain ⟨g2, gC⟩ := lC a2
  obtain ⟨s1, s2⟩ := hsh i (by omega)
  have hpl : pLen (LS.pvo (ls[i]'(by omega))) = some (.int .i64 ((O.length - 1 - i : Nat) : Int)) := by
    by_cases e : i + 1 = O.length
    · rw [s1 e, show O.length - 1 - i = 0 by omega]; rfl
    · obtain ⟨q', e1, e2⟩ := s2 (by omega)
      rw [e1, ← e2]; rfl
  simp only [pwA, if_true, if_false, eq_self, nm_eq, reduceCtorEq, ↓reduceIte, nQ10, nQ7, nQ11, nQ12, nQ16, nQ17, nQ18, iQ2, iQ3, iQ4, iQ5, iQ6, lQ19, iQ7, lQ20, f1n, p0n, hlt', u1, g2, gC, hpl, hz3, hO0]
  clear u1 f1n p0n
  refine vp_abs 2 (fun e h => ∃ (cur : List SR) (b0 : PV), e = PEnv.mk [1, 2, 5, 6, 7, 26, 27, 48, 49, 50] [.ptr σ.next 0, .ptr (σ.next + 1) 0, .int .i64 O.length, .ptr tp 0, .int .i64 i, .int .i64 O.length, .int .i64 i, .int .i64 ((O.length - 1 - i : Nat) : Int), .int .i64 ((O.length - 1 - i : Nat) : Int), b0] ∧ LI T H h tp T.next sP sC (.int .i64 (at_ O 0)) capP capC O.length [.int .i64 (at_ O 0), .sl sP 0 O.length capP, .sl sC 0 O.length capC] pc ls rows2 Rs cur ∧ cur.map SR.x = lrR O P C i (O.length - 1 - i)) (fun Q hQ => ?_) ?_
  rotate_left
  · as_aux_lemma =>
    rintro e h9 ⟨cur, b0, rfl, l, hcv⟩
    have hcl : cur.length = O.length - 1 - i := by have := congrArg List.length hcv; simpa [lrR] using this
    have l2 := l.close (fun q' hq' => by
      rw [hRl] at hq'
      obtain ⟨hj, hje⟩ := List.getElem?_eq_some_iff.1 hq'
      by_cases e : i + 1 = O.length
      · rw [s1 e] at hje; cases hje
      · obtain ⟨q2, e1, e2⟩ := s2 (by omega)
        rw [e1] at hje; cases hje; omega)
    simp only [pwA, if_true, if_false, eq_self, nm_eq, reduceCtorEq, ↓reduceIte, nQ10, nQ7, nQ11, nQ12, nQ16, nQ17, nQ18, iQ2, iQ3, iQ4, iQ5, iQ6, lQ19, iQ7, lQ20, wrapS hlt' (by omega : O.length ≤ 4611686018427387904)]
    refine ⟨_, by omega, i + 1, rows2, Rs ++ [cur], by omega, rfl, rfl, l2, hr2, by rw [List.length_append, hRl]; rfl, hv2, ?_⟩
    rw [List.map_append, hRv]
    unfold lrCs
    rw [List.range_succ, List.map_append]
    simp only [List.map_cons, List.map_nil, hcv]
  as_aux_lemma =>
  refine vp_loop (fun m us h => ∃ (k : Nat) (cur : List SR), k ≤ O.length - 1 - i ∧ m = O.length - 1 - i - k ∧ us = [.ptr σ.next 0, .ptr (σ.next + 1) 0, .int .i64 O.length, .ptr tp 0, .int .i64 i, .int .i64 O.length, .int .i64 i, .int .i64 ((O.length - 1 - i : Nat) : Int), .int .i64 k] ∧ LI T H h tp T.next sP sC (.int .i64 (at_ O 0)) capP capC O.length [.int .i64 (at_ O 0), .sl sP 0 O.length capP, .sl sC 0 O.length capC] pc ls rows2 Rs cur ∧ cur.length = k ∧ cur.map SR.x = lrR O P C i k) (O.length - 1 - i) ⟨0, [], by omega, by omega, rfl, a2, rfl, rfl⟩ ?_
  rintro m us h8 ⟨k, cur, hk8, rfl, rfl, l, hcl, hcv⟩
  obtain ⟨g2, gC⟩ := lC l
  simp only [pwA, if_true, if_false, eq_self, nm_eq, reduceCtorEq, ↓reduceIte, nQ10, nQ7, nQ11, nQ12, nQ16, nQ17, nQ18, iQ2, iQ3, iQ4, iQ5, iQ6, lQ19, iQ7, lQ20]
  refine iteI (fun hltk => ?_) fun hgek => ?_
  rotate_left
  · have hke : k = O.length - 1 - i := by omega
    rw [hke] at hcv
    exact hQ _ _ ⟨cur, _, by rw [hke], l, hcv⟩
  have hkn : k < O.length - 1 - i := by omega
  obtain ⟨q0, e1, e2⟩ := s2 (by omega)
  have hj : i + (1 + k) < O.length := by omega
  have huj : gS O (Grp.unit O (i + (1 + k))) := g.s.unit hj (Nat.zero_le _)
  have ew1 : IntKind.i64.wrap ((i : Int) + 1) = ((i + 1 : Nat) : Int) := by rw [wrap64 (by omega) (by omega)]; omega
  have ew2 : IntKind.i64.wrap (((i + 1 : Nat) : Int) + (k : Int)) = ((i + (1 + k) : Nat) : Int) := by rw [wrap64 (by omega) (by omega)]; omega
  rw [e1] at gC
  have gC' : h8.rd1 sC i = some (.sl q0.s 0 q0.cs.length q0.cap) := gC
  simp only [pwA, if_true, if_false, eq_self, nm_eq, reduceCtorEq, ↓reduceIte, nQ10, nQ7, nQ11, nQ12, nQ16, nQ17, nQ18, iQ2, iQ3, iQ4, iQ5, iQ6, lQ19, iQ7, lQ20, g2, gC', hlt', ew1, ew2]
  have hsp8 : PtrG h8 σ.next (.fz wO aO O.length (pis O)) vP vC := ⟨by rw [l.keep.obj _ (by omega)]; exact hs.obj, by have := l.keep.next; omega⟩
  refine unitVector_fz (by omega) hlt' fun a3 => ?_
  simp only [pwA, if_true, if_false, eq_self, nm_eq, reduceCtorEq, ↓reduceIte, nQ10, nQ7, nQ11, nQ12, nQ16, nQ17, nQ18, iQ2, iQ3, iQ4, iQ5, iQ6, lQ19, iQ7, lQ20, g2, gC', hlt', ew1, ew2]
  refine unitVector_fz (by omega) hj fun a4 => ?_
  simp only [pwA, if_true, if_false, eq_self, nm_eq, reduceCtorEq, ↓reduceIte, nQ10, nQ7, nQ11, nQ12, nQ16, nQ17, nQ18, iQ2, iQ3, iQ4, iQ5, iQ6, lQ19, iQ7, lQ20, g2, gC', hlt', ew1, ew2]
  refine PCalls.fzI (fun K' h' => groupBracket_ok g k0 hsp8 hR0 (x := Grp.unit O i) (y := Grp.unit O (i + (1 + k))) hu huj ⟨true, a3, by rw [hu.len]; rfl⟩ ⟨true, a4, by rw [huj.len]; rfl⟩ fun _ => h') fun a5 => ?_
  have hbr := gbr_in g k0 hu huj
  simp only [pwA, if_true, if_false, eq_self, nm_eq, reduceCtorEq, ↓reduceIte, nQ10, nQ7, nQ11, nQ12, nQ16, nQ17, nQ18, iQ2, iQ3, iQ4, iQ5, iQ6, lQ19, iQ7, lQ20, g2, gC', hlt', ew1, ew2]
  refine asSum_ok g k0 hsp8 hR0 hbr ⟨true, a5, rfl⟩ fun cap2 hc2 => ?_
  have hxl : (lrC O P C i k).length = O.length := cf_len _
  rw [show cfG O P C (gbr O P C (Grp.unit O i) (Grp.unit O (i + (1 + k)))) = lrC O P C i k from rfl]
  have hq0 : ls[Rs.length]? = some (some q0) := by rw [hRl, List.getElem?_eq_getElem (by omega), e1]
  obtain ⟨u1, l2⟩ := LI.putC b l (x := lrC O P C i k) (cap := cap2) (by rw [hxl]; exact hc2) hq0 (by omega)
  rw [hcl, hxl] at u1
  rw [hcl] at l2
  have lN := l.keepI b (keep_new h8 (pis (lrC O P C i k)))
  obtain ⟨j2, jC⟩ := lC lN
  rw [e1] at jC
  have jC' : (h8.new (pis (lrC O P C i k))).rd1 sC i = some (.sl q0.s 0 q0.cs.length q0.cap) := jC
  generalize h8.new (pis (lrC O P C i k)) = hN at *
  have hcv2 : (cur ++ [(⟨h8.next, cap2, lrC O P C i k⟩ : SR)]).map SR.x = lrR O P C i (k + 1) := by
    rw [List.map_append, hcv]; unfold lrR; rw [List.range_succ, List.map_append]; rfl
  have hcl2 : (cur ++ [(⟨h8.next, cap2, lrC O P C i k⟩ : SR)]).length = k + 1 := by rw [List.length_append, hcl]; rfl
  generalize cur ++ [(⟨h8.next, cap2, lrC O P C i k⟩ : SR)] = cur2 at *
  generalize hN.set q0.s (cur2.map SR.pv ++ q0.cs.drop (k + 1)) = hE at *
  have hkq : k < q0.cs.length := by omega
  simp only [pwA, if_true, if_false, eq_self, nm_eq, reduceCtorEq, ↓reduceIte, nQ10, nQ7, nQ11, nQ12, nQ16, nQ17, nQ18, iQ2, iQ3, iQ4, iQ5, iQ6, lQ19, iQ7, lQ20, j2, jC', hlt', hkq, u1, ew1, ew2, wrapS hkn (by omega : O.length - 1 - i ≤ 4611686018427387904)]
  exact ⟨_, by omega, k + 1, cur2, by omega, rfl, rfl, l2, hcl2, hcv2⟩
end Go.Proofs
namespace Go.Grp
end Go.Grp
namespace Go.Proofs
open Go.Ab Go.Lie
section
variable {σ H h : PHeap} {K : PV → PHeap → Prop}
structure SU (T h : PHeap) (p0 : Nat) (v0 : PV) (fs : List (PV × List PV)) (ls : List LS) : Prop where
  keep : Keep T h
  obj : h.obj p0 = some (v0 :: fs.map Prod.fst)
  p0b : T.next ≤ p0 ∧ p0 < h.next
  acc : ∀ f, f ∈ fs → PSl T.next 1 h f.1 f.2.length f.2
  ne : ∀ f, f ∈ fs → ∀ off l c, f.1 ≠ .sl p0 off l c
  dis : ∀ (i j : Nat) f g, fs[i]? = some f → fs[j]? = some g → i ≠ j → ∀ s off l c, f.1 = .sl s off l c → ∀ off l c, g.1 ≠ .sl s off l c
  lok : ∀ q, q ∈ ls → q.ok h T.next
  lne : ∀ q, q ∈ ls → q.s ≠ p0 ∧ ∀ f, f ∈ fs → ∀ off l c, f.1 ≠ .sl q.s off l c
variable {T : PHeap} {p0 : Nat} {v0 : PV} {fs : List (PV × List PV)} {ls : List LS}
theorem SU.keepI {h2 : PHeap} (a : SU T h p0 v0 fs ls) (k : Keep h h2) : SU T h2 p0 v0 fs ls :=
  ⟨a.keep.trans k, by rw [k.obj _ a.p0b.2]; exact a.obj, ⟨a.p0b.1, Nat.lt_of_lt_of_le a.p0b.2 k.next⟩, fun f hf => (a.acc f hf).keep k, a.ne, a.dis, fun q hq => (a.lok q hq).move (k.obj _ (a.lok q hq).2.2.2) k.next, a.lne⟩
theorem SU.more {q : LS} (a : SU T h p0 v0 fs ls) (h1 : q.ok h T.next) (h2 : q.s ≠ p0 ∧ ∀ f, f ∈ fs → ∀ off l c, f.1 ≠ .sl q.s off l c) : SU T h p0 v0 fs (ls ++ [q]) :=
  ⟨a.keep, a.obj, a.p0b, a.acc, a.ne, a.dis, fun q' hq => (List.mem_append.1 hq).elim (a.lok q') fun e => by rw [List.mem_singleton.1 e]; exact h1, fun q' hq => (List.mem_append.1 hq).elim (a.lne q') fun e => by rw [List.mem_singleton.1 e]; exact h2⟩
theorem SU.push {K : PV × PHeap → Prop} {bytes j : Nat} {v x : PV} {cs : List PV} (a : SU T h p0 v0 fs ls) (hj : fs[j]? = some (v, cs)) (hb : cs.length ≤ 1000) (hby : bytes ≤ 24) (hone : ∀ f, f ∈ fs → f.1.one = true)
    (k : ∀ v' h2, v'.one = true → v'.cells = [v'] → h2.wr p0 (j + 1) [v'] = some (h2.set p0 (v0 :: (fs.set j (v', cs ++ [x])).map Prod.fst)) → SU T (h2.set p0 (v0 :: (fs.set j (v', cs ++ [x])).map Prod.fst)) p0 v0 (fs.set j (v', cs ++ [x])) ls → K (v', h2)) :
    optK (pappend 1 bytes (h.new [x]) v (.sl h.next 0 1 (.known 1))) K := by
  have hm : (v, cs) ∈ fs := List.mem_of_getElem? hj
  obtain ⟨hjl, hje⟩ := List.getElem?_eq_some_iff.1 hj
  have hb2 : (cs.length + 1) * bytes ≤ 1001 * 24 := Nat.mul_le_mul (by omega) hby
  refine PAcc.pushS (σb := T) (bytes := bytes) a.keep (a.acc _ hm).acc rfl (by show (cs.length + 1) * bytes ≤ _; omega) (by show cs.length + 1 ≤ _; omega) fun v' h2 k2 a2 o2 n2 l2 => ?_
  have hp := a.p0b
  have hob : h2.obj p0 = some (v0 :: fs.map Prod.fst) := by rw [o2 _ hp.2 (a.ne _ hm)]; exact a.obj
  have hset : (fs.set j (v', cs ++ [x])).map Prod.fst = (fs.map Prod.fst).set j v' := by rw [List.map_set]
  have hmem : ∀ f, f ∈ fs.set j (v', cs ++ [x]) → f = (v', cs ++ [x]) ∨ ∃ i, i ≠ j ∧ fs[i]? = some f := fun f hf => by
    obtain ⟨i, hi⟩ := List.getElem?_of_mem hf
    rw [List.getElem?_set] at hi
    split at hi
    · first
      | (cases hi; exact .inl rfl)
      | (split at hi
         · cases hi; exact .inl rfl
         · cases hi)
    · rename_i e; exact .inr ⟨i, fun e2 => e e2.symm, hi⟩
  refine k v' h2 a2.one a2.cells ?_ ⟨k2.set hp.1 _, by rw [pobj_set, if_pos rfl], ⟨hp.1, by show p0 < h2.next; omega⟩, fun f hf => ?_, fun f hf => ?_, fun i1 i2 f g hf hg hne s off l c e => ?_, fun q hq => ?_, fun q hq => ⟨(a.lne q hq).1, fun f hf => ?_⟩⟩
  · rw [obj_wr hob, if_pos ⟨by simp only [List.length_cons, List.length_map, List.length_nil]; omega, by simp only [List.all_cons, List.all_nil, a2.one]; rfl⟩, hset]
    congr 2
    rw [List.append_assoc, List.singleton_append, List.length_singleton, take_set _ (by rw [List.length_cons, List.length_map]; exact Nat.succ_lt_succ hjl), List.set_cons_succ]
  · rcases hmem f hf with rfl | ⟨i, hi, he⟩
    · have a3 : PSl T.next 1 (h2.set p0 (v0 :: (fs.set j (v', cs ++ [x])).map Prod.fst)) v' (cs.length + 1) (cs ++ [x]) := psl_move a2 (fun s off l c e => by rw [pobj_set, if_neg fun e2 => n2 p0 hp.2 off l c (by rw [e, e2])]) (Nat.le_refl _)
      simpa using a3
    · have hfm := List.mem_of_getElem? he
      refine psl_move (a.acc f hfm) (fun s off l c e => ?_) (Nat.le_of_lt l2)
      rw [pobj_set, if_neg fun e2 => a.ne f hfm off l c (by rw [e, e2]), o2 s (psl_lt (a.acc f hfm) e) (a.dis i j f _ he hj hi s off l c e)]
  · rcases hmem f hf with rfl | ⟨i, hi, he⟩
    · exact n2 p0 hp.2
    · exact a.ne f (List.mem_of_getElem? he)
  · rw [List.getElem?_set] at hf hg
    by_cases e1 : j = i1
    · rw [if_pos e1, if_pos hjl] at hf
      cases hf
      rw [if_neg fun e2 => hne (e1.symm.trans e2)] at hg
      have hgm := List.mem_of_getElem? hg
      intro off' l' c' e'
      exact n2 s (psl_lt (a.acc g hgm) e') off l c e
    · rw [if_neg e1] at hf
      have hfm := List.mem_of_getElem? hf
      by_cases e2 : j = i2
      · rw [if_pos e2, if_pos hjl] at hg
        cases hg
        exact n2 s (psl_lt (a.acc f hfm) e)
      · rw [if_neg e2] at hg
        exact a.dis i1 i2 f g hf hg hne s off l c e
  · have hq' := a.lok q hq
    refine hq'.move ?_ (Nat.le_of_lt l2)
    rw [pobj_set, if_neg (a.lne q hq).1, o2 _ hq'.2.2.2 ((a.lne q hq).2 _ hm)]
  · rcases hmem f hf with rfl | ⟨i, hi, he⟩
    · exact n2 _ (a.lok q hq).2.2.2
    · exact (a.lne q hq).2 f (List.mem_of_getElem? he)
theorem SU.setV (a : SU T h p0 v0 fs ls) {v : PV} (hv : v.one = true) : h.wr p0 0 [v] = some (h.set p0 (v :: fs.map Prod.fst)) ∧ SU T (h.set p0 (v :: fs.map Prod.fst)) p0 v fs ls := by
  have hp := a.p0b
  refine ⟨by rw [obj_wr a.obj, if_pos ⟨by simp, by simp only [List.all_cons, List.all_nil, hv]; rfl⟩]; rfl, a.keep.set hp.1 _, by rw [pobj_set, if_pos rfl], hp, fun f hf => ?_, a.ne, a.dis, fun q hq => ?_, a.lne⟩
  · exact psl_move (a.acc f hf) (fun s off l c e => by rw [pobj_set, if_neg fun e2 => a.ne f hf off l c (by rw [e, e2])]) (Nat.le_refl _)
  · exact (a.lok q hq).move (by rw [pobj_set, if_neg (a.lne q hq).1]) (Nat.le_refl _)
end
end Go.Proofs
namespace Go.Grp
open Go.Lie Go.Ab
variable {O : List Int} {P : List (List Int)} {C : List (List (List Int))}
theorem pow_rel (s : Shp O P C) (F : Full O P C O.length) {i : Nat} (hi : i < O.length) : Grp.pw (gm O P C) (zv O) (unit O i) (at_ O i).toNat = pvec P i := by
  have h1 := F.rel.pow i (by omega) hi
  have hv : TT O (i + 1) (pvec P i) := s.pw i hi
  have h2 := F.nfx (hv.mono (Nat.zero_le _))
  have h3 := F.g.toMon.ph_skip (h := unit O) (x := nx (pvec P i)) (d := O.length - (i + 1)) (k := i + 1) (t := 0) (fun j h1 h2 => by show (at_ _ j).toNat = 0; rw [hv.zero j (by omega)]; rfl) (fun j h1 h2 => s.unit (by omega) (Nat.zero_le _))
  rw [show i + 1 + (O.length - (i + 1)) = O.length by omega, h2, Nat.zero_add] at h3
  refine h1.trans ?_
  show ph _ _ _ _ (O.length - (O.length - (i + 1))) _ = _
  rw [show O.length - (O.length - (i + 1)) = i + 1 by omega]
  exact h3.symm
end Go.Grp
namespace Go.Proofs
open Go.Ab Go.Lie Go.Grp
variable {σ H h : PHeap} {K : PV → PHeap → Prop} {n c : Nat} {p : Int} {O : List Int} {P : List (List Int)} {C : List (List (List Int))} {vO vP vC : PV} {s : Nat}
theorem l34Ring_ok (g : LG O P C) (k0 : clsOk O P C) (hR : IsPr vO vP vC O P C) (hk : ∀ q vQ vB, (q = if O = [] then 2 else at_ O 0) → FII vQ (lrPs O P C O.length) → FIII vB (lrCs O P C O.length) → K (.agg [.int .i64 q, vQ, vB]) σ) : PCalls Tryz.prog 44 [.agg [vO, vP, vC]] σ K := by
  have hn6 := g.s.le
  have hR0 := hR
  have hB1 := hR.C.one
  obtain ⟨⟨wO, aO, rfl⟩, ⟨wp, ap, rp, rfl, hrp⟩, hC⟩ := hR
  have hPl : P.length = O.length := g.pr.2.1
  refine PCalls.gh ?_
  generalize hT : (σ.new [.fz wO aO O.length (pis O), .fz wp ap P.length rp, vC]).new [.int .i64 0, .fz true .nils 0 [], .fz true .nils 0 []] = T
  have hTn : T.next = σ.next + 2 := by rw [← hT]; rfl
  have hkT : Keep σ T := by rw [← hT]; exact (keep_new σ _).new _
  have ld : ∀ {g : PHeap}, Keep T g → g.rd σ.next 0 3 = some [.fz wO aO O.length (pis O), .fz wp ap P.length rp, vC] ∧ g.rd1 σ.next 0 = some (.fz wO aO O.length (pis O)) ∧ g.rd1 σ.next 1 = some (.fz wp ap P.length rp) := fun {g} k => by
    have ob : g.obj σ.next = some [.fz wO aO O.length (pis O), .fz wp ap P.length rp, vC] := by rw [k.obj _ (by omega), ← hT]; simp only [pwA, if_true, if_false, eq_self, nm_eq, reduceCtorEq, ↓reduceIte, nQ10, nQ7, nQ11, nQ12, nQ16, nQ17, nQ18, iQ2, iQ3, iQ4, iQ5, iQ6, lQ19, iQ7, lQ20]
    exact ⟨by rw [obj_rd ob]; rfl, by rw [obj_rd1 ob]; rfl, by rw [obj_rd1 ob]; rfl⟩
  have hO3 : ∀ {g : PHeap} {u0 u1 u2 : PV}, Keep T g → u0.one = true → u1.one = true → u2.one = true → g.wr (σ.next + 1) 0 [u0, u1, u2] = some (g.set (σ.next + 1) [u0, u1, u2]) ∧ (g.set (σ.next + 1) [u0, u1, u2]).rd (σ.next + 1) 0 3 = some [u0, u1, u2] := fun {g u0 u1 u2} k z0 z1 z2 => by
    have hres : g.obj (σ.next + 1) = some [.int .i64 0, .fz true .nils 0 [], .fz true .nils 0 []] := by rw [k.obj _ (by omega), ← hT]; simp only [pwA, if_true, if_false, eq_self, nm_eq, reduceCtorEq, ↓reduceIte, nQ10, nQ7, nQ11, nQ12, nQ16, nQ17, nQ18, iQ2, iQ3, iQ4, iQ5, iQ6, lQ19, iQ7, lQ20]
    exact ⟨by rw [obj_wr hres, if_pos ⟨by simp, by simp only [List.all_cons, List.all_nil, z0, z1, z2]; rfl⟩]; rfl, by rw [prd_set, if_pos rfl]; rfl⟩
  obtain ⟨l3, l0, l1⟩ := ld (Keep.refl T)
  refine pcalls_of_vp mix Tryz.func44 cf44 rfl ?_
  dsimp only [if44, qI, eI, nI, qD, eD]
  simp only [pwA, if_true, if_false, eq_self, nm_eq, reduceCtorEq, ↓reduceIte, nQ10, nQ7, nQ11, nQ12, nQ16, nQ17, nQ18, iQ2, iQ3, iQ4, iQ5, iQ6, lQ19, iQ7, lQ20, hB1]
  rw [hT]
  simp only [pwA, if_true, if_false, eq_self, nm_eq, reduceCtorEq, ↓reduceIte, nQ10, nQ7, nQ11, nQ12, nQ16, nQ17, nQ18, iQ2, iQ3, iQ4, iQ5, iQ6, lQ19, iQ7, lQ20, l0]
  refine vp_loop (fun m us h => ∃ (i : Nat) (q : Int) (vQ vB : PV) (cP cC : List PV) (ls : List LS), i ≤ O.length ∧ m = O.length - i ∧ us = [.ptr σ.next 0, .ptr (σ.next + 1) 0, .int .i64 O.length, .ptr (σ.next + 4) 0, .int .i64 i] ∧ SU T h (σ.next + 4) (.int .i64 q) [(vQ, cP), (vB, cC)] ls ∧ (q = if i = 0 then 2 else at_ O 0) ∧ All2 FI cP (lrPs O P C i) ∧ cC = ls.map LS.pv ∧ RowsOf ls (lrCs O P C i)) O.length ?_ ?_
  · refine ⟨0, 2, .sl (σ.next + 2) 0 0 (.known 0), .sl (σ.next + 3) 0 0 (.known 0), [], [], [], by omega, by omega, rfl, ⟨((keep_new T _).new _).new _, by simp only [pwA, if_true, if_false, eq_self, nm_eq, reduceCtorEq, ↓reduceIte, nQ10, nQ7, nQ11, nQ12, nQ16, nQ17, nQ18, iQ2, iQ3, iQ4, iQ5, iQ6, lQ19, iQ7, lQ20, hTn], ⟨by omega, by first | (simp only [pwA, if_true, if_false, eq_self, nm_eq, reduceCtorEq, ↓reduceIte, nQ10, nQ7, nQ11, nQ12, nQ16, nQ17, nQ18, iQ2, iQ3, iQ4, iQ5, iQ6, lQ19, iQ7, lQ20, hTn]; done) | (simp only [pwA, if_true, if_false, eq_self, nm_eq, reduceCtorEq, ↓reduceIte, nQ10, nQ7, nQ11, nQ12, nQ16, nQ17, nQ18, iQ2, iQ3, iQ4, iQ5, iQ6, lQ19, iQ7, lQ20, hTn]; omega)⟩, fun f hf => ?_, fun f hf off l c e => ?_, fun i j f g hf hg hne s off l c e off' l' c' e' => ?_, fun q hq => (by cases hq), fun q hq => (by cases hq)⟩, rfl, All2.nil _, rfl, All2.nil _⟩
    · simp only [List.mem_cons, List.not_mem_nil, or_false] at hf
      rcases hf with rfl | rfl
      · exact PSl.own (.inr rfl) (by simp only [pwA, if_true, if_false, eq_self, nm_eq, reduceCtorEq, ↓reduceIte, nQ10, nQ7, nQ11, nQ12, nQ16, nQ17, nQ18, iQ2, iQ3, iQ4, iQ5, iQ6, lQ19, iQ7, lQ20, hTn]) rfl (by omega) (by first | (simp only [pwA, if_true, if_false, eq_self, nm_eq, reduceCtorEq, ↓reduceIte, nQ10, nQ7, nQ11, nQ12, nQ16, nQ17, nQ18, iQ2, iQ3, iQ4, iQ5, iQ6, lQ19, iQ7, lQ20, hTn]; done) | (simp only [pwA, if_true, if_false, eq_self, nm_eq, reduceCtorEq, ↓reduceIte, nQ10, nQ7, nQ11, nQ12, nQ16, nQ17, nQ18, iQ2, iQ3, iQ4, iQ5, iQ6, lQ19, iQ7, lQ20, hTn]; omega))
      · exact PSl.own (.inr rfl) (by simp only [pwA, if_true, if_false, eq_self, nm_eq, reduceCtorEq, ↓reduceIte, nQ10, nQ7, nQ11, nQ12, nQ16, nQ17, nQ18, iQ2, iQ3, iQ4, iQ5, iQ6, lQ19, iQ7, lQ20, hTn]) rfl (by omega) (by first | (simp only [pwA, if_true, if_false, eq_self, nm_eq, reduceCtorEq, ↓reduceIte, nQ10, nQ7, nQ11, nQ12, nQ16, nQ17, nQ18, iQ2, iQ3, iQ4, iQ5, iQ6, lQ19, iQ7, lQ20, hTn]; done) | (simp only [pwA, if_true, if_false, eq_self, nm_eq, reduceCtorEq, ↓reduceIte, nQ10, nQ7, nQ11, nQ12, nQ16, nQ17, nQ18, iQ2, iQ3, iQ4, iQ5, iQ6, lQ19, iQ7, lQ20, hTn]; omega))
    · simp only [List.mem_cons, List.not_mem_nil, or_false] at hf
      rcases hf with rfl | rfl <;> (simp only [PV.sl.injEq] at e; omega)
    · match i, j with
      | 0, 0 => exact hne rfl
      | 1, 1 => exact hne rfl
      | 0, 1 | 1, 0 => cases hf; cases hg; simp only [PV.sl.injEq] at e e'; omega
      | i + 2, _ => simp at hf
      | 0, j + 2 | 1, j + 2 => simp at hg
  as_aux_lemma =>
  rintro m us h ⟨i, q, vQ, vB, cP, cC, ls, hi, rfl, rfl, a, hq, hcP, hcC, hcR⟩
  obtain ⟨l3, l0, l1⟩ := ld a.keep
  have aP := a.acc (vQ, cP) (by simp)
  have aC := a.acc (vB, cC) (by simp)
  have f3 : h.rd (σ.next + 4) 0 3 = some [.int .i64 q, vQ, vB] := by rw [obj_rd a.obj]; rfl
  simp only [pwA, if_true, if_false, eq_self, nm_eq, reduceCtorEq, ↓reduceIte, nQ10, nQ7, nQ11, nQ12, nQ16, nQ17, nQ18, iQ2, iQ3, iQ4, iQ5, iQ6, lQ19, iQ7, lQ20]
  refine iteI (fun hlt => ?_) fun hge => ?_
  rotate_left
  · as_aux_lemma =>
    have hie : i = O.length := by omega
    subst hie
    obtain ⟨g1, g2⟩ := hO3 a.keep (u0 := .int .i64 q) rfl aP.one aC.one
    simp only [pwA, if_true, if_false, eq_self, nm_eq, reduceCtorEq, ↓reduceIte, nQ10, nQ7, nQ11, nQ12, nQ16, nQ17, nQ18, iQ2, iQ3, iQ4, iQ5, iQ6, lQ19, iQ7, lQ20, f3, g1, g2]
    obtain ⟨sP, capP, e2, q1, q2, q3, q4, q5⟩ := aP
    obtain ⟨sC, capC, e3, r1, r2, r3, r4, r5⟩ := aC
    dsimp only at e2 q1 q2 q3 e3 r1 r2 r3
    subst e2 e3
    have et : (TR.agg [.leaf (.int .i64 q), .lst sP capP (cP.map TR.leaf), .lst sC capC (ls.map LS.tr)]).pv = .agg [.int .i64 q, .sl sP 0 cP.length capP, .sl sC 0 cC.length capC] := by
      simp only [TR.pv, TR.pvs, List.length_map]; rw [hcC, List.length_map]
    rw [← et]
    have ob : ∀ s, T.next ≤ s → (h.set (σ.next + 1) [.int .i64 q, .sl sP 0 cP.length capP, .sl sC 0 cC.length capC]).obj s = h.obj s := fun s hs => by rw [pobj_set, if_neg (by omega)]
    refine Gh.treeF ((hkT.trans a.keep).set (by omega) _) ⟨trivial, ⟨⟨by rw [List.length_map]; exact q1, by rw [ob _ q4, leafs_pvs]; exact q2, by omega, q5⟩, leafs_okF (hcP.bI 0)⟩, ⟨⟨by rw [List.length_map]; rw [hcC, List.length_map] at r1; exact r1, by rw [ob _ r4, LS.tr_pvs, ← hcC]; exact r2, by omega, r5⟩, LS.trs_okF fun q hq => ?_⟩, trivial⟩ fun aa => hk q _ _ ?_ ⟨true, .sl (aa sP) 0 cP.length capP, cP, ?_, hcP⟩ ⟨true, .sl (aa sC) 0 ls.length capC, TR.fzs aa (ls.map LS.tr), ?_, rowsOf_all2 hcR⟩
    · obtain ⟨g1, g2, g3, g4⟩ := a.lok q hq
      refine ⟨⟨g1, by rw [ob _ g3]; exact g2, by omega, g4⟩, ?_⟩
      obtain ⟨k, hk9, rfl⟩ := List.mem_iff_getElem.1 hq
      exact (hcR.2 k _ _ (List.getElem?_eq_getElem hk9) (List.getElem?_eq_getElem (by rw [← hcR.1]; exact hk9))).bI 0
    · rw [hq]
      by_cases e : O = []
      · rw [if_pos e, if_pos (by rw [e]; rfl)]
      · rw [if_neg e, if_neg fun e2 => e (List.eq_nil_of_length_eq_zero e2)]
    · simp only [TR.fz, leafs_fzs, List.length_map]; rw [hcP.1]
    · simp only [TR.fz, List.length_map]; rw [hcR.1]
  have hlt' : i < O.length := by omega
  have hiP : i < P.length := by omega
  have hz3 : (0 : Int) < O.length := by omega
  have hO0 : (pis O)[0]? = some (.int .i64 (at_ O 0)) := pisA (by omega)
  have hcPl : cP.length = i := by rw [hcP.1]; simp [lrPs]
  have hcCl : cC.length = i := by rw [hcC, List.length_map, hcR.1]; simp [lrCs]
  obtain ⟨y1, a1⟩ := a.setV (v := .int .i64 (at_ O 0)) rfl
  simp only [List.map_cons, List.map_nil] at y1 a1
  generalize h.set (σ.next + 4) [.int .i64 (at_ O 0), vQ, vB] = h2 at *
  simp only [pwA, if_true, if_false, eq_self, nm_eq, reduceCtorEq, ↓reduceIte, nQ10, nQ7, nQ11, nQ12, nQ16, nQ17, nQ18, iQ2, iQ3, iQ4, iQ5, iQ6, lQ19, iQ7, lQ20, l0, hz3, hO0, y1]
  clear y1
  obtain ⟨l3, l0, l1⟩ := ld a1.keep
  have f1 : h2.rd1 (σ.next + 4) 1 = some vQ := by rw [obj_rd1 a1.obj]; rfl
  obtain ⟨w4, a4, hr4⟩ := hrp.rowI hiP
  simp only [pwA, if_true, if_false, eq_self, nm_eq, reduceCtorEq, ↓reduceIte, nQ10, nQ7, nQ11, nQ12, nQ16, nQ17, nQ18, iQ2, iQ3, iQ4, iQ5, iQ6, lQ19, iQ7, lQ20, l3, l1, f1, hlt', hiP, hr4]
  have hpi : pvec P i = P[i] := by show P.getD i [] = _; rw [List.getD_eq_getElem?_getD, List.getElem?_eq_getElem hiP]; rfl
  have hpS : gS O P[i] := by rw [← hpi]; exact (g.s.pw i hlt').mono (Nat.zero_le _)
  refine l34Coefficients_ok g k0 hR0 hpS ⟨w4, a4, rfl⟩ fun v2 hv2 => ?_
  have hv2' : FI v2 (lrP O P C i) := by unfold lrP; rw [← g.eq hlt', pow_rel g.s g.F hlt', hpi]; exact hv2
  have y1 := hv2'.one
  have y2 := hv2'.cells
  have hn5 : ¬ σ.next + 4 = h2.next := by have := a1.p0b.2; omega
  simp only [pwA, if_true, if_false, eq_self, nm_eq, reduceCtorEq, ↓reduceIte, nQ10, nQ7, nQ11, nQ12, nQ16, nQ17, nQ18, iQ2, iQ3, iQ4, iQ5, iQ6, lQ19, iQ7, lQ20, y1, y2, f1, hn5]
  have hone1 : ∀ f, f ∈ [(vQ, cP), (vB, cC)] → f.1.one = true := fun f hf => (a1.acc f hf).one
  refine SU.push a1 (j := 0) (bytes := 24) rfl (by omega) (by omega) hone1 fun v3 h3 z4 z5 z6 a3 => ?_
  simp only [List.set_cons_zero, List.set_cons_succ, List.map_cons, List.map_nil] at z6 a3
  generalize h3.set (σ.next + 4) [.int .i64 (at_ O 0), v3, vB] = h4 at *
  have wi1 : IntKind.i64.wrap ((i : Int) + 1) = ((i + 1 : Nat) : Int) := wrapS hlt' (by omega)
  simp only [pwA, if_true, if_false, eq_self, nm_eq, reduceCtorEq, ↓reduceIte, nQ10, nQ7, nQ11, nQ12, nQ16, nQ17, nQ18, iQ2, iQ3, iQ4, iQ5, iQ6, lQ19, iQ7, lQ20, z4, z5, z6, wi1]
  clear z4 z5 z6 f1 f3 l3 l0 l1 y1 y2
  refine vp_abs 2 (fun e h => ∃ (vR : PV) (cells : List PV) (b0 : PV), e = PEnv.mk [1, 2, 3, 4, 5, 6, 7, 41] [.ptr σ.next 0, .ptr (σ.next + 1) 0, .int .i64 O.length, .ptr (σ.next + 4) 0, .int .i64 i, vR, .int .i64 O.length, b0] ∧ Keep h4 h ∧ PSl h4.next 1 h vR (O.length - 1 - i) cells ∧ All2 FI cells (lrR O P C i (O.length - 1 - i))) (fun Q hQ => ?_) ?_
  rotate_left
  · as_aux_lemma =>
    rintro e h9 ⟨vR, cells, b0, rfl, k9, p9, hcl⟩
    have a9 := a3.keepI k9
    obtain ⟨t, cap, rfl, hf, q2, q3, q4, q5⟩ := p9
    have f2 : h9.rd1 (σ.next + 4) 2 = some vB := by rw [obj_rd1 a9.obj]; rfl
    have hn9 : ¬ σ.next + 4 = h9.next := by have := a9.p0b.2; omega
    have hone3 : ∀ f, f ∈ [(v3, cP ++ [v2]), (vB, cC)] → f.1.one = true := fun f hf => (a9.acc f hf).one
    have hct : cells.length = O.length - 1 - i := by omega
    have a10 := SU.more (q := ⟨t, cap, cells⟩) a9 ⟨by rw [hct]; exact hf, q2, by have := a3.keep.next; show T.next ≤ t; omega, q5⟩ ⟨by have := a3.p0b.2; show t ≠ σ.next + 4; omega, fun f hf off l c e => by
      have := psl_lt (a3.acc f hf) e
      have : t < h4.next := this
      omega⟩
    simp only [pwA, if_true, if_false, eq_self, nm_eq, reduceCtorEq, ↓reduceIte, nQ10, nQ7, nQ11, nQ12, nQ16, nQ17, nQ18, iQ2, iQ3, iQ4, iQ5, iQ6, lQ19, iQ7, lQ20, f2, hn9]
    refine SU.push a10 (j := 1) (bytes := 24) rfl (by omega) (by omega) hone3 fun v5 h5 z1 z2 z3 a5 => ?_
    simp only [List.set_cons_zero, List.set_cons_succ, List.map_cons, List.map_nil] at z3 a5
    generalize h5.set (σ.next + 4) [.int .i64 (at_ O 0), v3, v5] = h6 at *
    simp only [pwA, if_true, if_false, eq_self, nm_eq, reduceCtorEq, ↓reduceIte, nQ10, nQ7, nQ11, nQ12, nQ16, nQ17, nQ18, iQ2, iQ3, iQ4, iQ5, iQ6, lQ19, iQ7, lQ20, z1, z2, z3, wrapS hlt' (by omega : O.length ≤ 4611686018427387904)]
    refine ⟨_, by omega, i + 1, _, v3, v5, _, _, ls ++ [⟨t, cap, cells⟩], by omega, rfl, rfl, a5, by rw [if_neg (Nat.succ_ne_zero i)], ?_, ?_, ?_⟩
    · unfold lrPs; rw [List.range_succ, List.map_append]; exact hcP.snoc hv2'
    · rw [hcC, List.map_append]; simp only [List.map_cons, List.map_nil, LS.pv]; rw [hct]
    · unfold lrCs; rw [List.range_succ, List.map_append]; exact hcR.snoc hcl
  as_aux_lemma =>
  refine vp_loop (fun m us h => ∃ (k : Nat) (vR : PV) (cells : List PV), i + (1 + k) ≤ O.length ∧ m = O.length - (i + (1 + k)) ∧ us = [.ptr σ.next 0, .ptr (σ.next + 1) 0, .int .i64 O.length, .ptr (σ.next + 4) 0, .int .i64 i, vR, .int .i64 ((i + (1 + k) : Nat) : Int)] ∧ Keep h4 h ∧ PSl h4.next 1 h vR k cells ∧ All2 FI cells (lrR O P C i k)) (O.length - (i + 1)) ⟨0, _, [], by omega, rfl, rfl, keep_new _ _, PSl.new _ 1 rfl (Nat.le_refl _), All2.nil _⟩ ?_
  rintro m us h7 ⟨k, vR, cells, hk7, rfl, rfl, k7, p7, hcl⟩
  obtain ⟨l3, l0, l1⟩ := ld (a3.keepI k7).keep
  simp only [pwA, if_true, if_false, eq_self, nm_eq, reduceCtorEq, ↓reduceIte, nQ10, nQ7, nQ11, nQ12, nQ16, nQ17, nQ18, iQ2, iQ3, iQ4, iQ5, iQ6, lQ19, iQ7, lQ20]
  refine iteI (fun hltj => ?_) fun hgej => ?_
  rotate_left
  · have hke : k = O.length - 1 - i := by omega
    subst hke
    exact hQ _ _ ⟨vR, cells, _, by rw [show ((i + (1 + (O.length - 1 - i)) : Nat) : Int) = (O.length : Int) by omega], k7, p7, hcl⟩
  have hj : i + (1 + k) < O.length := by omega
  have hui : gS O (Grp.unit O i) := g.s.unit hlt' (Nat.zero_le _)
  have huj : gS O (Grp.unit O (i + (1 + k))) := g.s.unit hj (Nat.zero_le _)
  simp only [pwA, if_true, if_false, eq_self, nm_eq, reduceCtorEq, ↓reduceIte, nQ10, nQ7, nQ11, nQ12, nQ16, nQ17, nQ18, iQ2, iQ3, iQ4, iQ5, iQ6, lQ19, iQ7, lQ20, l3]
  refine l07Unit_ok (by omega) hlt' fun b1 fb1 => ?_
  simp only [pwA, if_true, if_false, eq_self, nm_eq, reduceCtorEq, ↓reduceIte, nQ10, nQ7, nQ11, nQ12, nQ16, nQ17, nQ18, iQ2, iQ3, iQ4, iQ5, iQ6, lQ19, iQ7, lQ20, l3]
  refine l07Unit_ok (by omega) hj fun b2 fb2 => ?_
  simp only [pwA, if_true, if_false, eq_self, nm_eq, reduceCtorEq, ↓reduceIte, nQ10, nQ7, nQ11, nQ12, nQ16, nQ17, nQ18, iQ2, iQ3, iQ4, iQ5, iQ6, lQ19, iQ7, lQ20, l3]
  refine l34Bracket_ok g k0 hR0 (x := Grp.unit O i) (y := Grp.unit O (i + (1 + k))) hui huj fb1 fb2 fun v6 hv6 => ?_
  simp only [pwA, if_true, if_false, eq_self, nm_eq, reduceCtorEq, ↓reduceIte, nQ10, nQ7, nQ11, nQ12, nQ16, nQ17, nQ18, iQ2, iQ3, iQ4, iQ5, iQ6, lQ19, iQ7, lQ20, l3]
  refine l34Coefficients_ok g k0 hR0 (gbr_in g k0 hui huj) hv6 fun v8 hv8 => ?_
  have y1 := hv8.one
  have y2 := hv8.cells
  have hkl : k ≤ 10 := by omega
  simp only [pwA, if_true, if_false, eq_self, nm_eq, reduceCtorEq, ↓reduceIte, nQ10, nQ7, nQ11, nQ12, nQ16, nQ17, nQ18, iQ2, iQ3, iQ4, iQ5, iQ6, lQ19, iQ7, lQ20, y1, y2]
  refine PSl.push (bytes := 24) (σb := h4) k7 p7 (by omega) (by omega) fun v9 h8 k8 p8 => ?_
  have e5 : IntKind.i64.wrap (((i + (1 + k) : Nat) : Int) + 1) = ((i + (1 + (k + 1)) : Nat) : Int) := by rw [wrap64 (by omega) (by omega)]; omega
  simp only [pwA, if_true, if_false, eq_self, nm_eq, reduceCtorEq, ↓reduceIte, nQ10, nQ7, nQ11, nQ12, nQ16, nQ17, nQ18, iQ2, iQ3, iQ4, iQ5, iQ6, lQ19, iQ7, lQ20, e5]
  refine ⟨_, by omega, k + 1, v9, _, by omega, rfl, rfl, k8, p8, ?_⟩
  unfold lrR
  rw [List.range_succ, List.map_append]
  exact hcl.snoc hv8
end Go.Proofs
namespace Go.Grp
end Go.Grp
namespace Go.Proofs
open Go.Ab Go.Lie Go.Grp
variable {σ : PHeap} {K : PV → PHeap → Prop} {n c : Nat} {p : Int} {W : List (List Int)} {B : List (List (List Int))} {vP vB vM : PV} {s : Nat} {O : List Int} {P : List (List Int)} {C : List (List (List Int))} {vO vQ vC : PV} {lo hi : Nat}
theorem heldInt64SSS_ok {v : PV} {xs : List (List (List Int))} {k : Int} (hI : FIII v (sqL (sqL sqI List.length) (totL List.length) k xs)) (sz : SzM xs) (hk0 : 0 ≤ k) (hk1 : k + totL (totL List.length) xs ≤ 4611686018427387904) (hk : K (.int .i64 (k + totL (totL List.length) xs)) σ) : PCalls Tryz.prog 41 [v, .int .i64 k] σ K := by
  have hb := sz.l
  obtain ⟨w, a, rows, rfl, hr⟩ := hI
  have hl := sqL_length (sqL sqI List.length) (totL List.length) xs k
  have hg : ∀ (i : Nat) (hi : i < xs.length) (h2 : i < (sqL (sqL sqI List.length) (totL List.length) k xs).length), (sqL (sqL sqI List.length) (totL List.length) k xs)[i] = sqL sqI List.length (k + totL (totL List.length) (xs.take i)) xs[i] := fun i hi _ => sqL_get (sqL sqI List.length) (totL List.length) xs k i hi
  generalize sqL (sqL sqI List.length) (totL List.length) k xs = ys at *
  refine pcalls_of_vp mix Tryz.func41 cf41 rfl ?_
  dsimp only [if41, qI, eI, nI, qD, eD]
  simp only [pwA, if_true, if_false, eq_self, nm_eq, reduceCtorEq, ↓reduceIte, nQ10, nQ7, nQ11, nQ12, nQ16, nQ17, nQ18, iQ2, iQ3, iQ4, iQ5, iQ6, lQ19, iQ7, lQ20]
  refine vp_loop (fun m vs h' => ∃ i : Nat, i ≤ ys.length ∧ m = ys.length - i ∧ vs = [.fz w a ys.length rows, .int .i64 (k + totL (totL List.length) (xs.take i)), .int .i64 i] ∧ σ = h') ys.length ?_ ?_
  · exact ⟨0, by omega, by omega, by rw [List.take_zero, totL_nil, show k + ((0 : Nat) : Int) = k by omega]; rfl, rfl⟩
  rintro m vs h' ⟨i, hi, rfl, rfl, rfl⟩
  simp only [pwA, if_true, if_false, eq_self, nm_eq, reduceCtorEq, ↓reduceIte, nQ10, nQ7, nQ11, nQ12, nQ16, nQ17, nQ18, iQ2, iQ3, iQ4, iQ5, iQ6, lQ19, iQ7, lQ20]
  refine iteI (fun hlt => ?_) fun hge => ?_
  · have hlx : i < xs.length := by omega
    obtain ⟨w4, a4, rk, hrk, hrk2⟩ := hr.rowL hlt
    have ht := totL_snoc (len := totL List.length) hlx
    have htl := totL_le (totL List.length) xs (i + 1)
    have hgi := hg i hlx hlt
    simp only [pwA, if_true, if_false, eq_self, nm_eq, reduceCtorEq, ↓reduceIte, nQ10, nQ7, nQ11, nQ12, nQ16, nQ17, nQ18, iQ2, iQ3, iQ4, iQ5, iQ6, lQ19, iQ7, lQ20, hlt, hrk]
    have hbi := sz.r _ (List.getElem_mem hlx)
    refine heldInt64SS_ok (xs := xs[i]) ⟨w4, a4, rk, by rw [← hgi], by rw [← hgi]; exact hrk2⟩ (by have := hbi.l; omega) (fun y hy => by have := hbi.r y hy; omega) (by omega) (by omega) ?_
    have hn : ¬ (k + (totL (totL List.length) (xs.take i) : Int) + (totL List.length xs[i] : Int) < 0) := by omega
    simp only [pwA, if_true, if_false, eq_self, nm_eq, reduceCtorEq, ↓reduceIte, nQ10, nQ7, nQ11, nQ12, nQ16, nQ17, nQ18, iQ2, iQ3, iQ4, iQ5, iQ6, lQ19, iQ7, lQ20, hn, wrapS hlt (by omega : ys.length ≤ 4611686018427387904)]
    refine ⟨_, by omega, i + 1, by omega, rfl, ?_⟩
    have : k + (totL (totL List.length) (xs.take i) : Int) + (totL List.length xs[i] : Int) = k + (totL (totL List.length) (xs.take (i + 1)) : Int) := by omega
    rw [this]
  · have hie : i = xs.length := by omega
    subst hie
    rw [List.take_length]
    exact hk
end Go.Proofs
