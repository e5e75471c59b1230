/- The exported functions between elements and exponent vectors, both sides. -/
import Derived.Test.YtngdcibjjomfjaaAP28
import Derived.Test.YtngdcibjjomfjaaAAbPn
import Derived.Test.YtngdcibjjomfjaaAP31
set_option linter.unusedSimpArgs false
set_option linter.unusedVariables false
namespace Go.Proofs
open Go.Ab Go.Lie
section
variable {h : AHeap} {K : AV → AHeap → Prop}
theorem markInt64S_A {v : PV} {xs : List Int} {k : Int} (hI : FI v xs) (hW : Wh v) (hw : HWF h) (hv : VOK (zlt h) h 0 v) (hb : xs.length ≤ 4294967296) (hk0 : 0 ≤ k) (hk1 : k ≤ 2305843009213693952)
    (hk : ∀ h', Upd h (mkI k v xs) h' → K (.int .i64 (k + xs.length)) h') : ACalls Try.prog 19 [er idz v, .int .i64 k] h K := by
  refine acalls_of_vc mix Try.func19 cf19 rfl ?_
  dsimp only [if19]
  by_cases hne : xs = []
  · subst hne
    have hlen : aLen (er idz v) = some (.int .i64 ((0 : Nat) : Int)) := by
      obtain ⟨w, a, rfl⟩ := hI
      obtain ⟨rfl, _⟩ | ⟨o, off, cap, rfl, _⟩ := hv.1 <;> rfl
    simp only [nm_eq, ↓reduceIte, vc_skip, vc_region, vc_draw, vc_seq, vc_cond, vc_block, vc_exit, vc_ret, RV_nil, RV_q, RV_e, DV_nil, DV_q, DV_e, gq_none, gq_some, ge_none, ge_some, condK_true, condK_false, condK_dec, condK_ndec, guardK_bool, guardO_bool, guardO_skip, guardK_skip, ev_t, ev_c, mk_cons, put_some, put_none, qv_mv, qv_pick, qv_bin, qv_un, qv_conv, qv_nilCheck, qv_build, qv_field, qv_fieldAddr, qv_indexAddr, qv_indexStr, qv_extract, qv_len, qv_lenStr, qv_cap, qv_slice, qv_sliceStr, qv_maxmin, qv_makeFunc, qv_load, qv_rev, eff_alloc, eff_box, eff_buildSl, eff_store, aStore_ptr, eff_makeSl, aMake_int, eff_append, eff_copy, eff_call, eff_callV, aCallV_clo, abin_add, abin_sub, abin_mul, abin_quo, abin_rem, abin_eql, abin_neq, abin_lss, abin_leq, abin_gtr, abin_geq, abin_beql, abin_bneq, abin_nn, abin_sn, abin_ns, abin_nnx, abin_snx, abin_nsx, abin_str, aun_neg, aun_not, aPick_true, aPick_false, aConv_int, aNil_ptr, aNil_clo, aField_agg, aField_one, aFieldAddr_ptr, Int.toNat_natCast, rd1_new, rd_new, new_next, Nat.left_eq_add, Nat.add_eq_left, Nat.succ_ne_self, Nat.one_ne_zero, Nat.add_left_cancel_iff, Nat.add_assoc, List.getElem?_cons_zero, List.getElem?_cons_succ, List.take_succ_cons, List.take_zero, List.drop_succ_cons, List.drop_zero, List.take_nil, List.drop_nil, Nat.reduceLeDiff, Nat.le_refl, afill_nil, afill_cons, zeros_zero, zeros_one1, zeros_single, Nat.lt_add_one, Int.reduceEq, Int.reduceLT, Int.reduceLE, Int.reduceNeg, aExtract_tup, aLen_sl, aLen_nils, aLenStr_str, aMaxmin_int, ldv_one, ldv_agg, news_nil, news_cons, RecOK_nil, RecOK_none, RecOK_cons, recOf, wantedI, rvals_nil, rvals_tmp, rvals_cell, retQ_normal, retQ_ret, packR_one, packR_nil, packR_two, optK_some, optK_none, optK_bind, optK_map, List.map_cons, List.map_nil, Nat.reduceEqDiff, if_true, if_false, ite_true, ite_false, List.nil_append, List.cons_append, Option.map_some, Option.map_none, reduceCtorEq, decide_true, decide_false, Bool.not_true, Bool.not_false, cells_int, cells_bool, cells_str, cells_nilp, cells_ptr, cells_nils, cells_sl, cells_nilf, cells_clo, cells_agg, List.all_cons, List.all_nil, one_int, one_bool, one_str, one_nilp, one_ptr, one_nils, one_sl, one_nilf, one_clo, List.length_cons, List.length_nil, Bool.and_true, Bool.true_and, Bool.and_self, true_and, and_true, Bool.true_eq_false, Bool.false_eq_true, List.contains_cons, List.contains_nil, Bool.or_false, Bool.or_true, Bool.true_or, Bool.false_or, eq_self, Nat.reduceBEq, Nat.reduceAdd, Nat.mul_one, Nat.zero_add, Nat.add_zero]
    refine vc_loop (fun m vs h' => vs = [er idz v, .int .i64 k, .int .i64 0] ∧ h' = h) 0 ⟨rfl, rfl⟩ ?_
    rintro m vs h' ⟨rfl, rfl⟩
    simp only [nm_eq, ↓reduceIte, vc_skip, vc_region, vc_draw, vc_seq, vc_cond, vc_block, vc_exit, vc_ret, RV_nil, RV_q, RV_e, DV_nil, DV_q, DV_e, gq_none, gq_some, ge_none, ge_some, condK_true, condK_false, condK_dec, condK_ndec, guardK_bool, guardO_bool, guardO_skip, guardK_skip, ev_t, ev_c, mk_cons, put_some, put_none, qv_mv, qv_pick, qv_bin, qv_un, qv_conv, qv_nilCheck, qv_build, qv_field, qv_fieldAddr, qv_indexAddr, qv_indexStr, qv_extract, qv_len, qv_lenStr, qv_cap, qv_slice, qv_sliceStr, qv_maxmin, qv_makeFunc, qv_load, qv_rev, eff_alloc, eff_box, eff_buildSl, eff_store, aStore_ptr, eff_makeSl, aMake_int, eff_append, eff_copy, eff_call, eff_callV, aCallV_clo, abin_add, abin_sub, abin_mul, abin_quo, abin_rem, abin_eql, abin_neq, abin_lss, abin_leq, abin_gtr, abin_geq, abin_beql, abin_bneq, abin_nn, abin_sn, abin_ns, abin_nnx, abin_snx, abin_nsx, abin_str, aun_neg, aun_not, aPick_true, aPick_false, aConv_int, aNil_ptr, aNil_clo, aField_agg, aField_one, aFieldAddr_ptr, Int.toNat_natCast, rd1_new, rd_new, new_next, Nat.left_eq_add, Nat.add_eq_left, Nat.succ_ne_self, Nat.one_ne_zero, Nat.add_left_cancel_iff, Nat.add_assoc, List.getElem?_cons_zero, List.getElem?_cons_succ, List.take_succ_cons, List.take_zero, List.drop_succ_cons, List.drop_zero, List.take_nil, List.drop_nil, Nat.reduceLeDiff, Nat.le_refl, afill_nil, afill_cons, zeros_zero, zeros_one1, zeros_single, Nat.lt_add_one, Int.reduceEq, Int.reduceLT, Int.reduceLE, Int.reduceNeg, aExtract_tup, aLen_sl, aLen_nils, aLenStr_str, aMaxmin_int, ldv_one, ldv_agg, news_nil, news_cons, RecOK_nil, RecOK_none, RecOK_cons, recOf, wantedI, rvals_nil, rvals_tmp, rvals_cell, retQ_normal, retQ_ret, packR_one, packR_nil, packR_two, optK_some, optK_none, optK_bind, optK_map, List.map_cons, List.map_nil, Nat.reduceEqDiff, if_true, if_false, ite_true, ite_false, List.nil_append, List.cons_append, Option.map_some, Option.map_none, reduceCtorEq, decide_true, decide_false, Bool.not_true, Bool.not_false, cells_int, cells_bool, cells_str, cells_nilp, cells_ptr, cells_nils, cells_sl, cells_nilf, cells_clo, cells_agg, List.all_cons, List.all_nil, one_int, one_bool, one_str, one_nilp, one_ptr, one_nils, one_sl, one_nilf, one_clo, List.length_cons, List.length_nil, Bool.and_true, Bool.true_and, Bool.and_self, true_and, and_true, Bool.true_eq_false, Bool.false_eq_true, List.contains_cons, List.contains_nil, Bool.or_false, Bool.or_true, Bool.true_or, Bool.false_or, eq_self, Nat.reduceBEq, Nat.reduceAdd, Nat.mul_one, Nat.zero_add, Nat.add_zero, hlen, Int.lt_irrefl]
    have := hk h' (Upd.refl hw)
    simpa using this
  · obtain ⟨w, a, rfl⟩ := hI
    obtain ⟨hwt, _, _⟩ := hW.resolve_left (pis_ne hne)
    obtain ⟨o, cap, rfl, ho, hz⟩ := hv.whole hwt (pis_ne hne)
    have ho' : h.obj o = some ⟨true, ints xs⟩ := by rw [ho, ers_map]; congr 2; simp only [pis, ints, List.map_map]; rfl
    simp only [nm_eq, ↓reduceIte, vc_skip, vc_region, vc_draw, vc_seq, vc_cond, vc_block, vc_exit, vc_ret, RV_nil, RV_q, RV_e, DV_nil, DV_q, DV_e, gq_none, gq_some, ge_none, ge_some, condK_true, condK_false, condK_dec, condK_ndec, guardK_bool, guardO_bool, guardO_skip, guardK_skip, ev_t, ev_c, mk_cons, put_some, put_none, qv_mv, qv_pick, qv_bin, qv_un, qv_conv, qv_nilCheck, qv_build, qv_field, qv_fieldAddr, qv_indexAddr, qv_indexStr, qv_extract, qv_len, qv_lenStr, qv_cap, qv_slice, qv_sliceStr, qv_maxmin, qv_makeFunc, qv_load, qv_rev, eff_alloc, eff_box, eff_buildSl, eff_store, aStore_ptr, eff_makeSl, aMake_int, eff_append, eff_copy, eff_call, eff_callV, aCallV_clo, abin_add, abin_sub, abin_mul, abin_quo, abin_rem, abin_eql, abin_neq, abin_lss, abin_leq, abin_gtr, abin_geq, abin_beql, abin_bneq, abin_nn, abin_sn, abin_ns, abin_nnx, abin_snx, abin_nsx, abin_str, aun_neg, aun_not, aPick_true, aPick_false, aConv_int, aNil_ptr, aNil_clo, aField_agg, aField_one, aFieldAddr_ptr, Int.toNat_natCast, rd1_new, rd_new, new_next, Nat.left_eq_add, Nat.add_eq_left, Nat.succ_ne_self, Nat.one_ne_zero, Nat.add_left_cancel_iff, Nat.add_assoc, List.getElem?_cons_zero, List.getElem?_cons_succ, List.take_succ_cons, List.take_zero, List.drop_succ_cons, List.drop_zero, List.take_nil, List.drop_nil, Nat.reduceLeDiff, Nat.le_refl, afill_nil, afill_cons, zeros_zero, zeros_one1, zeros_single, Nat.lt_add_one, Int.reduceEq, Int.reduceLT, Int.reduceLE, Int.reduceNeg, aExtract_tup, aLen_sl, aLen_nils, aLenStr_str, aMaxmin_int, ldv_one, ldv_agg, news_nil, news_cons, RecOK_nil, RecOK_none, RecOK_cons, recOf, wantedI, rvals_nil, rvals_tmp, rvals_cell, retQ_normal, retQ_ret, packR_one, packR_nil, packR_two, optK_some, optK_none, optK_bind, optK_map, List.map_cons, List.map_nil, Nat.reduceEqDiff, if_true, if_false, ite_true, ite_false, List.nil_append, List.cons_append, Option.map_some, Option.map_none, reduceCtorEq, decide_true, decide_false, Bool.not_true, Bool.not_false, cells_int, cells_bool, cells_str, cells_nilp, cells_ptr, cells_nils, cells_sl, cells_nilf, cells_clo, cells_agg, List.all_cons, List.all_nil, one_int, one_bool, one_str, one_nilp, one_ptr, one_nils, one_sl, one_nilf, one_clo, List.length_cons, List.length_nil, Bool.and_true, Bool.true_and, Bool.and_self, true_and, and_true, Bool.true_eq_false, Bool.false_eq_true, List.contains_cons, List.contains_nil, Bool.or_false, Bool.or_true, Bool.true_or, Bool.false_or, eq_self, Nat.reduceBEq, Nat.reduceAdd, Nat.mul_one, Nat.zero_add, Nat.add_zero, er]
    refine vc_loop (fun m vs h' => ∃ i : Nat, i ≤ xs.length ∧ m = xs.length - i ∧ vs = [.sl o 0 xs.length cap, .int .i64 (k + i), .int .i64 i] ∧ h' = h.set o (ints ((seqI k xs.length).take i ++ xs.drop i))) xs.length ?_ ?_
    · exact ⟨0, by omega, by omega, (by (simp only [nm_eq, ↓reduceIte, vc_skip, vc_region, vc_draw, vc_seq, vc_cond, vc_block, vc_exit, vc_ret, RV_nil, RV_q, RV_e, DV_nil, DV_q, DV_e, gq_none, gq_some, ge_none, ge_some, condK_true, condK_false, condK_dec, condK_ndec, guardK_bool, guardO_bool, guardO_skip, guardK_skip, ev_t, ev_c, mk_cons, put_some, put_none, qv_mv, qv_pick, qv_bin, qv_un, qv_conv, qv_nilCheck, qv_build, qv_field, qv_fieldAddr, qv_indexAddr, qv_indexStr, qv_extract, qv_len, qv_lenStr, qv_cap, qv_slice, qv_sliceStr, qv_maxmin, qv_makeFunc, qv_load, qv_rev, eff_alloc, eff_box, eff_buildSl, eff_store, aStore_ptr, eff_makeSl, aMake_int, eff_append, eff_copy, eff_call, eff_callV, aCallV_clo, abin_add, abin_sub, abin_mul, abin_quo, abin_rem, abin_eql, abin_neq, abin_lss, abin_leq, abin_gtr, abin_geq, abin_beql, abin_bneq, abin_nn, abin_sn, abin_ns, abin_nnx, abin_snx, abin_nsx, abin_str, aun_neg, aun_not, aPick_true, aPick_false, aConv_int, aNil_ptr, aNil_clo, aField_agg, aField_one, aFieldAddr_ptr, Int.toNat_natCast, rd1_new, rd_new, new_next, Nat.left_eq_add, Nat.add_eq_left, Nat.succ_ne_self, Nat.one_ne_zero, Nat.add_left_cancel_iff, Nat.add_assoc, List.getElem?_cons_zero, List.getElem?_cons_succ, List.take_succ_cons, List.take_zero, List.drop_succ_cons, List.drop_zero, List.take_nil, List.drop_nil, Nat.reduceLeDiff, Nat.le_refl, afill_nil, afill_cons, zeros_zero, zeros_one1, zeros_single, Nat.lt_add_one, Int.reduceEq, Int.reduceLT, Int.reduceLE, Int.reduceNeg, aExtract_tup, aLen_sl, aLen_nils, aLenStr_str, aMaxmin_int, ldv_one, ldv_agg, news_nil, news_cons, RecOK_nil, RecOK_none, RecOK_cons, recOf, wantedI, rvals_nil, rvals_tmp, rvals_cell, retQ_normal, retQ_ret, packR_one, packR_nil, packR_two, optK_some, optK_none, optK_bind, optK_map, List.map_cons, List.map_nil, Nat.reduceEqDiff, if_true, if_false, ite_true, ite_false, List.nil_append, List.cons_append, Option.map_some, Option.map_none, reduceCtorEq, decide_true, decide_false, Bool.not_true, Bool.not_false, cells_int, cells_bool, cells_str, cells_nilp, cells_ptr, cells_nils, cells_sl, cells_nilf, cells_clo, cells_agg, List.all_cons, List.all_nil, one_int, one_bool, one_str, one_nilp, one_ptr, one_nils, one_sl, one_nilf, one_clo, List.length_cons, List.length_nil, Bool.and_true, Bool.true_and, Bool.and_self, true_and, and_true, Bool.true_eq_false, Bool.false_eq_true, List.contains_cons, List.contains_nil, Bool.or_false, Bool.or_true, Bool.true_or, Bool.false_or, eq_self, Nat.reduceBEq, Nat.reduceAdd, Nat.mul_one, Nat.zero_add, Nat.add_zero, List.cons.injEq, AV.int.injEq, AV.sl.injEq, and_self]) <;> omega), by simp [set_self ho']⟩
    · rintro m vs h' ⟨i, hi, rfl, rfl, rfl⟩
      simp only [nm_eq, ↓reduceIte, vc_skip, vc_region, vc_draw, vc_seq, vc_cond, vc_block, vc_exit, vc_ret, RV_nil, RV_q, RV_e, DV_nil, DV_q, DV_e, gq_none, gq_some, ge_none, ge_some, condK_true, condK_false, condK_dec, condK_ndec, guardK_bool, guardO_bool, guardO_skip, guardK_skip, ev_t, ev_c, mk_cons, put_some, put_none, qv_mv, qv_pick, qv_bin, qv_un, qv_conv, qv_nilCheck, qv_build, qv_field, qv_fieldAddr, qv_indexAddr, qv_indexStr, qv_extract, qv_len, qv_lenStr, qv_cap, qv_slice, qv_sliceStr, qv_maxmin, qv_makeFunc, qv_load, qv_rev, eff_alloc, eff_box, eff_buildSl, eff_store, aStore_ptr, eff_makeSl, aMake_int, eff_append, eff_copy, eff_call, eff_callV, aCallV_clo, abin_add, abin_sub, abin_mul, abin_quo, abin_rem, abin_eql, abin_neq, abin_lss, abin_leq, abin_gtr, abin_geq, abin_beql, abin_bneq, abin_nn, abin_sn, abin_ns, abin_nnx, abin_snx, abin_nsx, abin_str, aun_neg, aun_not, aPick_true, aPick_false, aConv_int, aNil_ptr, aNil_clo, aField_agg, aField_one, aFieldAddr_ptr, Int.toNat_natCast, rd1_new, rd_new, new_next, Nat.left_eq_add, Nat.add_eq_left, Nat.succ_ne_self, Nat.one_ne_zero, Nat.add_left_cancel_iff, Nat.add_assoc, List.getElem?_cons_zero, List.getElem?_cons_succ, List.take_succ_cons, List.take_zero, List.drop_succ_cons, List.drop_zero, List.take_nil, List.drop_nil, Nat.reduceLeDiff, Nat.le_refl, afill_nil, afill_cons, zeros_zero, zeros_one1, zeros_single, Nat.lt_add_one, Int.reduceEq, Int.reduceLT, Int.reduceLE, Int.reduceNeg, aExtract_tup, aLen_sl, aLen_nils, aLenStr_str, aMaxmin_int, ldv_one, ldv_agg, news_nil, news_cons, RecOK_nil, RecOK_none, RecOK_cons, recOf, wantedI, rvals_nil, rvals_tmp, rvals_cell, retQ_normal, retQ_ret, packR_one, packR_nil, packR_two, optK_some, optK_none, optK_bind, optK_map, List.map_cons, List.map_nil, Nat.reduceEqDiff, if_true, if_false, ite_true, ite_false, List.nil_append, List.cons_append, Option.map_some, Option.map_none, reduceCtorEq, decide_true, decide_false, Bool.not_true, Bool.not_false, cells_int, cells_bool, cells_str, cells_nilp, cells_ptr, cells_nils, cells_sl, cells_nilf, cells_clo, cells_agg, List.all_cons, List.all_nil, one_int, one_bool, one_str, one_nilp, one_ptr, one_nils, one_sl, one_nilf, one_clo, List.length_cons, List.length_nil, Bool.and_true, Bool.true_and, Bool.and_self, true_and, and_true, Bool.true_eq_false, Bool.false_eq_true, List.contains_cons, List.contains_nil, Bool.or_false, Bool.or_true, Bool.true_or, Bool.false_or, eq_self, Nat.reduceBEq, Nat.reduceAdd, Nat.mul_one, Nat.zero_add, Nat.add_zero]
      split
      · have hlt : i < xs.length := by omega
        simp only [nm_eq, ↓reduceIte, vc_skip, vc_region, vc_draw, vc_seq, vc_cond, vc_block, vc_exit, vc_ret, RV_nil, RV_q, RV_e, DV_nil, DV_q, DV_e, gq_none, gq_some, ge_none, ge_some, condK_true, condK_false, condK_dec, condK_ndec, guardK_bool, guardO_bool, guardO_skip, guardK_skip, ev_t, ev_c, mk_cons, put_some, put_none, qv_mv, qv_pick, qv_bin, qv_un, qv_conv, qv_nilCheck, qv_build, qv_field, qv_fieldAddr, qv_indexAddr, qv_indexStr, qv_extract, qv_len, qv_lenStr, qv_cap, qv_slice, qv_sliceStr, qv_maxmin, qv_makeFunc, qv_load, qv_rev, eff_alloc, eff_box, eff_buildSl, eff_store, aStore_ptr, eff_makeSl, aMake_int, eff_append, eff_copy, eff_call, eff_callV, aCallV_clo, abin_add, abin_sub, abin_mul, abin_quo, abin_rem, abin_eql, abin_neq, abin_lss, abin_leq, abin_gtr, abin_geq, abin_beql, abin_bneq, abin_nn, abin_sn, abin_ns, abin_nnx, abin_snx, abin_nsx, abin_str, aun_neg, aun_not, aPick_true, aPick_false, aConv_int, aNil_ptr, aNil_clo, aField_agg, aField_one, aFieldAddr_ptr, Int.toNat_natCast, rd1_new, rd_new, new_next, Nat.left_eq_add, Nat.add_eq_left, Nat.succ_ne_self, Nat.one_ne_zero, Nat.add_left_cancel_iff, Nat.add_assoc, List.getElem?_cons_zero, List.getElem?_cons_succ, List.take_succ_cons, List.take_zero, List.drop_succ_cons, List.drop_zero, List.take_nil, List.drop_nil, Nat.reduceLeDiff, Nat.le_refl, afill_nil, afill_cons, zeros_zero, zeros_one1, zeros_single, Nat.lt_add_one, Int.reduceEq, Int.reduceLT, Int.reduceLE, Int.reduceNeg, aExtract_tup, aLen_sl, aLen_nils, aLenStr_str, aMaxmin_int, ldv_one, ldv_agg, news_nil, news_cons, RecOK_nil, RecOK_none, RecOK_cons, recOf, wantedI, rvals_nil, rvals_tmp, rvals_cell, retQ_normal, retQ_ret, packR_one, packR_nil, packR_two, optK_some, optK_none, optK_bind, optK_map, List.map_cons, List.map_nil, Nat.reduceEqDiff, if_true, if_false, ite_true, ite_false, List.nil_append, List.cons_append, Option.map_some, Option.map_none, reduceCtorEq, decide_true, decide_false, Bool.not_true, Bool.not_false, cells_int, cells_bool, cells_str, cells_nilp, cells_ptr, cells_nils, cells_sl, cells_nilf, cells_clo, cells_agg, List.all_cons, List.all_nil, one_int, one_bool, one_str, one_nilp, one_ptr, one_nils, one_sl, one_nilf, one_clo, List.length_cons, List.length_nil, Bool.and_true, Bool.true_and, Bool.and_self, true_and, and_true, Bool.true_eq_false, Bool.false_eq_true, List.contains_cons, List.contains_nil, Bool.or_false, Bool.or_true, Bool.true_or, Bool.false_or, eq_self, Nat.reduceBEq, Nat.reduceAdd, Nat.mul_one, Nat.zero_add, Nat.add_zero, aIndex_nat hlt, wrapS hlt (by omega : xs.length ≤ 4611686018427387904), wrap64 (n := k + (i : Int) + 1) (by omega) (by omega)]
        have hls : i < (seqI k xs.length).length := by rw [seqI_length]; exact hlt
        rw [wr_one (set_obj_eq _ _) (by rw [ints_length]; simp [seqI_length]; omega) rfl, optK_some]
        refine ⟨_, by omega, i + 1, by omega, rfl, (by (simp only [nm_eq, ↓reduceIte, vc_skip, vc_region, vc_draw, vc_seq, vc_cond, vc_block, vc_exit, vc_ret, RV_nil, RV_q, RV_e, DV_nil, DV_q, DV_e, gq_none, gq_some, ge_none, ge_some, condK_true, condK_false, condK_dec, condK_ndec, guardK_bool, guardO_bool, guardO_skip, guardK_skip, ev_t, ev_c, mk_cons, put_some, put_none, qv_mv, qv_pick, qv_bin, qv_un, qv_conv, qv_nilCheck, qv_build, qv_field, qv_fieldAddr, qv_indexAddr, qv_indexStr, qv_extract, qv_len, qv_lenStr, qv_cap, qv_slice, qv_sliceStr, qv_maxmin, qv_makeFunc, qv_load, qv_rev, eff_alloc, eff_box, eff_buildSl, eff_store, aStore_ptr, eff_makeSl, aMake_int, eff_append, eff_copy, eff_call, eff_callV, aCallV_clo, abin_add, abin_sub, abin_mul, abin_quo, abin_rem, abin_eql, abin_neq, abin_lss, abin_leq, abin_gtr, abin_geq, abin_beql, abin_bneq, abin_nn, abin_sn, abin_ns, abin_nnx, abin_snx, abin_nsx, abin_str, aun_neg, aun_not, aPick_true, aPick_false, aConv_int, aNil_ptr, aNil_clo, aField_agg, aField_one, aFieldAddr_ptr, Int.toNat_natCast, rd1_new, rd_new, new_next, Nat.left_eq_add, Nat.add_eq_left, Nat.succ_ne_self, Nat.one_ne_zero, Nat.add_left_cancel_iff, Nat.add_assoc, List.getElem?_cons_zero, List.getElem?_cons_succ, List.take_succ_cons, List.take_zero, List.drop_succ_cons, List.drop_zero, List.take_nil, List.drop_nil, Nat.reduceLeDiff, Nat.le_refl, afill_nil, afill_cons, zeros_zero, zeros_one1, zeros_single, Nat.lt_add_one, Int.reduceEq, Int.reduceLT, Int.reduceLE, Int.reduceNeg, aExtract_tup, aLen_sl, aLen_nils, aLenStr_str, aMaxmin_int, ldv_one, ldv_agg, news_nil, news_cons, RecOK_nil, RecOK_none, RecOK_cons, recOf, wantedI, rvals_nil, rvals_tmp, rvals_cell, retQ_normal, retQ_ret, packR_one, packR_nil, packR_two, optK_some, optK_none, optK_bind, optK_map, List.map_cons, List.map_nil, Nat.reduceEqDiff, if_true, if_false, ite_true, ite_false, List.nil_append, List.cons_append, Option.map_some, Option.map_none, reduceCtorEq, decide_true, decide_false, Bool.not_true, Bool.not_false, cells_int, cells_bool, cells_str, cells_nilp, cells_ptr, cells_nils, cells_sl, cells_nilf, cells_clo, cells_agg, List.all_cons, List.all_nil, one_int, one_bool, one_str, one_nilp, one_ptr, one_nils, one_sl, one_nilf, one_clo, List.length_cons, List.length_nil, Bool.and_true, Bool.true_and, Bool.and_self, true_and, and_true, Bool.true_eq_false, Bool.false_eq_true, List.contains_cons, List.contains_nil, Bool.or_false, Bool.or_true, Bool.true_or, Bool.false_or, eq_self, Nat.reduceBEq, Nat.reduceAdd, Nat.mul_one, Nat.zero_add, Nat.add_zero, List.cons.injEq, AV.int.injEq, AV.sl.injEq, and_self]) <;> omega), ?_⟩
        rw [set_set, ints_set, ← mix_set _ _ hlt hls, seqI_get]
      · have hie : i = xs.length := by omega
        subst hie
        rw [List.take_of_length_le (by rw [seqI_length]; exact Nat.le_refl _), List.drop_length, List.append_nil]
        have hlt := hw.lt ho
        refine hk _ ⟨Nat.le_refl _, hw.set hlt _, fun x hx hn => set_obj_ne (fun e => ?_) _, fun x ms hx => ?_⟩
        · subst e
          rw [mkI, if_neg hne] at hn
          simp [aof] at hn
        · rw [mkI, if_neg hne] at hx
          simp only [List.lookup_cons, List.lookup_nil, aof] at hx
          split at hx
          · rename_i hxo
            cases hx
            have hxo : x = o := by simpa using hxo
            subst hxo
            refine ⟨?_, pis_flat _, pis_ne fun e => ?_, _, ho', by rw [ints_length, pis_length, seqI_length]⟩
            · rw [set_obj_eq, ers_map]; congr 2; simp only [pis, ints, List.map_map]; rfl
            · have := seqI_length xs.length k
              rw [e] at this
              exact hne (List.eq_nil_of_length_eq_zero this.symm)
          · cases hx
theorem markInt64SS_A {v : PV} {xs : List (List Int)} {k : Int} (hI : FII v xs) (hW : Wh v) (hnd : (ead v).Nodup) (hw : HWF h) (hv : VOK (zlt h) h 0 v) (hb : xs.length ≤ 4294967296) (hb2 : ∀ x ∈ xs, x.length ≤ 4294967296) (hk0 : 0 ≤ k) (hk1 : k + totL List.length xs ≤ 2305843009213693952)
    (hk : ∀ h', Upd h (mkF mkI List.length k v xs) h' → K (.int .i64 (k + totL List.length xs)) h') : ACalls Try.prog 52 [er idz v, .int .i64 k] h K := by
  refine acalls_of_vc mix Try.func52 cf52 rfl ?_
  dsimp only [if52]
  obtain ⟨w, a, rows, rfl, hr⟩ := hI
  by_cases hne : rows = []
  · have hx := hr.nil_iff.1 hne
    subst hne
    subst hx
    have hlen : aLen a = some (.int .i64 ((0 : Nat) : Int)) := by
      obtain ⟨rfl, _⟩ | ⟨o, off, cap, rfl, _⟩ := hv.1 <;> rfl
    simp only [nm_eq, ↓reduceIte, vc_skip, vc_region, vc_draw, vc_seq, vc_cond, vc_block, vc_exit, vc_ret, RV_nil, RV_q, RV_e, DV_nil, DV_q, DV_e, gq_none, gq_some, ge_none, ge_some, condK_true, condK_false, condK_dec, condK_ndec, guardK_bool, guardO_bool, guardO_skip, guardK_skip, ev_t, ev_c, mk_cons, put_some, put_none, qv_mv, qv_pick, qv_bin, qv_un, qv_conv, qv_nilCheck, qv_build, qv_field, qv_fieldAddr, qv_indexAddr, qv_indexStr, qv_extract, qv_len, qv_lenStr, qv_cap, qv_slice, qv_sliceStr, qv_maxmin, qv_makeFunc, qv_load, qv_rev, eff_alloc, eff_box, eff_buildSl, eff_store, aStore_ptr, eff_makeSl, aMake_int, eff_append, eff_copy, eff_call, eff_callV, aCallV_clo, abin_add, abin_sub, abin_mul, abin_quo, abin_rem, abin_eql, abin_neq, abin_lss, abin_leq, abin_gtr, abin_geq, abin_beql, abin_bneq, abin_nn, abin_sn, abin_ns, abin_nnx, abin_snx, abin_nsx, abin_str, aun_neg, aun_not, aPick_true, aPick_false, aConv_int, aNil_ptr, aNil_clo, aField_agg, aField_one, aFieldAddr_ptr, Int.toNat_natCast, rd1_new, rd_new, new_next, Nat.left_eq_add, Nat.add_eq_left, Nat.succ_ne_self, Nat.one_ne_zero, Nat.add_left_cancel_iff, Nat.add_assoc, List.getElem?_cons_zero, List.getElem?_cons_succ, List.take_succ_cons, List.take_zero, List.drop_succ_cons, List.drop_zero, List.take_nil, List.drop_nil, Nat.reduceLeDiff, Nat.le_refl, afill_nil, afill_cons, zeros_zero, zeros_one1, zeros_single, Nat.lt_add_one, Int.reduceEq, Int.reduceLT, Int.reduceLE, Int.reduceNeg, aExtract_tup, aLen_sl, aLen_nils, aLenStr_str, aMaxmin_int, ldv_one, ldv_agg, news_nil, news_cons, RecOK_nil, RecOK_none, RecOK_cons, recOf, wantedI, rvals_nil, rvals_tmp, rvals_cell, retQ_normal, retQ_ret, packR_one, packR_nil, packR_two, optK_some, optK_none, optK_bind, optK_map, List.map_cons, List.map_nil, Nat.reduceEqDiff, if_true, if_false, ite_true, ite_false, List.nil_append, List.cons_append, Option.map_some, Option.map_none, reduceCtorEq, decide_true, decide_false, Bool.not_true, Bool.not_false, cells_int, cells_bool, cells_str, cells_nilp, cells_ptr, cells_nils, cells_sl, cells_nilf, cells_clo, cells_agg, List.all_cons, List.all_nil, one_int, one_bool, one_str, one_nilp, one_ptr, one_nils, one_sl, one_nilf, one_clo, List.length_cons, List.length_nil, Bool.and_true, Bool.true_and, Bool.and_self, true_and, and_true, Bool.true_eq_false, Bool.false_eq_true, List.contains_cons, List.contains_nil, Bool.or_false, Bool.or_true, Bool.true_or, Bool.false_or, eq_self, Nat.reduceBEq, Nat.reduceAdd, Nat.mul_one, Nat.zero_add, Nat.add_zero, er]
    refine vc_loop (fun m vs h' => vs = [a, .int .i64 k, .int .i64 0] ∧ h' = h) 0 ⟨rfl, rfl⟩ ?_
    rintro m vs h' ⟨rfl, rfl⟩
    simp only [nm_eq, ↓reduceIte, vc_skip, vc_region, vc_draw, vc_seq, vc_cond, vc_block, vc_exit, vc_ret, RV_nil, RV_q, RV_e, DV_nil, DV_q, DV_e, gq_none, gq_some, ge_none, ge_some, condK_true, condK_false, condK_dec, condK_ndec, guardK_bool, guardO_bool, guardO_skip, guardK_skip, ev_t, ev_c, mk_cons, put_some, put_none, qv_mv, qv_pick, qv_bin, qv_un, qv_conv, qv_nilCheck, qv_build, qv_field, qv_fieldAddr, qv_indexAddr, qv_indexStr, qv_extract, qv_len, qv_lenStr, qv_cap, qv_slice, qv_sliceStr, qv_maxmin, qv_makeFunc, qv_load, qv_rev, eff_alloc, eff_box, eff_buildSl, eff_store, aStore_ptr, eff_makeSl, aMake_int, eff_append, eff_copy, eff_call, eff_callV, aCallV_clo, abin_add, abin_sub, abin_mul, abin_quo, abin_rem, abin_eql, abin_neq, abin_lss, abin_leq, abin_gtr, abin_geq, abin_beql, abin_bneq, abin_nn, abin_sn, abin_ns, abin_nnx, abin_snx, abin_nsx, abin_str, aun_neg, aun_not, aPick_true, aPick_false, aConv_int, aNil_ptr, aNil_clo, aField_agg, aField_one, aFieldAddr_ptr, Int.toNat_natCast, rd1_new, rd_new, new_next, Nat.left_eq_add, Nat.add_eq_left, Nat.succ_ne_self, Nat.one_ne_zero, Nat.add_left_cancel_iff, Nat.add_assoc, List.getElem?_cons_zero, List.getElem?_cons_succ, List.take_succ_cons, List.take_zero, List.drop_succ_cons, List.drop_zero, List.take_nil, List.drop_nil, Nat.reduceLeDiff, Nat.le_refl, afill_nil, afill_cons, zeros_zero, zeros_one1, zeros_single, Nat.lt_add_one, Int.reduceEq, Int.reduceLT, Int.reduceLE, Int.reduceNeg, aExtract_tup, aLen_sl, aLen_nils, aLenStr_str, aMaxmin_int, ldv_one, ldv_agg, news_nil, news_cons, RecOK_nil, RecOK_none, RecOK_cons, recOf, wantedI, rvals_nil, rvals_tmp, rvals_cell, retQ_normal, retQ_ret, packR_one, packR_nil, packR_two, optK_some, optK_none, optK_bind, optK_map, List.map_cons, List.map_nil, Nat.reduceEqDiff, if_true, if_false, ite_true, ite_false, List.nil_append, List.cons_append, Option.map_some, Option.map_none, reduceCtorEq, decide_true, decide_false, Bool.not_true, Bool.not_false, cells_int, cells_bool, cells_str, cells_nilp, cells_ptr, cells_nils, cells_sl, cells_nilf, cells_clo, cells_agg, List.all_cons, List.all_nil, one_int, one_bool, one_str, one_nilp, one_ptr, one_nils, one_sl, one_nilf, one_clo, List.length_cons, List.length_nil, Bool.and_true, Bool.true_and, Bool.and_self, true_and, and_true, Bool.true_eq_false, Bool.false_eq_true, List.contains_cons, List.contains_nil, Bool.or_false, Bool.or_true, Bool.true_or, Bool.false_or, eq_self, Nat.reduceBEq, Nat.reduceAdd, Nat.mul_one, Nat.zero_add, Nat.add_zero, hlen, Int.lt_irrefl]
    have := hk h' (Upd.refl hw)
    simpa [totL] using this
  · obtain ⟨hwt, _, hWs⟩ := hW.resolve_left hne
    obtain ⟨o, cap, rfl, ho, hz⟩ := hv.whole hwt hne
    rw [ead_fz hne] at hnd
    obtain ⟨n1, n2⟩ := List.nodup_cons.1 hnd
    simp only [nm_eq, ↓reduceIte, vc_skip, vc_region, vc_draw, vc_seq, vc_cond, vc_block, vc_exit, vc_ret, RV_nil, RV_q, RV_e, DV_nil, DV_q, DV_e, gq_none, gq_some, ge_none, ge_some, condK_true, condK_false, condK_dec, condK_ndec, guardK_bool, guardO_bool, guardO_skip, guardK_skip, ev_t, ev_c, mk_cons, put_some, put_none, qv_mv, qv_pick, qv_bin, qv_un, qv_conv, qv_nilCheck, qv_build, qv_field, qv_fieldAddr, qv_indexAddr, qv_indexStr, qv_extract, qv_len, qv_lenStr, qv_cap, qv_slice, qv_sliceStr, qv_maxmin, qv_makeFunc, qv_load, qv_rev, eff_alloc, eff_box, eff_buildSl, eff_store, aStore_ptr, eff_makeSl, aMake_int, eff_append, eff_copy, eff_call, eff_callV, aCallV_clo, abin_add, abin_sub, abin_mul, abin_quo, abin_rem, abin_eql, abin_neq, abin_lss, abin_leq, abin_gtr, abin_geq, abin_beql, abin_bneq, abin_nn, abin_sn, abin_ns, abin_nnx, abin_snx, abin_nsx, abin_str, aun_neg, aun_not, aPick_true, aPick_false, aConv_int, aNil_ptr, aNil_clo, aField_agg, aField_one, aFieldAddr_ptr, Int.toNat_natCast, rd1_new, rd_new, new_next, Nat.left_eq_add, Nat.add_eq_left, Nat.succ_ne_self, Nat.one_ne_zero, Nat.add_left_cancel_iff, Nat.add_assoc, List.getElem?_cons_zero, List.getElem?_cons_succ, List.take_succ_cons, List.take_zero, List.drop_succ_cons, List.drop_zero, List.take_nil, List.drop_nil, Nat.reduceLeDiff, Nat.le_refl, afill_nil, afill_cons, zeros_zero, zeros_one1, zeros_single, Nat.lt_add_one, Int.reduceEq, Int.reduceLT, Int.reduceLE, Int.reduceNeg, aExtract_tup, aLen_sl, aLen_nils, aLenStr_str, aMaxmin_int, ldv_one, ldv_agg, news_nil, news_cons, RecOK_nil, RecOK_none, RecOK_cons, recOf, wantedI, rvals_nil, rvals_tmp, rvals_cell, retQ_normal, retQ_ret, packR_one, packR_nil, packR_two, optK_some, optK_none, optK_bind, optK_map, List.map_cons, List.map_nil, Nat.reduceEqDiff, if_true, if_false, ite_true, ite_false, List.nil_append, List.cons_append, Option.map_some, Option.map_none, reduceCtorEq, decide_true, decide_false, Bool.not_true, Bool.not_false, cells_int, cells_bool, cells_str, cells_nilp, cells_ptr, cells_nils, cells_sl, cells_nilf, cells_clo, cells_agg, List.all_cons, List.all_nil, one_int, one_bool, one_str, one_nilp, one_ptr, one_nils, one_sl, one_nilf, one_clo, List.length_cons, List.length_nil, Bool.and_true, Bool.true_and, Bool.and_self, true_and, and_true, Bool.true_eq_false, Bool.false_eq_true, List.contains_cons, List.contains_nil, Bool.or_false, Bool.or_true, Bool.true_or, Bool.false_or, eq_self, Nat.reduceBEq, Nat.reduceAdd, Nat.mul_one, Nat.zero_add, Nat.add_zero, er]
    refine vc_loop (fun m vs h' => ∃ i : Nat, i ≤ xs.length ∧ m = xs.length - i ∧ vs = [.sl o 0 xs.length cap, .int .i64 (k + totL List.length (xs.take i)), .int .i64 i] ∧ Upd h (mkS mkI List.length k (rows.take i) (xs.take i)) h') xs.length ?_ ?_
    · exact ⟨0, by omega, by omega, by rw [List.take_zero, totL_nil]; exact (by (simp only [nm_eq, ↓reduceIte, vc_skip, vc_region, vc_draw, vc_seq, vc_cond, vc_block, vc_exit, vc_ret, RV_nil, RV_q, RV_e, DV_nil, DV_q, DV_e, gq_none, gq_some, ge_none, ge_some, condK_true, condK_false, condK_dec, condK_ndec, guardK_bool, guardO_bool, guardO_skip, guardK_skip, ev_t, ev_c, mk_cons, put_some, put_none, qv_mv, qv_pick, qv_bin, qv_un, qv_conv, qv_nilCheck, qv_build, qv_field, qv_fieldAddr, qv_indexAddr, qv_indexStr, qv_extract, qv_len, qv_lenStr, qv_cap, qv_slice, qv_sliceStr, qv_maxmin, qv_makeFunc, qv_load, qv_rev, eff_alloc, eff_box, eff_buildSl, eff_store, aStore_ptr, eff_makeSl, aMake_int, eff_append, eff_copy, eff_call, eff_callV, aCallV_clo, abin_add, abin_sub, abin_mul, abin_quo, abin_rem, abin_eql, abin_neq, abin_lss, abin_leq, abin_gtr, abin_geq, abin_beql, abin_bneq, abin_nn, abin_sn, abin_ns, abin_nnx, abin_snx, abin_nsx, abin_str, aun_neg, aun_not, aPick_true, aPick_false, aConv_int, aNil_ptr, aNil_clo, aField_agg, aField_one, aFieldAddr_ptr, Int.toNat_natCast, rd1_new, rd_new, new_next, Nat.left_eq_add, Nat.add_eq_left, Nat.succ_ne_self, Nat.one_ne_zero, Nat.add_left_cancel_iff, Nat.add_assoc, List.getElem?_cons_zero, List.getElem?_cons_succ, List.take_succ_cons, List.take_zero, List.drop_succ_cons, List.drop_zero, List.take_nil, List.drop_nil, Nat.reduceLeDiff, Nat.le_refl, afill_nil, afill_cons, zeros_zero, zeros_one1, zeros_single, Nat.lt_add_one, Int.reduceEq, Int.reduceLT, Int.reduceLE, Int.reduceNeg, aExtract_tup, aLen_sl, aLen_nils, aLenStr_str, aMaxmin_int, ldv_one, ldv_agg, news_nil, news_cons, RecOK_nil, RecOK_none, RecOK_cons, recOf, wantedI, rvals_nil, rvals_tmp, rvals_cell, retQ_normal, retQ_ret, packR_one, packR_nil, packR_two, optK_some, optK_none, optK_bind, optK_map, List.map_cons, List.map_nil, Nat.reduceEqDiff, if_true, if_false, ite_true, ite_false, List.nil_append, List.cons_append, Option.map_some, Option.map_none, reduceCtorEq, decide_true, decide_false, Bool.not_true, Bool.not_false, cells_int, cells_bool, cells_str, cells_nilp, cells_ptr, cells_nils, cells_sl, cells_nilf, cells_clo, cells_agg, List.all_cons, List.all_nil, one_int, one_bool, one_str, one_nilp, one_ptr, one_nils, one_sl, one_nilf, one_clo, List.length_cons, List.length_nil, Bool.and_true, Bool.true_and, Bool.and_self, true_and, and_true, Bool.true_eq_false, Bool.false_eq_true, List.contains_cons, List.contains_nil, Bool.or_false, Bool.or_true, Bool.true_or, Bool.false_or, eq_self, Nat.reduceBEq, Nat.reduceAdd, Nat.mul_one, Nat.zero_add, Nat.add_zero, List.cons.injEq, AV.int.injEq, AV.sl.injEq, and_self]) <;> omega), by simp only [List.take_zero, mkS_nil]; exact Upd.refl hw⟩
    · rintro m vs h' ⟨i, hi, rfl, rfl, u⟩
      simp only [nm_eq, ↓reduceIte, vc_skip, vc_region, vc_draw, vc_seq, vc_cond, vc_block, vc_exit, vc_ret, RV_nil, RV_q, RV_e, DV_nil, DV_q, DV_e, gq_none, gq_some, ge_none, ge_some, condK_true, condK_false, condK_dec, condK_ndec, guardK_bool, guardO_bool, guardO_skip, guardK_skip, ev_t, ev_c, mk_cons, put_some, put_none, qv_mv, qv_pick, qv_bin, qv_un, qv_conv, qv_nilCheck, qv_build, qv_field, qv_fieldAddr, qv_indexAddr, qv_indexStr, qv_extract, qv_len, qv_lenStr, qv_cap, qv_slice, qv_sliceStr, qv_maxmin, qv_makeFunc, qv_load, qv_rev, eff_alloc, eff_box, eff_buildSl, eff_store, aStore_ptr, eff_makeSl, aMake_int, eff_append, eff_copy, eff_call, eff_callV, aCallV_clo, abin_add, abin_sub, abin_mul, abin_quo, abin_rem, abin_eql, abin_neq, abin_lss, abin_leq, abin_gtr, abin_geq, abin_beql, abin_bneq, abin_nn, abin_sn, abin_ns, abin_nnx, abin_snx, abin_nsx, abin_str, aun_neg, aun_not, aPick_true, aPick_false, aConv_int, aNil_ptr, aNil_clo, aField_agg, aField_one, aFieldAddr_ptr, Int.toNat_natCast, rd1_new, rd_new, new_next, Nat.left_eq_add, Nat.add_eq_left, Nat.succ_ne_self, Nat.one_ne_zero, Nat.add_left_cancel_iff, Nat.add_assoc, List.getElem?_cons_zero, List.getElem?_cons_succ, List.take_succ_cons, List.take_zero, List.drop_succ_cons, List.drop_zero, List.take_nil, List.drop_nil, Nat.reduceLeDiff, Nat.le_refl, afill_nil, afill_cons, zeros_zero, zeros_one1, zeros_single, Nat.lt_add_one, Int.reduceEq, Int.reduceLT, Int.reduceLE, Int.reduceNeg, aExtract_tup, aLen_sl, aLen_nils, aLenStr_str, aMaxmin_int, ldv_one, ldv_agg, news_nil, news_cons, RecOK_nil, RecOK_none, RecOK_cons, recOf, wantedI, rvals_nil, rvals_tmp, rvals_cell, retQ_normal, retQ_ret, packR_one, packR_nil, packR_two, optK_some, optK_none, optK_bind, optK_map, List.map_cons, List.map_nil, Nat.reduceEqDiff, if_true, if_false, ite_true, ite_false, List.nil_append, List.cons_append, Option.map_some, Option.map_none, reduceCtorEq, decide_true, decide_false, Bool.not_true, Bool.not_false, cells_int, cells_bool, cells_str, cells_nilp, cells_ptr, cells_nils, cells_sl, cells_nilf, cells_clo, cells_agg, List.all_cons, List.all_nil, one_int, one_bool, one_str, one_nilp, one_ptr, one_nils, one_sl, one_nilf, one_clo, List.length_cons, List.length_nil, Bool.and_true, Bool.true_and, Bool.and_self, true_and, and_true, Bool.true_eq_false, Bool.false_eq_true, List.contains_cons, List.contains_nil, Bool.or_false, Bool.or_true, Bool.true_or, Bool.false_or, eq_self, Nat.reduceBEq, Nat.reduceAdd, Nat.mul_one, Nat.zero_add, Nat.add_zero]
      split
      · have hlt : i < xs.length := by omega
        obtain ⟨v, hv1, hv2, hv3, hv4, hv5, hv6⟩ := mkT_I.step hr hWs n2 hv.2 hlt u
        have hld : h'.rd1 o i = some (er idz v) := by
          rw [rd1_of_obj (by rw [u.same o hz (lookup_none.2 fun hm => n1 (eads_take (mkT_I.keysS (hr.take i) (Whs_iff.2 fun c hc => Whs_iff.1 hWs c (List.mem_of_mem_take hc)) o hm)))]; exact ho)]
          rw [ers_get, hv1]; rfl
        have ht := totL_snoc (len := List.length) hlt
        have htl := totL_le List.length xs (i + 1)
        have hbi := hb2 _ (List.getElem_mem hlt)
        simp only [nm_eq, ↓reduceIte, vc_skip, vc_region, vc_draw, vc_seq, vc_cond, vc_block, vc_exit, vc_ret, RV_nil, RV_q, RV_e, DV_nil, DV_q, DV_e, gq_none, gq_some, ge_none, ge_some, condK_true, condK_false, condK_dec, condK_ndec, guardK_bool, guardO_bool, guardO_skip, guardK_skip, ev_t, ev_c, mk_cons, put_some, put_none, qv_mv, qv_pick, qv_bin, qv_un, qv_conv, qv_nilCheck, qv_build, qv_field, qv_fieldAddr, qv_indexAddr, qv_indexStr, qv_extract, qv_len, qv_lenStr, qv_cap, qv_slice, qv_sliceStr, qv_maxmin, qv_makeFunc, qv_load, qv_rev, eff_alloc, eff_box, eff_buildSl, eff_store, aStore_ptr, eff_makeSl, aMake_int, eff_append, eff_copy, eff_call, eff_callV, aCallV_clo, abin_add, abin_sub, abin_mul, abin_quo, abin_rem, abin_eql, abin_neq, abin_lss, abin_leq, abin_gtr, abin_geq, abin_beql, abin_bneq, abin_nn, abin_sn, abin_ns, abin_nnx, abin_snx, abin_nsx, abin_str, aun_neg, aun_not, aPick_true, aPick_false, aConv_int, aNil_ptr, aNil_clo, aField_agg, aField_one, aFieldAddr_ptr, Int.toNat_natCast, rd1_new, rd_new, new_next, Nat.left_eq_add, Nat.add_eq_left, Nat.succ_ne_self, Nat.one_ne_zero, Nat.add_left_cancel_iff, Nat.add_assoc, List.getElem?_cons_zero, List.getElem?_cons_succ, List.take_succ_cons, List.take_zero, List.drop_succ_cons, List.drop_zero, List.take_nil, List.drop_nil, Nat.reduceLeDiff, Nat.le_refl, afill_nil, afill_cons, zeros_zero, zeros_one1, zeros_single, Nat.lt_add_one, Int.reduceEq, Int.reduceLT, Int.reduceLE, Int.reduceNeg, aExtract_tup, aLen_sl, aLen_nils, aLenStr_str, aMaxmin_int, ldv_one, ldv_agg, news_nil, news_cons, RecOK_nil, RecOK_none, RecOK_cons, recOf, wantedI, rvals_nil, rvals_tmp, rvals_cell, retQ_normal, retQ_ret, packR_one, packR_nil, packR_two, optK_some, optK_none, optK_bind, optK_map, List.map_cons, List.map_nil, Nat.reduceEqDiff, if_true, if_false, ite_true, ite_false, List.nil_append, List.cons_append, Option.map_some, Option.map_none, reduceCtorEq, decide_true, decide_false, Bool.not_true, Bool.not_false, cells_int, cells_bool, cells_str, cells_nilp, cells_ptr, cells_nils, cells_sl, cells_nilf, cells_clo, cells_agg, List.all_cons, List.all_nil, one_int, one_bool, one_str, one_nilp, one_ptr, one_nils, one_sl, one_nilf, one_clo, List.length_cons, List.length_nil, Bool.and_true, Bool.true_and, Bool.and_self, true_and, and_true, Bool.true_eq_false, Bool.false_eq_true, List.contains_cons, List.contains_nil, Bool.or_false, Bool.or_true, Bool.true_or, Bool.false_or, eq_self, Nat.reduceBEq, Nat.reduceAdd, Nat.mul_one, Nat.zero_add, Nat.add_zero, aIndex_nat hlt, hld, wrapS hlt (by omega : xs.length ≤ 4611686018427387904)]
        refine markInt64S_A hv2 hv3 u.wf hv5 hbi (by omega) (by omega) fun h'' u' => ?_
        simp only [nm_eq, ↓reduceIte, vc_skip, vc_region, vc_draw, vc_seq, vc_cond, vc_block, vc_exit, vc_ret, RV_nil, RV_q, RV_e, DV_nil, DV_q, DV_e, gq_none, gq_some, ge_none, ge_some, condK_true, condK_false, condK_dec, condK_ndec, guardK_bool, guardO_bool, guardO_skip, guardK_skip, ev_t, ev_c, mk_cons, put_some, put_none, qv_mv, qv_pick, qv_bin, qv_un, qv_conv, qv_nilCheck, qv_build, qv_field, qv_fieldAddr, qv_indexAddr, qv_indexStr, qv_extract, qv_len, qv_lenStr, qv_cap, qv_slice, qv_sliceStr, qv_maxmin, qv_makeFunc, qv_load, qv_rev, eff_alloc, eff_box, eff_buildSl, eff_store, aStore_ptr, eff_makeSl, aMake_int, eff_append, eff_copy, eff_call, eff_callV, aCallV_clo, abin_add, abin_sub, abin_mul, abin_quo, abin_rem, abin_eql, abin_neq, abin_lss, abin_leq, abin_gtr, abin_geq, abin_beql, abin_bneq, abin_nn, abin_sn, abin_ns, abin_nnx, abin_snx, abin_nsx, abin_str, aun_neg, aun_not, aPick_true, aPick_false, aConv_int, aNil_ptr, aNil_clo, aField_agg, aField_one, aFieldAddr_ptr, Int.toNat_natCast, rd1_new, rd_new, new_next, Nat.left_eq_add, Nat.add_eq_left, Nat.succ_ne_self, Nat.one_ne_zero, Nat.add_left_cancel_iff, Nat.add_assoc, List.getElem?_cons_zero, List.getElem?_cons_succ, List.take_succ_cons, List.take_zero, List.drop_succ_cons, List.drop_zero, List.take_nil, List.drop_nil, Nat.reduceLeDiff, Nat.le_refl, afill_nil, afill_cons, zeros_zero, zeros_one1, zeros_single, Nat.lt_add_one, Int.reduceEq, Int.reduceLT, Int.reduceLE, Int.reduceNeg, aExtract_tup, aLen_sl, aLen_nils, aLenStr_str, aMaxmin_int, ldv_one, ldv_agg, news_nil, news_cons, RecOK_nil, RecOK_none, RecOK_cons, recOf, wantedI, rvals_nil, rvals_tmp, rvals_cell, retQ_normal, retQ_ret, packR_one, packR_nil, packR_two, optK_some, optK_none, optK_bind, optK_map, List.map_cons, List.map_nil, Nat.reduceEqDiff, if_true, if_false, ite_true, ite_false, List.nil_append, List.cons_append, Option.map_some, Option.map_none, reduceCtorEq, decide_true, decide_false, Bool.not_true, Bool.not_false, cells_int, cells_bool, cells_str, cells_nilp, cells_ptr, cells_nils, cells_sl, cells_nilf, cells_clo, cells_agg, List.all_cons, List.all_nil, one_int, one_bool, one_str, one_nilp, one_ptr, one_nils, one_sl, one_nilf, one_clo, List.length_cons, List.length_nil, Bool.and_true, Bool.true_and, Bool.and_self, true_and, and_true, Bool.true_eq_false, Bool.false_eq_true, List.contains_cons, List.contains_nil, Bool.or_false, Bool.or_true, Bool.true_or, Bool.false_or, eq_self, Nat.reduceBEq, Nat.reduceAdd, Nat.mul_one, Nat.zero_add, Nat.add_zero, wrapS hlt (by omega : xs.length ≤ 4611686018427387904)]
        exact ⟨_, by omega, i + 1, by omega, rfl, (by (simp only [nm_eq, ↓reduceIte, vc_skip, vc_region, vc_draw, vc_seq, vc_cond, vc_block, vc_exit, vc_ret, RV_nil, RV_q, RV_e, DV_nil, DV_q, DV_e, gq_none, gq_some, ge_none, ge_some, condK_true, condK_false, condK_dec, condK_ndec, guardK_bool, guardO_bool, guardO_skip, guardK_skip, ev_t, ev_c, mk_cons, put_some, put_none, qv_mv, qv_pick, qv_bin, qv_un, qv_conv, qv_nilCheck, qv_build, qv_field, qv_fieldAddr, qv_indexAddr, qv_indexStr, qv_extract, qv_len, qv_lenStr, qv_cap, qv_slice, qv_sliceStr, qv_maxmin, qv_makeFunc, qv_load, qv_rev, eff_alloc, eff_box, eff_buildSl, eff_store, aStore_ptr, eff_makeSl, aMake_int, eff_append, eff_copy, eff_call, eff_callV, aCallV_clo, abin_add, abin_sub, abin_mul, abin_quo, abin_rem, abin_eql, abin_neq, abin_lss, abin_leq, abin_gtr, abin_geq, abin_beql, abin_bneq, abin_nn, abin_sn, abin_ns, abin_nnx, abin_snx, abin_nsx, abin_str, aun_neg, aun_not, aPick_true, aPick_false, aConv_int, aNil_ptr, aNil_clo, aField_agg, aField_one, aFieldAddr_ptr, Int.toNat_natCast, rd1_new, rd_new, new_next, Nat.left_eq_add, Nat.add_eq_left, Nat.succ_ne_self, Nat.one_ne_zero, Nat.add_left_cancel_iff, Nat.add_assoc, List.getElem?_cons_zero, List.getElem?_cons_succ, List.take_succ_cons, List.take_zero, List.drop_succ_cons, List.drop_zero, List.take_nil, List.drop_nil, Nat.reduceLeDiff, Nat.le_refl, afill_nil, afill_cons, zeros_zero, zeros_one1, zeros_single, Nat.lt_add_one, Int.reduceEq, Int.reduceLT, Int.reduceLE, Int.reduceNeg, aExtract_tup, aLen_sl, aLen_nils, aLenStr_str, aMaxmin_int, ldv_one, ldv_agg, news_nil, news_cons, RecOK_nil, RecOK_none, RecOK_cons, recOf, wantedI, rvals_nil, rvals_tmp, rvals_cell, retQ_normal, retQ_ret, packR_one, packR_nil, packR_two, optK_some, optK_none, optK_bind, optK_map, List.map_cons, List.map_nil, Nat.reduceEqDiff, if_true, if_false, ite_true, ite_false, List.nil_append, List.cons_append, Option.map_some, Option.map_none, reduceCtorEq, decide_true, decide_false, Bool.not_true, Bool.not_false, cells_int, cells_bool, cells_str, cells_nilp, cells_ptr, cells_nils, cells_sl, cells_nilf, cells_clo, cells_agg, List.all_cons, List.all_nil, one_int, one_bool, one_str, one_nilp, one_ptr, one_nils, one_sl, one_nilf, one_clo, List.length_cons, List.length_nil, Bool.and_true, Bool.true_and, Bool.and_self, true_and, and_true, Bool.true_eq_false, Bool.false_eq_true, List.contains_cons, List.contains_nil, Bool.or_false, Bool.or_true, Bool.true_or, Bool.false_or, eq_self, Nat.reduceBEq, Nat.reduceAdd, Nat.mul_one, Nat.zero_add, Nat.add_zero, List.cons.injEq, AV.int.injEq, AV.sl.injEq, and_self]) <;> omega), hv6 _ u'⟩
      · have hie : i = xs.length := by omega
        subst hie
        rw [List.take_length, List.take_of_length_le (by rw [hr.1]; exact Nat.le_refl _)] at u
        rw [List.take_length]
        exact hk _ u
theorem markInt64SSS_A {v : PV} {xs : List (List (List Int))} {k : Int} (hI : FIII v xs) (hW : Wh v) (hnd : (ead v).Nodup) (hw : HWF h) (hv : VOK (zlt h) h 0 v) (hb : xs.length ≤ 4294967296) (hb2 : ∀ x ∈ xs, x.length ≤ 4294967296 ∧ ∀ y ∈ x, y.length ≤ 4294967296) (hk0 : 0 ≤ k) (hk1 : k + totL (totL List.length) xs ≤ 2305843009213693952)
    (hk : ∀ h', Upd h (mkF (mkF mkI List.length) (totL List.length) k v xs) h' → K (.int .i64 (k + totL (totL List.length) xs)) h') : ACalls Try.prog 53 [er idz v, .int .i64 k] h K := by
  refine acalls_of_vc mix Try.func53 cf53 rfl ?_
  dsimp only [if53]
  obtain ⟨w, a, rows, rfl, hr⟩ := hI
  by_cases hne : rows = []
  · have hx := hr.nil_iff.1 hne
    subst hne
    subst hx
    have hlen : aLen a = some (.int .i64 ((0 : Nat) : Int)) := by
      obtain ⟨rfl, _⟩ | ⟨o, off, cap, rfl, _⟩ := hv.1 <;> rfl
    simp only [nm_eq, ↓reduceIte, vc_skip, vc_region, vc_draw, vc_seq, vc_cond, vc_block, vc_exit, vc_ret, RV_nil, RV_q, RV_e, DV_nil, DV_q, DV_e, gq_none, gq_some, ge_none, ge_some, condK_true, condK_false, condK_dec, condK_ndec, guardK_bool, guardO_bool, guardO_skip, guardK_skip, ev_t, ev_c, mk_cons, put_some, put_none, qv_mv, qv_pick, qv_bin, qv_un, qv_conv, qv_nilCheck, qv_build, qv_field, qv_fieldAddr, qv_indexAddr, qv_indexStr, qv_extract, qv_len, qv_lenStr, qv_cap, qv_slice, qv_sliceStr, qv_maxmin, qv_makeFunc, qv_load, qv_rev, eff_alloc, eff_box, eff_buildSl, eff_store, aStore_ptr, eff_makeSl, aMake_int, eff_append, eff_copy, eff_call, eff_callV, aCallV_clo, abin_add, abin_sub, abin_mul, abin_quo, abin_rem, abin_eql, abin_neq, abin_lss, abin_leq, abin_gtr, abin_geq, abin_beql, abin_bneq, abin_nn, abin_sn, abin_ns, abin_nnx, abin_snx, abin_nsx, abin_str, aun_neg, aun_not, aPick_true, aPick_false, aConv_int, aNil_ptr, aNil_clo, aField_agg, aField_one, aFieldAddr_ptr, Int.toNat_natCast, rd1_new, rd_new, new_next, Nat.left_eq_add, Nat.add_eq_left, Nat.succ_ne_self, Nat.one_ne_zero, Nat.add_left_cancel_iff, Nat.add_assoc, List.getElem?_cons_zero, List.getElem?_cons_succ, List.take_succ_cons, List.take_zero, List.drop_succ_cons, List.drop_zero, List.take_nil, List.drop_nil, Nat.reduceLeDiff, Nat.le_refl, afill_nil, afill_cons, zeros_zero, zeros_one1, zeros_single, Nat.lt_add_one, Int.reduceEq, Int.reduceLT, Int.reduceLE, Int.reduceNeg, aExtract_tup, aLen_sl, aLen_nils, aLenStr_str, aMaxmin_int, ldv_one, ldv_agg, news_nil, news_cons, RecOK_nil, RecOK_none, RecOK_cons, recOf, wantedI, rvals_nil, rvals_tmp, rvals_cell, retQ_normal, retQ_ret, packR_one, packR_nil, packR_two, optK_some, optK_none, optK_bind, optK_map, List.map_cons, List.map_nil, Nat.reduceEqDiff, if_true, if_false, ite_true, ite_false, List.nil_append, List.cons_append, Option.map_some, Option.map_none, reduceCtorEq, decide_true, decide_false, Bool.not_true, Bool.not_false, cells_int, cells_bool, cells_str, cells_nilp, cells_ptr, cells_nils, cells_sl, cells_nilf, cells_clo, cells_agg, List.all_cons, List.all_nil, one_int, one_bool, one_str, one_nilp, one_ptr, one_nils, one_sl, one_nilf, one_clo, List.length_cons, List.length_nil, Bool.and_true, Bool.true_and, Bool.and_self, true_and, and_true, Bool.true_eq_false, Bool.false_eq_true, List.contains_cons, List.contains_nil, Bool.or_false, Bool.or_true, Bool.true_or, Bool.false_or, eq_self, Nat.reduceBEq, Nat.reduceAdd, Nat.mul_one, Nat.zero_add, Nat.add_zero, er]
    refine vc_loop (fun m vs h' => vs = [a, .int .i64 k, .int .i64 0] ∧ h' = h) 0 ⟨rfl, rfl⟩ ?_
    rintro m vs h' ⟨rfl, rfl⟩
    simp only [nm_eq, ↓reduceIte, vc_skip, vc_region, vc_draw, vc_seq, vc_cond, vc_block, vc_exit, vc_ret, RV_nil, RV_q, RV_e, DV_nil, DV_q, DV_e, gq_none, gq_some, ge_none, ge_some, condK_true, condK_false, condK_dec, condK_ndec, guardK_bool, guardO_bool, guardO_skip, guardK_skip, ev_t, ev_c, mk_cons, put_some, put_none, qv_mv, qv_pick, qv_bin, qv_un, qv_conv, qv_nilCheck, qv_build, qv_field, qv_fieldAddr, qv_indexAddr, qv_indexStr, qv_extract, qv_len, qv_lenStr, qv_cap, qv_slice, qv_sliceStr, qv_maxmin, qv_makeFunc, qv_load, qv_rev, eff_alloc, eff_box, eff_buildSl, eff_store, aStore_ptr, eff_makeSl, aMake_int, eff_append, eff_copy, eff_call, eff_callV, aCallV_clo, abin_add, abin_sub, abin_mul, abin_quo, abin_rem, abin_eql, abin_neq, abin_lss, abin_leq, abin_gtr, abin_geq, abin_beql, abin_bneq, abin_nn, abin_sn, abin_ns, abin_nnx, abin_snx, abin_nsx, abin_str, aun_neg, aun_not, aPick_true, aPick_false, aConv_int, aNil_ptr, aNil_clo, aField_agg, aField_one, aFieldAddr_ptr, Int.toNat_natCast, rd1_new, rd_new, new_next, Nat.left_eq_add, Nat.add_eq_left, Nat.succ_ne_self, Nat.one_ne_zero, Nat.add_left_cancel_iff, Nat.add_assoc, List.getElem?_cons_zero, List.getElem?_cons_succ, List.take_succ_cons, List.take_zero, List.drop_succ_cons, List.drop_zero, List.take_nil, List.drop_nil, Nat.reduceLeDiff, Nat.le_refl, afill_nil, afill_cons, zeros_zero, zeros_one1, zeros_single, Nat.lt_add_one, Int.reduceEq, Int.reduceLT, Int.reduceLE, Int.reduceNeg, aExtract_tup, aLen_sl, aLen_nils, aLenStr_str, aMaxmin_int, ldv_one, ldv_agg, news_nil, news_cons, RecOK_nil, RecOK_none, RecOK_cons, recOf, wantedI, rvals_nil, rvals_tmp, rvals_cell, retQ_normal, retQ_ret, packR_one, packR_nil, packR_two, optK_some, optK_none, optK_bind, optK_map, List.map_cons, List.map_nil, Nat.reduceEqDiff, if_true, if_false, ite_true, ite_false, List.nil_append, List.cons_append, Option.map_some, Option.map_none, reduceCtorEq, decide_true, decide_false, Bool.not_true, Bool.not_false, cells_int, cells_bool, cells_str, cells_nilp, cells_ptr, cells_nils, cells_sl, cells_nilf, cells_clo, cells_agg, List.all_cons, List.all_nil, one_int, one_bool, one_str, one_nilp, one_ptr, one_nils, one_sl, one_nilf, one_clo, List.length_cons, List.length_nil, Bool.and_true, Bool.true_and, Bool.and_self, true_and, and_true, Bool.true_eq_false, Bool.false_eq_true, List.contains_cons, List.contains_nil, Bool.or_false, Bool.or_true, Bool.true_or, Bool.false_or, eq_self, Nat.reduceBEq, Nat.reduceAdd, Nat.mul_one, Nat.zero_add, Nat.add_zero, hlen, Int.lt_irrefl]
    have := hk h' (Upd.refl hw)
    simpa [totL] using this
  · obtain ⟨hwt, _, hWs⟩ := hW.resolve_left hne
    obtain ⟨o, cap, rfl, ho, hz⟩ := hv.whole hwt hne
    rw [ead_fz hne] at hnd
    obtain ⟨n1, n2⟩ := List.nodup_cons.1 hnd
    simp only [nm_eq, ↓reduceIte, vc_skip, vc_region, vc_draw, vc_seq, vc_cond, vc_block, vc_exit, vc_ret, RV_nil, RV_q, RV_e, DV_nil, DV_q, DV_e, gq_none, gq_some, ge_none, ge_some, condK_true, condK_false, condK_dec, condK_ndec, guardK_bool, guardO_bool, guardO_skip, guardK_skip, ev_t, ev_c, mk_cons, put_some, put_none, qv_mv, qv_pick, qv_bin, qv_un, qv_conv, qv_nilCheck, qv_build, qv_field, qv_fieldAddr, qv_indexAddr, qv_indexStr, qv_extract, qv_len, qv_lenStr, qv_cap, qv_slice, qv_sliceStr, qv_maxmin, qv_makeFunc, qv_load, qv_rev, eff_alloc, eff_box, eff_buildSl, eff_store, aStore_ptr, eff_makeSl, aMake_int, eff_append, eff_copy, eff_call, eff_callV, aCallV_clo, abin_add, abin_sub, abin_mul, abin_quo, abin_rem, abin_eql, abin_neq, abin_lss, abin_leq, abin_gtr, abin_geq, abin_beql, abin_bneq, abin_nn, abin_sn, abin_ns, abin_nnx, abin_snx, abin_nsx, abin_str, aun_neg, aun_not, aPick_true, aPick_false, aConv_int, aNil_ptr, aNil_clo, aField_agg, aField_one, aFieldAddr_ptr, Int.toNat_natCast, rd1_new, rd_new, new_next, Nat.left_eq_add, Nat.add_eq_left, Nat.succ_ne_self, Nat.one_ne_zero, Nat.add_left_cancel_iff, Nat.add_assoc, List.getElem?_cons_zero, List.getElem?_cons_succ, List.take_succ_cons, List.take_zero, List.drop_succ_cons, List.drop_zero, List.take_nil, List.drop_nil, Nat.reduceLeDiff, Nat.le_refl, afill_nil, afill_cons, zeros_zero, zeros_one1, zeros_single, Nat.lt_add_one, Int.reduceEq, Int.reduceLT, Int.reduceLE, Int.reduceNeg, aExtract_tup, aLen_sl, aLen_nils, aLenStr_str, aMaxmin_int, ldv_one, ldv_agg, news_nil, news_cons, RecOK_nil, RecOK_none, RecOK_cons, recOf, wantedI, rvals_nil, rvals_tmp, rvals_cell, retQ_normal, retQ_ret, packR_one, packR_nil, packR_two, optK_some, optK_none, optK_bind, optK_map, List.map_cons, List.map_nil, Nat.reduceEqDiff, if_true, if_false, ite_true, ite_false, List.nil_append, List.cons_append, Option.map_some, Option.map_none, reduceCtorEq, decide_true, decide_false, Bool.not_true, Bool.not_false, cells_int, cells_bool, cells_str, cells_nilp, cells_ptr, cells_nils, cells_sl, cells_nilf, cells_clo, cells_agg, List.all_cons, List.all_nil, one_int, one_bool, one_str, one_nilp, one_ptr, one_nils, one_sl, one_nilf, one_clo, List.length_cons, List.length_nil, Bool.and_true, Bool.true_and, Bool.and_self, true_and, and_true, Bool.true_eq_false, Bool.false_eq_true, List.contains_cons, List.contains_nil, Bool.or_false, Bool.or_true, Bool.true_or, Bool.false_or, eq_self, Nat.reduceBEq, Nat.reduceAdd, Nat.mul_one, Nat.zero_add, Nat.add_zero, er]
    refine vc_loop (fun m vs h' => ∃ i : Nat, i ≤ xs.length ∧ m = xs.length - i ∧ vs = [.sl o 0 xs.length cap, .int .i64 (k + totL (totL List.length) (xs.take i)), .int .i64 i] ∧ Upd h (mkS (mkF mkI List.length) (totL List.length) k (rows.take i) (xs.take i)) h') xs.length ?_ ?_
    · exact ⟨0, by omega, by omega, by rw [List.take_zero, totL_nil]; exact (by (simp only [nm_eq, ↓reduceIte, vc_skip, vc_region, vc_draw, vc_seq, vc_cond, vc_block, vc_exit, vc_ret, RV_nil, RV_q, RV_e, DV_nil, DV_q, DV_e, gq_none, gq_some, ge_none, ge_some, condK_true, condK_false, condK_dec, condK_ndec, guardK_bool, guardO_bool, guardO_skip, guardK_skip, ev_t, ev_c, mk_cons, put_some, put_none, qv_mv, qv_pick, qv_bin, qv_un, qv_conv, qv_nilCheck, qv_build, qv_field, qv_fieldAddr, qv_indexAddr, qv_indexStr, qv_extract, qv_len, qv_lenStr, qv_cap, qv_slice, qv_sliceStr, qv_maxmin, qv_makeFunc, qv_load, qv_rev, eff_alloc, eff_box, eff_buildSl, eff_store, aStore_ptr, eff_makeSl, aMake_int, eff_append, eff_copy, eff_call, eff_callV, aCallV_clo, abin_add, abin_sub, abin_mul, abin_quo, abin_rem, abin_eql, abin_neq, abin_lss, abin_leq, abin_gtr, abin_geq, abin_beql, abin_bneq, abin_nn, abin_sn, abin_ns, abin_nnx, abin_snx, abin_nsx, abin_str, aun_neg, aun_not, aPick_true, aPick_false, aConv_int, aNil_ptr, aNil_clo, aField_agg, aField_one, aFieldAddr_ptr, Int.toNat_natCast, rd1_new, rd_new, new_next, Nat.left_eq_add, Nat.add_eq_left, Nat.succ_ne_self, Nat.one_ne_zero, Nat.add_left_cancel_iff, Nat.add_assoc, List.getElem?_cons_zero, List.getElem?_cons_succ, List.take_succ_cons, List.take_zero, List.drop_succ_cons, List.drop_zero, List.take_nil, List.drop_nil, Nat.reduceLeDiff, Nat.le_refl, afill_nil, afill_cons, zeros_zero, zeros_one1, zeros_single, Nat.lt_add_one, Int.reduceEq, Int.reduceLT, Int.reduceLE, Int.reduceNeg, aExtract_tup, aLen_sl, aLen_nils, aLenStr_str, aMaxmin_int, ldv_one, ldv_agg, news_nil, news_cons, RecOK_nil, RecOK_none, RecOK_cons, recOf, wantedI, rvals_nil, rvals_tmp, rvals_cell, retQ_normal, retQ_ret, packR_one, packR_nil, packR_two, optK_some, optK_none, optK_bind, optK_map, List.map_cons, List.map_nil, Nat.reduceEqDiff, if_true, if_false, ite_true, ite_false, List.nil_append, List.cons_append, Option.map_some, Option.map_none, reduceCtorEq, decide_true, decide_false, Bool.not_true, Bool.not_false, cells_int, cells_bool, cells_str, cells_nilp, cells_ptr, cells_nils, cells_sl, cells_nilf, cells_clo, cells_agg, List.all_cons, List.all_nil, one_int, one_bool, one_str, one_nilp, one_ptr, one_nils, one_sl, one_nilf, one_clo, List.length_cons, List.length_nil, Bool.and_true, Bool.true_and, Bool.and_self, true_and, and_true, Bool.true_eq_false, Bool.false_eq_true, List.contains_cons, List.contains_nil, Bool.or_false, Bool.or_true, Bool.true_or, Bool.false_or, eq_self, Nat.reduceBEq, Nat.reduceAdd, Nat.mul_one, Nat.zero_add, Nat.add_zero, List.cons.injEq, AV.int.injEq, AV.sl.injEq, and_self]) <;> omega), by simp only [List.take_zero, mkS_nil]; exact Upd.refl hw⟩
    · rintro m vs h' ⟨i, hi, rfl, rfl, u⟩
      simp only [nm_eq, ↓reduceIte, vc_skip, vc_region, vc_draw, vc_seq, vc_cond, vc_block, vc_exit, vc_ret, RV_nil, RV_q, RV_e, DV_nil, DV_q, DV_e, gq_none, gq_some, ge_none, ge_some, condK_true, condK_false, condK_dec, condK_ndec, guardK_bool, guardO_bool, guardO_skip, guardK_skip, ev_t, ev_c, mk_cons, put_some, put_none, qv_mv, qv_pick, qv_bin, qv_un, qv_conv, qv_nilCheck, qv_build, qv_field, qv_fieldAddr, qv_indexAddr, qv_indexStr, qv_extract, qv_len, qv_lenStr, qv_cap, qv_slice, qv_sliceStr, qv_maxmin, qv_makeFunc, qv_load, qv_rev, eff_alloc, eff_box, eff_buildSl, eff_store, aStore_ptr, eff_makeSl, aMake_int, eff_append, eff_copy, eff_call, eff_callV, aCallV_clo, abin_add, abin_sub, abin_mul, abin_quo, abin_rem, abin_eql, abin_neq, abin_lss, abin_leq, abin_gtr, abin_geq, abin_beql, abin_bneq, abin_nn, abin_sn, abin_ns, abin_nnx, abin_snx, abin_nsx, abin_str, aun_neg, aun_not, aPick_true, aPick_false, aConv_int, aNil_ptr, aNil_clo, aField_agg, aField_one, aFieldAddr_ptr, Int.toNat_natCast, rd1_new, rd_new, new_next, Nat.left_eq_add, Nat.add_eq_left, Nat.succ_ne_self, Nat.one_ne_zero, Nat.add_left_cancel_iff, Nat.add_assoc, List.getElem?_cons_zero, List.getElem?_cons_succ, List.take_succ_cons, List.take_zero, List.drop_succ_cons, List.drop_zero, List.take_nil, List.drop_nil, Nat.reduceLeDiff, Nat.le_refl, afill_nil, afill_cons, zeros_zero, zeros_one1, zeros_single, Nat.lt_add_one, Int.reduceEq, Int.reduceLT, Int.reduceLE, Int.reduceNeg, aExtract_tup, aLen_sl, aLen_nils, aLenStr_str, aMaxmin_int, ldv_one, ldv_agg, news_nil, news_cons, RecOK_nil, RecOK_none, RecOK_cons, recOf, wantedI, rvals_nil, rvals_tmp, rvals_cell, retQ_normal, retQ_ret, packR_one, packR_nil, packR_two, optK_some, optK_none, optK_bind, optK_map, List.map_cons, List.map_nil, Nat.reduceEqDiff, if_true, if_false, ite_true, ite_false, List.nil_append, List.cons_append, Option.map_some, Option.map_none, reduceCtorEq, decide_true, decide_false, Bool.not_true, Bool.not_false, cells_int, cells_bool, cells_str, cells_nilp, cells_ptr, cells_nils, cells_sl, cells_nilf, cells_clo, cells_agg, List.all_cons, List.all_nil, one_int, one_bool, one_str, one_nilp, one_ptr, one_nils, one_sl, one_nilf, one_clo, List.length_cons, List.length_nil, Bool.and_true, Bool.true_and, Bool.and_self, true_and, and_true, Bool.true_eq_false, Bool.false_eq_true, List.contains_cons, List.contains_nil, Bool.or_false, Bool.or_true, Bool.true_or, Bool.false_or, eq_self, Nat.reduceBEq, Nat.reduceAdd, Nat.mul_one, Nat.zero_add, Nat.add_zero]
      split
      · have hlt : i < xs.length := by omega
        obtain ⟨v, hv1, hv2, hv3, hv4, hv5, hv6⟩ := mkT_I.F.step hr hWs n2 hv.2 hlt u
        have hld : h'.rd1 o i = some (er idz v) := by
          rw [rd1_of_obj (by rw [u.same o hz (lookup_none.2 fun hm => n1 (eads_take (mkT_I.F.keysS (hr.take i) (Whs_iff.2 fun c hc => Whs_iff.1 hWs c (List.mem_of_mem_take hc)) o hm)))]; exact ho)]
          rw [ers_get, hv1]; rfl
        have ht := totL_snoc (len := totL List.length) hlt
        have htl := totL_le (totL List.length) xs (i + 1)
        have hbi := hb2 _ (List.getElem_mem hlt)
        simp only [nm_eq, ↓reduceIte, vc_skip, vc_region, vc_draw, vc_seq, vc_cond, vc_block, vc_exit, vc_ret, RV_nil, RV_q, RV_e, DV_nil, DV_q, DV_e, gq_none, gq_some, ge_none, ge_some, condK_true, condK_false, condK_dec, condK_ndec, guardK_bool, guardO_bool, guardO_skip, guardK_skip, ev_t, ev_c, mk_cons, put_some, put_none, qv_mv, qv_pick, qv_bin, qv_un, qv_conv, qv_nilCheck, qv_build, qv_field, qv_fieldAddr, qv_indexAddr, qv_indexStr, qv_extract, qv_len, qv_lenStr, qv_cap, qv_slice, qv_sliceStr, qv_maxmin, qv_makeFunc, qv_load, qv_rev, eff_alloc, eff_box, eff_buildSl, eff_store, aStore_ptr, eff_makeSl, aMake_int, eff_append, eff_copy, eff_call, eff_callV, aCallV_clo, abin_add, abin_sub, abin_mul, abin_quo, abin_rem, abin_eql, abin_neq, abin_lss, abin_leq, abin_gtr, abin_geq, abin_beql, abin_bneq, abin_nn, abin_sn, abin_ns, abin_nnx, abin_snx, abin_nsx, abin_str, aun_neg, aun_not, aPick_true, aPick_false, aConv_int, aNil_ptr, aNil_clo, aField_agg, aField_one, aFieldAddr_ptr, Int.toNat_natCast, rd1_new, rd_new, new_next, Nat.left_eq_add, Nat.add_eq_left, Nat.succ_ne_self, Nat.one_ne_zero, Nat.add_left_cancel_iff, Nat.add_assoc, List.getElem?_cons_zero, List.getElem?_cons_succ, List.take_succ_cons, List.take_zero, List.drop_succ_cons, List.drop_zero, List.take_nil, List.drop_nil, Nat.reduceLeDiff, Nat.le_refl, afill_nil, afill_cons, zeros_zero, zeros_one1, zeros_single, Nat.lt_add_one, Int.reduceEq, Int.reduceLT, Int.reduceLE, Int.reduceNeg, aExtract_tup, aLen_sl, aLen_nils, aLenStr_str, aMaxmin_int, ldv_one, ldv_agg, news_nil, news_cons, RecOK_nil, RecOK_none, RecOK_cons, recOf, wantedI, rvals_nil, rvals_tmp, rvals_cell, retQ_normal, retQ_ret, packR_one, packR_nil, packR_two, optK_some, optK_none, optK_bind, optK_map, List.map_cons, List.map_nil, Nat.reduceEqDiff, if_true, if_false, ite_true, ite_false, List.nil_append, List.cons_append, Option.map_some, Option.map_none, reduceCtorEq, decide_true, decide_false, Bool.not_true, Bool.not_false, cells_int, cells_bool, cells_str, cells_nilp, cells_ptr, cells_nils, cells_sl, cells_nilf, cells_clo, cells_agg, List.all_cons, List.all_nil, one_int, one_bool, one_str, one_nilp, one_ptr, one_nils, one_sl, one_nilf, one_clo, List.length_cons, List.length_nil, Bool.and_true, Bool.true_and, Bool.and_self, true_and, and_true, Bool.true_eq_false, Bool.false_eq_true, List.contains_cons, List.contains_nil, Bool.or_false, Bool.or_true, Bool.true_or, Bool.false_or, eq_self, Nat.reduceBEq, Nat.reduceAdd, Nat.mul_one, Nat.zero_add, Nat.add_zero, aIndex_nat hlt, hld, wrapS hlt (by omega : xs.length ≤ 4611686018427387904)]
        refine markInt64SS_A hv2 hv3 hv4 u.wf hv5 hbi.1 hbi.2 (by omega) (by omega) fun h'' u' => ?_
        simp only [nm_eq, ↓reduceIte, vc_skip, vc_region, vc_draw, vc_seq, vc_cond, vc_block, vc_exit, vc_ret, RV_nil, RV_q, RV_e, DV_nil, DV_q, DV_e, gq_none, gq_some, ge_none, ge_some, condK_true, condK_false, condK_dec, condK_ndec, guardK_bool, guardO_bool, guardO_skip, guardK_skip, ev_t, ev_c, mk_cons, put_some, put_none, qv_mv, qv_pick, qv_bin, qv_un, qv_conv, qv_nilCheck, qv_build, qv_field, qv_fieldAddr, qv_indexAddr, qv_indexStr, qv_extract, qv_len, qv_lenStr, qv_cap, qv_slice, qv_sliceStr, qv_maxmin, qv_makeFunc, qv_load, qv_rev, eff_alloc, eff_box, eff_buildSl, eff_store, aStore_ptr, eff_makeSl, aMake_int, eff_append, eff_copy, eff_call, eff_callV, aCallV_clo, abin_add, abin_sub, abin_mul, abin_quo, abin_rem, abin_eql, abin_neq, abin_lss, abin_leq, abin_gtr, abin_geq, abin_beql, abin_bneq, abin_nn, abin_sn, abin_ns, abin_nnx, abin_snx, abin_nsx, abin_str, aun_neg, aun_not, aPick_true, aPick_false, aConv_int, aNil_ptr, aNil_clo, aField_agg, aField_one, aFieldAddr_ptr, Int.toNat_natCast, rd1_new, rd_new, new_next, Nat.left_eq_add, Nat.add_eq_left, Nat.succ_ne_self, Nat.one_ne_zero, Nat.add_left_cancel_iff, Nat.add_assoc, List.getElem?_cons_zero, List.getElem?_cons_succ, List.take_succ_cons, List.take_zero, List.drop_succ_cons, List.drop_zero, List.take_nil, List.drop_nil, Nat.reduceLeDiff, Nat.le_refl, afill_nil, afill_cons, zeros_zero, zeros_one1, zeros_single, Nat.lt_add_one, Int.reduceEq, Int.reduceLT, Int.reduceLE, Int.reduceNeg, aExtract_tup, aLen_sl, aLen_nils, aLenStr_str, aMaxmin_int, ldv_one, ldv_agg, news_nil, news_cons, RecOK_nil, RecOK_none, RecOK_cons, recOf, wantedI, rvals_nil, rvals_tmp, rvals_cell, retQ_normal, retQ_ret, packR_one, packR_nil, packR_two, optK_some, optK_none, optK_bind, optK_map, List.map_cons, List.map_nil, Nat.reduceEqDiff, if_true, if_false, ite_true, ite_false, List.nil_append, List.cons_append, Option.map_some, Option.map_none, reduceCtorEq, decide_true, decide_false, Bool.not_true, Bool.not_false, cells_int, cells_bool, cells_str, cells_nilp, cells_ptr, cells_nils, cells_sl, cells_nilf, cells_clo, cells_agg, List.all_cons, List.all_nil, one_int, one_bool, one_str, one_nilp, one_ptr, one_nils, one_sl, one_nilf, one_clo, List.length_cons, List.length_nil, Bool.and_true, Bool.true_and, Bool.and_self, true_and, and_true, Bool.true_eq_false, Bool.false_eq_true, List.contains_cons, List.contains_nil, Bool.or_false, Bool.or_true, Bool.true_or, Bool.false_or, eq_self, Nat.reduceBEq, Nat.reduceAdd, Nat.mul_one, Nat.zero_add, Nat.add_zero, wrapS hlt (by omega : xs.length ≤ 4611686018427387904)]
        exact ⟨_, by omega, i + 1, by omega, rfl, (by (simp only [nm_eq, ↓reduceIte, vc_skip, vc_region, vc_draw, vc_seq, vc_cond, vc_block, vc_exit, vc_ret, RV_nil, RV_q, RV_e, DV_nil, DV_q, DV_e, gq_none, gq_some, ge_none, ge_some, condK_true, condK_false, condK_dec, condK_ndec, guardK_bool, guardO_bool, guardO_skip, guardK_skip, ev_t, ev_c, mk_cons, put_some, put_none, qv_mv, qv_pick, qv_bin, qv_un, qv_conv, qv_nilCheck, qv_build, qv_field, qv_fieldAddr, qv_indexAddr, qv_indexStr, qv_extract, qv_len, qv_lenStr, qv_cap, qv_slice, qv_sliceStr, qv_maxmin, qv_makeFunc, qv_load, qv_rev, eff_alloc, eff_box, eff_buildSl, eff_store, aStore_ptr, eff_makeSl, aMake_int, eff_append, eff_copy, eff_call, eff_callV, aCallV_clo, abin_add, abin_sub, abin_mul, abin_quo, abin_rem, abin_eql, abin_neq, abin_lss, abin_leq, abin_gtr, abin_geq, abin_beql, abin_bneq, abin_nn, abin_sn, abin_ns, abin_nnx, abin_snx, abin_nsx, abin_str, aun_neg, aun_not, aPick_true, aPick_false, aConv_int, aNil_ptr, aNil_clo, aField_agg, aField_one, aFieldAddr_ptr, Int.toNat_natCast, rd1_new, rd_new, new_next, Nat.left_eq_add, Nat.add_eq_left, Nat.succ_ne_self, Nat.one_ne_zero, Nat.add_left_cancel_iff, Nat.add_assoc, List.getElem?_cons_zero, List.getElem?_cons_succ, List.take_succ_cons, List.take_zero, List.drop_succ_cons, List.drop_zero, List.take_nil, List.drop_nil, Nat.reduceLeDiff, Nat.le_refl, afill_nil, afill_cons, zeros_zero, zeros_one1, zeros_single, Nat.lt_add_one, Int.reduceEq, Int.reduceLT, Int.reduceLE, Int.reduceNeg, aExtract_tup, aLen_sl, aLen_nils, aLenStr_str, aMaxmin_int, ldv_one, ldv_agg, news_nil, news_cons, RecOK_nil, RecOK_none, RecOK_cons, recOf, wantedI, rvals_nil, rvals_tmp, rvals_cell, retQ_normal, retQ_ret, packR_one, packR_nil, packR_two, optK_some, optK_none, optK_bind, optK_map, List.map_cons, List.map_nil, Nat.reduceEqDiff, if_true, if_false, ite_true, ite_false, List.nil_append, List.cons_append, Option.map_some, Option.map_none, reduceCtorEq, decide_true, decide_false, Bool.not_true, Bool.not_false, cells_int, cells_bool, cells_str, cells_nilp, cells_ptr, cells_nils, cells_sl, cells_nilf, cells_clo, cells_agg, List.all_cons, List.all_nil, one_int, one_bool, one_str, one_nilp, one_ptr, one_nils, one_sl, one_nilf, one_clo, List.length_cons, List.length_nil, Bool.and_true, Bool.true_and, Bool.and_self, true_and, and_true, Bool.true_eq_false, Bool.false_eq_true, List.contains_cons, List.contains_nil, Bool.or_false, Bool.or_true, Bool.true_or, Bool.false_or, eq_self, Nat.reduceBEq, Nat.reduceAdd, Nat.mul_one, Nat.zero_add, Nat.add_zero, List.cons.injEq, AV.int.injEq, AV.sl.injEq, and_self]) <;> omega), hv6 _ u'⟩
      · have hie : i = xs.length := by omega
        subst hie
        rw [List.take_length, List.take_of_length_le (by rw [hr.1]; exact Nat.le_refl _)] at u
        rw [List.take_length]
        exact hk _ u
/-- What marking a ring writes. -/
def mkR (k : Int) (vP vB : PV) (W : List (List Int)) (B : List (List (List Int))) : List (Nat × List PV) :=
  mkF mkI List.length k vP W ++ mkF (mkF mkI List.length) (totL List.length) (k + totL List.length W) vB B
def totR (W : List (List Int)) (B : List (List (List Int))) : Nat := totL List.length W + totL (totL List.length) B
theorem markLieRing_A {p k : Int} {vP vB : PV} {W : List (List Int)} {B : List (List (List Int))} (hR : IsR vP vB W B) (hW : Wh (.agg [.int .i64 p, vP, vB])) (hnd : (ead (.agg [.int .i64 p, vP, vB])).Nodup) (hw : HWF h) (hv : VOK (zlt h) h 0 (.agg [.int .i64 p, vP, vB])) (sz : SzR W B) (hk0 : 0 ≤ k) (hk1 : k + totR W B ≤ 2305843009213693952)
    (hk : ∀ h', Upd h (mkR k vP vB W B) h' → K (.int .i64 (k + totR W B)) h') : ACalls Try.prog 18 [er idz (.agg [.int .i64 p, vP, vB]), .int .i64 k] h K := by
  refine acalls_of_vc mix Try.func18 cf18 rfl ?_
  dsimp only [if18]
  simp only [er, ers]
  unfold totR at hk hk1
  obtain ⟨_, hvP, hvB, _⟩ := hv
  obtain ⟨_, wP, wB, _⟩ := hW
  have oP : (er idz vP).one = true := by rw [er_one hvP]; exact hR.P.one
  have oB : (er idz vB).one = true := by rw [er_one hvB]; exact hR.B.one
  have cP := cells_of_one oP
  have cB := cells_of_one oB
  simp only [ead, eads, List.nil_append, List.append_nil, List.nodup_append] at hnd
  obtain ⟨dP, dB, dd⟩ := hnd
  obtain ⟨hh, he, hx1, hn, qq⟩ := box1 hw [.int .i64 p, er idz vP, er idz vB]
  have hzz : ∀ o, zlt h o → zlt hh o ∧ hh.obj o = h.obj o := fun o ho => ⟨Nat.lt_of_lt_of_le ho hx1.next, hx1.obj o ho⟩
  have q := qq _ (Ext.refl hx1.wf)
  have kP := (mkT_I.F).keys (k := k) hR.P wP
  have kB := (mkT_I.F.F).keys (k := k + totL List.length W) hR.B wB
  simp only [nm_eq, ↓reduceIte, vc_skip, vc_region, vc_draw, vc_seq, vc_cond, vc_block, vc_exit, vc_ret, RV_nil, RV_q, RV_e, DV_nil, DV_q, DV_e, gq_none, gq_some, ge_none, ge_some, condK_true, condK_false, condK_dec, condK_ndec, guardK_bool, guardO_bool, guardO_skip, guardK_skip, ev_t, ev_c, mk_cons, put_some, put_none, qv_mv, qv_pick, qv_bin, qv_un, qv_conv, qv_nilCheck, qv_build, qv_field, qv_fieldAddr, qv_indexAddr, qv_indexStr, qv_extract, qv_len, qv_lenStr, qv_cap, qv_slice, qv_sliceStr, qv_maxmin, qv_makeFunc, qv_load, qv_rev, eff_alloc, eff_box, eff_buildSl, eff_store, aStore_ptr, eff_makeSl, aMake_int, eff_append, eff_copy, eff_call, eff_callV, aCallV_clo, abin_add, abin_sub, abin_mul, abin_quo, abin_rem, abin_eql, abin_neq, abin_lss, abin_leq, abin_gtr, abin_geq, abin_beql, abin_bneq, abin_nn, abin_sn, abin_ns, abin_nnx, abin_snx, abin_nsx, abin_str, aun_neg, aun_not, aPick_true, aPick_false, aConv_int, aNil_ptr, aNil_clo, aField_agg, aField_one, aFieldAddr_ptr, Int.toNat_natCast, rd1_new, rd_new, new_next, Nat.left_eq_add, Nat.add_eq_left, Nat.succ_ne_self, Nat.one_ne_zero, Nat.add_left_cancel_iff, Nat.add_assoc, List.getElem?_cons_zero, List.getElem?_cons_succ, List.take_succ_cons, List.take_zero, List.drop_succ_cons, List.drop_zero, List.take_nil, List.drop_nil, Nat.reduceLeDiff, Nat.le_refl, afill_nil, afill_cons, zeros_zero, zeros_one1, zeros_single, Nat.lt_add_one, Int.reduceEq, Int.reduceLT, Int.reduceLE, Int.reduceNeg, aExtract_tup, aLen_sl, aLen_nils, aLenStr_str, aMaxmin_int, ldv_one, ldv_agg, news_nil, news_cons, RecOK_nil, RecOK_none, RecOK_cons, recOf, wantedI, rvals_nil, rvals_tmp, rvals_cell, retQ_normal, retQ_ret, packR_one, packR_nil, packR_two, optK_some, optK_none, optK_bind, optK_map, List.map_cons, List.map_nil, Nat.reduceEqDiff, if_true, if_false, ite_true, ite_false, List.nil_append, List.cons_append, Option.map_some, Option.map_none, reduceCtorEq, decide_true, decide_false, Bool.not_true, Bool.not_false, cells_int, cells_bool, cells_str, cells_nilp, cells_ptr, cells_nils, cells_sl, cells_nilf, cells_clo, cells_agg, List.all_cons, List.all_nil, one_int, one_bool, one_str, one_nilp, one_ptr, one_nils, one_sl, one_nilf, one_clo, List.length_cons, List.length_nil, Bool.and_true, Bool.true_and, Bool.and_self, true_and, and_true, Bool.true_eq_false, Bool.false_eq_true, List.contains_cons, List.contains_nil, Bool.or_false, Bool.or_true, Bool.true_or, Bool.false_or, eq_self, Nat.reduceBEq, Nat.reduceAdd, Nat.mul_one, Nat.zero_add, Nat.add_zero, he, oP, oB, cP, cB, rd1_of_obj q]
  refine markInt64SS_A hR.P wP dP hx1.wf (hvP.mono hzz (Nat.le_refl _)) (by have := sz.Wl; omega) (fun x hx => by have := sz.w x hx; omega) hk0 (by omega) fun h1 u1 => ?_
  have qB : h1.obj h.next = some ⟨true, [.int .i64 p, er idz vP, er idz vB]⟩ := by
    rw [u1.same _ (by omega) (lookup_none.2 fun hm => by have : h.next < h.next := ead_z hvP _ (kP _ hm); omega)]; exact q
  have hvB1 : VOK (zlt h1) h1 0 vB := by
    have h2 := rm_vok u1 (fun o ho => ho) (hvB.mono hzz (Nat.le_refl _))
    rw [rm_out fun o ho hm => dd o (kP o ho) o hm rfl] at h2
    exact h2.mono (fun o ho => ⟨Nat.lt_of_lt_of_le ho u1.next, rfl⟩) (Nat.le_refl _)
  have hneg : ¬ (k + (totL List.length W : Int) < 0) := by omega
  simp only [nm_eq, ↓reduceIte, vc_skip, vc_region, vc_draw, vc_seq, vc_cond, vc_block, vc_exit, vc_ret, RV_nil, RV_q, RV_e, DV_nil, DV_q, DV_e, gq_none, gq_some, ge_none, ge_some, condK_true, condK_false, condK_dec, condK_ndec, guardK_bool, guardO_bool, guardO_skip, guardK_skip, ev_t, ev_c, mk_cons, put_some, put_none, qv_mv, qv_pick, qv_bin, qv_un, qv_conv, qv_nilCheck, qv_build, qv_field, qv_fieldAddr, qv_indexAddr, qv_indexStr, qv_extract, qv_len, qv_lenStr, qv_cap, qv_slice, qv_sliceStr, qv_maxmin, qv_makeFunc, qv_load, qv_rev, eff_alloc, eff_box, eff_buildSl, eff_store, aStore_ptr, eff_makeSl, aMake_int, eff_append, eff_copy, eff_call, eff_callV, aCallV_clo, abin_add, abin_sub, abin_mul, abin_quo, abin_rem, abin_eql, abin_neq, abin_lss, abin_leq, abin_gtr, abin_geq, abin_beql, abin_bneq, abin_nn, abin_sn, abin_ns, abin_nnx, abin_snx, abin_nsx, abin_str, aun_neg, aun_not, aPick_true, aPick_false, aConv_int, aNil_ptr, aNil_clo, aField_agg, aField_one, aFieldAddr_ptr, Int.toNat_natCast, rd1_new, rd_new, new_next, Nat.left_eq_add, Nat.add_eq_left, Nat.succ_ne_self, Nat.one_ne_zero, Nat.add_left_cancel_iff, Nat.add_assoc, List.getElem?_cons_zero, List.getElem?_cons_succ, List.take_succ_cons, List.take_zero, List.drop_succ_cons, List.drop_zero, List.take_nil, List.drop_nil, Nat.reduceLeDiff, Nat.le_refl, afill_nil, afill_cons, zeros_zero, zeros_one1, zeros_single, Nat.lt_add_one, Int.reduceEq, Int.reduceLT, Int.reduceLE, Int.reduceNeg, aExtract_tup, aLen_sl, aLen_nils, aLenStr_str, aMaxmin_int, ldv_one, ldv_agg, news_nil, news_cons, RecOK_nil, RecOK_none, RecOK_cons, recOf, wantedI, rvals_nil, rvals_tmp, rvals_cell, retQ_normal, retQ_ret, packR_one, packR_nil, packR_two, optK_some, optK_none, optK_bind, optK_map, List.map_cons, List.map_nil, Nat.reduceEqDiff, if_true, if_false, ite_true, ite_false, List.nil_append, List.cons_append, Option.map_some, Option.map_none, reduceCtorEq, decide_true, decide_false, Bool.not_true, Bool.not_false, cells_int, cells_bool, cells_str, cells_nilp, cells_ptr, cells_nils, cells_sl, cells_nilf, cells_clo, cells_agg, List.all_cons, List.all_nil, one_int, one_bool, one_str, one_nilp, one_ptr, one_nils, one_sl, one_nilf, one_clo, List.length_cons, List.length_nil, Bool.and_true, Bool.true_and, Bool.and_self, true_and, and_true, Bool.true_eq_false, Bool.false_eq_true, List.contains_cons, List.contains_nil, Bool.or_false, Bool.or_true, Bool.true_or, Bool.false_or, eq_self, Nat.reduceBEq, Nat.reduceAdd, Nat.mul_one, Nat.zero_add, Nat.add_zero, rd1_of_obj qB, hneg]
  refine markInt64SSS_A hR.B wB dB u1.wf hvB1 (by have := sz.Bl; omega) (fun x hx => ⟨by have := sz.b x hx; omega, fun y hy => by have := sz.c x hx y hy; omega⟩) (by omega) (by omega) fun h2 u2 => ?_
  have u3 : Upd hh (mkR k vP vB W B) h2 := u1.trans u2 (fun o ho hm => dd o (kP o ho) o (kB o hm) rfl) fun o ho => by have : o < h.next := ead_z hvB o (kB o ho); omega
  have u4 := hx1.upd.trans u3 (fun o ho => by cases ho) fun o ho => by
    unfold mkR at ho
    rw [List.map_append, List.mem_append] at ho
    exact ho.elim (fun hm => ead_z hvP o (kP o hm)) fun hm => ead_z hvB o (kB o hm)
  have e : k + (totL List.length W : Int) + (totL (totL List.length) B : Int) = k + ((totL List.length W + totL (totL List.length) B : Nat) : Int) := by omega
  rw [e]
  simp only [nm_eq, ↓reduceIte, vc_skip, vc_region, vc_draw, vc_seq, vc_cond, vc_block, vc_exit, vc_ret, RV_nil, RV_q, RV_e, DV_nil, DV_q, DV_e, gq_none, gq_some, ge_none, ge_some, condK_true, condK_false, condK_dec, condK_ndec, guardK_bool, guardO_bool, guardO_skip, guardK_skip, ev_t, ev_c, mk_cons, put_some, put_none, qv_mv, qv_pick, qv_bin, qv_un, qv_conv, qv_nilCheck, qv_build, qv_field, qv_fieldAddr, qv_indexAddr, qv_indexStr, qv_extract, qv_len, qv_lenStr, qv_cap, qv_slice, qv_sliceStr, qv_maxmin, qv_makeFunc, qv_load, qv_rev, eff_alloc, eff_box, eff_buildSl, eff_store, aStore_ptr, eff_makeSl, aMake_int, eff_append, eff_copy, eff_call, eff_callV, aCallV_clo, abin_add, abin_sub, abin_mul, abin_quo, abin_rem, abin_eql, abin_neq, abin_lss, abin_leq, abin_gtr, abin_geq, abin_beql, abin_bneq, abin_nn, abin_sn, abin_ns, abin_nnx, abin_snx, abin_nsx, abin_str, aun_neg, aun_not, aPick_true, aPick_false, aConv_int, aNil_ptr, aNil_clo, aField_agg, aField_one, aFieldAddr_ptr, Int.toNat_natCast, rd1_new, rd_new, new_next, Nat.left_eq_add, Nat.add_eq_left, Nat.succ_ne_self, Nat.one_ne_zero, Nat.add_left_cancel_iff, Nat.add_assoc, List.getElem?_cons_zero, List.getElem?_cons_succ, List.take_succ_cons, List.take_zero, List.drop_succ_cons, List.drop_zero, List.take_nil, List.drop_nil, Nat.reduceLeDiff, Nat.le_refl, afill_nil, afill_cons, zeros_zero, zeros_one1, zeros_single, Nat.lt_add_one, Int.reduceEq, Int.reduceLT, Int.reduceLE, Int.reduceNeg, aExtract_tup, aLen_sl, aLen_nils, aLenStr_str, aMaxmin_int, ldv_one, ldv_agg, news_nil, news_cons, RecOK_nil, RecOK_none, RecOK_cons, recOf, wantedI, rvals_nil, rvals_tmp, rvals_cell, retQ_normal, retQ_ret, packR_one, packR_nil, packR_two, optK_some, optK_none, optK_bind, optK_map, List.map_cons, List.map_nil, Nat.reduceEqDiff, if_true, if_false, ite_true, ite_false, List.nil_append, List.cons_append, Option.map_some, Option.map_none, reduceCtorEq, decide_true, decide_false, Bool.not_true, Bool.not_false, cells_int, cells_bool, cells_str, cells_nilp, cells_ptr, cells_nils, cells_sl, cells_nilf, cells_clo, cells_agg, List.all_cons, List.all_nil, one_int, one_bool, one_str, one_nilp, one_ptr, one_nils, one_sl, one_nilf, one_clo, List.length_cons, List.length_nil, Bool.and_true, Bool.true_and, Bool.and_self, true_and, and_true, Bool.true_eq_false, Bool.false_eq_true, List.contains_cons, List.contains_nil, Bool.or_false, Bool.or_true, Bool.true_or, Bool.false_or, eq_self, Nat.reduceBEq, Nat.reduceAdd, Nat.mul_one, Nat.zero_add, Nat.add_zero]
  exact hk _ (by simpa using u4)
end
section
variable {σ : PHeap} {K : PV → PHeap → Prop} {p : Int} {W : List (List Int)} {B : List (List (List Int))} {vP vB : PV} {lo hi : Nat}
theorem keysI {v : PV} {xs : List Int} {k : Int} (hI : FI v xs) (ho : Own lo hi v) : ∀ o ∈ (mkI k v xs).map Prod.fst, lo ≤ o ∧ o < hi := fun o hm => ho.lt o (mkT_I.keys hI ho.wh o hm)
theorem markInt64S_M {v : PV} {xs : List Int} {k : Int} (hI : FI v xs) (ho : Own lo hi v) (hb : xs.length ≤ 4294967296) (hk0 : 0 ≤ k) (hk1 : k ≤ 2305843009213693952) : MarkOK Try.prog 19 [v, .int .i64 k] σ (mkI k v xs) .i64 (k + xs.length) :=
  MarkOK.of (hI.bel 0) (mkT_I.keys hI ho.wh) fun h hw hv => markInt64S_A hI ho.wh hw hv hb hk0 hk1 fun h' u => ⟨rfl, u⟩
theorem mkR_keys {k : Int} (hR : IsR vP vB W B) (hW : Wh (.agg [.int .i64 p, vP, vB])) : ∀ o ∈ (mkR k vP vB W B).map Prod.fst, o ∈ ead (.agg [.int .i64 p, vP, vB]) := by
  obtain ⟨_, wP, wB, _⟩ := hW
  intro o ho
  unfold mkR at ho
  rw [List.map_append, List.mem_append] at ho
  simp only [ead, eads, List.nil_append, List.append_nil, List.mem_append]
  exact ho.imp (mkT_I.F.keys hR.P wP o) (mkT_I.F.F.keys hR.B wB o)
theorem keysR {k : Int} (hR : IsR vP vB W B) (ho : Own lo hi (.agg [.int .i64 p, vP, vB])) : ∀ o ∈ (mkR k vP vB W B).map Prod.fst, lo ≤ o ∧ o < hi := fun o hm => ho.lt o (mkR_keys hR ho.wh o hm)
theorem markLieRing_M {k : Int} (hR : IsR vP vB W B) (ho : Own lo hi (.agg [.int .i64 p, vP, vB])) (sz : SzR W B) (hk0 : 0 ≤ k) (hk1 : k + totR W B ≤ 2305843009213693952) :
    MarkOK Try.prog 18 [.agg [.int .i64 p, vP, vB], .int .i64 k] σ (mkR k vP vB W B) .i64 (k + totR W B) :=
  MarkOK.of ⟨trivial, hR.P.bel 0, hR.B.bel 0, trivial⟩ (mkR_keys hR ho.wh) fun h hw hv => markLieRing_A hR ho.wh ho.nd hw hv sz hk0 hk1 fun h' u => ⟨rfl, u⟩
theorem heldInt64S_ok {v : PV} {xs : List Int} {k : Int} (hI : FI v (seqI k xs.length)) (hb : xs.length ≤ 4294967296) (hk0 : 0 ≤ k) (hk1 : k ≤ 2305843009213693952) (hk : K (.int .i64 (k + xs.length)) σ) : PCalls Try.prog 20 [v, .int .i64 k] σ K := by
  obtain ⟨w, a, rfl⟩ := hI
  have hl := seqI_length xs.length k
  have hg := seqI_get xs.length k
  generalize seqI k xs.length = ys at *
  refine pcalls_of_vp mix Try.func20 cf20 rfl ?_
  dsimp only [if20, qI, eI, nI, qD, eD]
  simp only [pwA, if_true, if_false, eq_self, nm_eq, reduceCtorEq, ↓reduceIte, Nat.reduceEqDiff, Nat.reduceLeDiff, Nat.reduceBEq, Nat.reduceAdd, Nat.reduceLT, Nat.reduceSub, Nat.reduceMul, Int.reduceEq, Int.reduceLT, Int.reduceLE, Int.reduceNeg, Int.reduceToNat, List.reduceReplicate, Int.ofNat_le, List.getElem?_drop]
  refine vp_loop (fun m vs h' => ∃ i : Nat, i ≤ ys.length ∧ m = ys.length - i ∧ vs = [.fz w a ys.length (pis ys), .int .i64 (k + (i : Int)), .int .i64 i] ∧ σ = h') ys.length ?_ ?_
  · exact ⟨0, by omega, by omega, by rw [show k + ((0 : Nat) : Int) = k by omega]; rfl, rfl⟩
  rintro m vs h' ⟨i, hi, rfl, rfl, rfl⟩
  simp only [pwA, if_true, if_false, eq_self, nm_eq, reduceCtorEq, ↓reduceIte, Nat.reduceEqDiff, Nat.reduceLeDiff, Nat.reduceBEq, Nat.reduceAdd, Nat.reduceLT, Nat.reduceSub, Nat.reduceMul, Int.reduceEq, Int.reduceLT, Int.reduceLE, Int.reduceNeg, Int.reduceToNat, List.reduceReplicate, Int.ofNat_le, List.getElem?_drop]
  refine iteI (fun hlt => ?_) fun hge => ?_
  · simp only [pwA, if_true, if_false, eq_self, nm_eq, reduceCtorEq, ↓reduceIte, Nat.reduceEqDiff, Nat.reduceLeDiff, Nat.reduceBEq, Nat.reduceAdd, Nat.reduceLT, Nat.reduceSub, Nat.reduceMul, Int.reduceEq, Int.reduceLT, Int.reduceLE, Int.reduceNeg, Int.reduceToNat, List.reduceReplicate, Int.ofNat_le, List.getElem?_drop, hlt, gi hlt, hg i hlt, pis_get, List.getElem?_drop, wrapS hlt (by omega : ys.length ≤ 4611686018427387904), wrap64 (n := k + (i : Int) + 1) (by omega) (by omega)]
    refine ⟨_, by omega, i + 1, by omega, rfl, ?_⟩
    have : k + (i : Int) + 1 = k + ((i + 1 : Nat) : Int) := by omega
    rw [this]
  · have hie : i = xs.length := by omega
    subst hie
    exact hk
theorem toInt64S_T {v : PV} {xs : List Int} (hI : FI v xs) (hb : xs.length ≤ 1048576) (hk : ∀ v t, FI v xs → Own σ.top t v → σ.top ≤ t → K v (σ.up t)) : PCalls Try.prog 14 [v] σ K :=
  PCalls.fzT (fun K' => toInt64S_ok hI hb) (pis_bel _ _) (Owns.pis _ _ _) fun o cap t h1 h2 => hk _ t ⟨_, _, rfl⟩ h1 h2
theorem toInt64SS_T {v : PV} {xs : List (List Int)} (hI : FII v xs) (sz : SzL xs) (hk : ∀ v t, FII v xs → Own σ.top t v → σ.top ≤ t → K v (σ.up t)) : PCalls Try.prog 46 [v] σ K := by
  obtain ⟨w, a, rs, rfl, hr⟩ := hI
  have hb := sz.l
  refine PCalls.gh ?_
  refine pcalls_of_vp mix Try.func46 cf46 rfl ?_
  dsimp only [if46, qI, eI, nI, qD, eD]
  simp only [pwA, if_true, if_false, eq_self, nm_eq, reduceCtorEq, ↓reduceIte, Nat.reduceEqDiff, Nat.reduceLeDiff, Nat.reduceBEq, Nat.reduceAdd, Nat.reduceLT, Nat.reduceSub, Nat.reduceMul, Int.reduceEq, Int.reduceLT, Int.reduceLE, Int.reduceNeg, Int.reduceToNat, List.reduceReplicate, Int.ofNat_le, List.getElem?_drop, mk24 (n := xs.length) (by omega), mkL (n := xs.length) (by omega)]
  refine vp_loop (fun m vs h' => ∃ i : Nat, i ≤ xs.length ∧ m = xs.length - i ∧ vs = [.fz w a xs.length rs, .sl σ.next 0 xs.length (.known xs.length), .int .i64 i] ∧ ∃ rows t, rows.length = i ∧ All2 FI rows (xs.take i) ∧ Owns σ.top t rows ∧ σ.top ≤ t ∧ h' = (σ.new (rows ++ List.replicate (xs.length - i) (.fz true .nils 0 []))).up t) xs.length ?_ ?_
  · exact ⟨0, by omega, by omega, rfl, [], σ.top, rfl, by simpa using All2.nil _, Owns.nil _ _, Nat.le_refl _, by simp [PHeap.up, PHeap.new]⟩
  rintro m vs h' ⟨i, hi, rfl, rfl, rows, t, hrl, hra, hro, htt, rfl⟩
  simp only [pwA, if_true, if_false, eq_self, nm_eq, reduceCtorEq, ↓reduceIte, Nat.reduceEqDiff, Nat.reduceLeDiff, Nat.reduceBEq, Nat.reduceAdd, Nat.reduceLT, Nat.reduceSub, Nat.reduceMul, Int.reduceEq, Int.reduceLT, Int.reduceLE, Int.reduceNeg, Int.reduceToNat, List.reduceReplicate, Int.ofNat_le, List.getElem?_drop]
  refine iteI (fun hlt => ?_) fun hge => ?_
  · obtain ⟨w4, a4, hrk⟩ := hr.rowI hlt
    simp only [pwA, if_true, if_false, eq_self, nm_eq, reduceCtorEq, ↓reduceIte, Nat.reduceEqDiff, Nat.reduceLeDiff, Nat.reduceBEq, Nat.reduceAdd, Nat.reduceLT, Nat.reduceSub, Nat.reduceMul, Int.reduceEq, Int.reduceLT, Int.reduceLE, Int.reduceNeg, Int.reduceToNat, List.reduceReplicate, Int.ofNat_le, List.getElem?_drop, hlt, hrk, List.getElem?_drop]
    refine toInt64S_T ⟨_, _, rfl⟩ (sz.r _ (List.getElem_mem hlt)) fun r t2 hr' ho' ht' => ?_
    have hlen : i + 1 ≤ (rows ++ List.replicate (xs.length - i) (PV.fz true .nils 0 [])).length := by simp; omega
    simp only [pwA, if_true, if_false, eq_self, nm_eq, reduceCtorEq, ↓reduceIte, Nat.reduceEqDiff, Nat.reduceLeDiff, Nat.reduceBEq, Nat.reduceAdd, Nat.reduceLT, Nat.reduceSub, Nat.reduceMul, Int.reduceEq, Int.reduceLT, Int.reduceLE, Int.reduceNeg, Int.reduceToNat, List.reduceReplicate, Int.ofNat_le, List.getElem?_drop, hlt, hlen, hr'.cells, hr'.one, wrapS hlt (by omega : xs.length ≤ 4611686018427387904)]
    refine ⟨_, by omega, i + 1, by omega, rfl, rfl, rows ++ [r], t2, by simp [hrl], ?_, hro.snoc ho' htt ht', Nat.le_trans htt ht', ?_⟩
    · rw [List.take_succ_eq_append_getElem hlt]; exact hra.snoc hr'
    · rw [rows_set hrl hlt]; rfl
  · have hie : i = xs.length := by omega
    subst hie
    rw [List.take_length] at hra
    rw [Nat.sub_self, List.replicate_zero, List.append_nil]
    exact Gh.own ((keep_new σ _).up htt) (by simp only [pwA, if_true, if_false, eq_self, nm_eq, reduceCtorEq, ↓reduceIte, Nat.reduceEqDiff, Nat.reduceLeDiff, Nat.reduceBEq, Nat.reduceAdd, Nat.reduceLT, Nat.reduceSub, Nat.reduceMul, Int.reduceEq, Int.reduceLT, Int.reduceLE, Int.reduceNeg, Int.reduceToNat, List.reduceReplicate, Int.ofNat_le, List.getElem?_drop]) (Nat.le_refl _) (hra.bI 0) (by simp [capOK]) hro fun o t h1 h2 => hk _ t ⟨_, _, _, rfl, hra⟩ h1 h2
theorem toInt64SSS_T {v : PV} {xs : List (List (List Int))} (hI : FIII v xs) (sz : SzM xs) (hk : ∀ v t, FIII v xs → Own σ.top t v → σ.top ≤ t → K v (σ.up t)) : PCalls Try.prog 47 [v] σ K := by
  obtain ⟨w, a, rs, rfl, hr⟩ := hI
  have hb := sz.l
  refine PCalls.gh ?_
  refine pcalls_of_vp mix Try.func47 cf47 rfl ?_
  dsimp only [if47, qI, eI, nI, qD, eD]
  simp only [pwA, if_true, if_false, eq_self, nm_eq, reduceCtorEq, ↓reduceIte, Nat.reduceEqDiff, Nat.reduceLeDiff, Nat.reduceBEq, Nat.reduceAdd, Nat.reduceLT, Nat.reduceSub, Nat.reduceMul, Int.reduceEq, Int.reduceLT, Int.reduceLE, Int.reduceNeg, Int.reduceToNat, List.reduceReplicate, Int.ofNat_le, List.getElem?_drop, mk24 (n := xs.length) (by omega), mkL (n := xs.length) (by omega)]
  refine vp_loop (fun m vs h' => ∃ i : Nat, i ≤ xs.length ∧ m = xs.length - i ∧ vs = [.fz w a xs.length rs, .sl σ.next 0 xs.length (.known xs.length), .int .i64 i] ∧ ∃ rows t, rows.length = i ∧ All2 FII rows (xs.take i) ∧ Owns σ.top t rows ∧ σ.top ≤ t ∧ h' = (σ.new (rows ++ List.replicate (xs.length - i) (.fz true .nils 0 []))).up t) xs.length ?_ ?_
  · exact ⟨0, by omega, by omega, rfl, [], σ.top, rfl, by simpa using All2.nil _, Owns.nil _ _, Nat.le_refl _, by simp [PHeap.up, PHeap.new]⟩
  rintro m vs h' ⟨i, hi, rfl, rfl, rows, t, hrl, hra, hro, htt, rfl⟩
  simp only [pwA, if_true, if_false, eq_self, nm_eq, reduceCtorEq, ↓reduceIte, Nat.reduceEqDiff, Nat.reduceLeDiff, Nat.reduceBEq, Nat.reduceAdd, Nat.reduceLT, Nat.reduceSub, Nat.reduceMul, Int.reduceEq, Int.reduceLT, Int.reduceLE, Int.reduceNeg, Int.reduceToNat, List.reduceReplicate, Int.ofNat_le, List.getElem?_drop]
  refine iteI (fun hlt => ?_) fun hge => ?_
  · obtain ⟨w4, a4, rk, hrk, hrs⟩ := hr.rowL hlt
    simp only [pwA, if_true, if_false, eq_self, nm_eq, reduceCtorEq, ↓reduceIte, Nat.reduceEqDiff, Nat.reduceLeDiff, Nat.reduceBEq, Nat.reduceAdd, Nat.reduceLT, Nat.reduceSub, Nat.reduceMul, Int.reduceEq, Int.reduceLT, Int.reduceLE, Int.reduceNeg, Int.reduceToNat, List.reduceReplicate, Int.ofNat_le, List.getElem?_drop, hlt, hrk, List.getElem?_drop]
    refine toInt64SS_T ⟨_, _, _, rfl, hrs⟩ (sz.r _ (List.getElem_mem hlt)) fun r t2 hr' ho' ht' => ?_
    have hlen : i + 1 ≤ (rows ++ List.replicate (xs.length - i) (PV.fz true .nils 0 [])).length := by simp; omega
    simp only [pwA, if_true, if_false, eq_self, nm_eq, reduceCtorEq, ↓reduceIte, Nat.reduceEqDiff, Nat.reduceLeDiff, Nat.reduceBEq, Nat.reduceAdd, Nat.reduceLT, Nat.reduceSub, Nat.reduceMul, Int.reduceEq, Int.reduceLT, Int.reduceLE, Int.reduceNeg, Int.reduceToNat, List.reduceReplicate, Int.ofNat_le, List.getElem?_drop, hlt, hlen, hr'.cells, hr'.one, wrapS hlt (by omega : xs.length ≤ 4611686018427387904)]
    refine ⟨_, by omega, i + 1, by omega, rfl, rfl, rows ++ [r], t2, by simp [hrl], ?_, hro.snoc ho' htt ht', Nat.le_trans htt ht', ?_⟩
    · rw [List.take_succ_eq_append_getElem hlt]; exact hra.snoc hr'
    · rw [rows_set hrl hlt]; rfl
  · have hie : i = xs.length := by omega
    subst hie
    rw [List.take_length] at hra
    rw [Nat.sub_self, List.replicate_zero, List.append_nil]
    exact Gh.own ((keep_new σ _).up htt) (by simp only [pwA, if_true, if_false, eq_self, nm_eq, reduceCtorEq, ↓reduceIte, Nat.reduceEqDiff, Nat.reduceLeDiff, Nat.reduceBEq, Nat.reduceAdd, Nat.reduceLT, Nat.reduceSub, Nat.reduceMul, Int.reduceEq, Int.reduceLT, Int.reduceLE, Int.reduceNeg, Int.reduceToNat, List.reduceReplicate, Int.ofNat_le, List.getElem?_drop]) (Nat.le_refl _) (hra.bL 0) (by simp [capOK]) hro fun o t h1 h2 => hk _ t ⟨_, _, _, rfl, hra⟩ h1 h2
theorem toLieRing_T (hR : IsR vP vB W B) (sz : SzR W B) (hk : ∀ vP vB t, IsR vP vB W B → Own σ.top t (.agg [.int .i64 p, vP, vB]) → σ.top ≤ t → K (.agg [.int .i64 p, vP, vB]) (σ.up t)) : PCalls Try.prog 13 [.agg [.int .i64 p, vP, vB]] σ K := by
  have h1 := hR.P.one
  have h2 := hR.B.one
  refine PCalls.gh ?_
  refine pcalls_of_vp mix Try.func13 cf13 rfl ?_
  dsimp only [if13, qI, eI, nI, qD, eD]
  simp only [pwA, if_true, if_false, eq_self, nm_eq, reduceCtorEq, ↓reduceIte, Nat.reduceEqDiff, Nat.reduceLeDiff, Nat.reduceBEq, Nat.reduceAdd, Nat.reduceLT, Nat.reduceSub, Nat.reduceMul, Int.reduceEq, Int.reduceLT, Int.reduceLE, Int.reduceNeg, Int.reduceToNat, List.reduceReplicate, Int.ofNat_le, List.getElem?_drop, h1, h2]
  refine toInt64SS_T hR.P sz.L fun v1 t1 hv1 ho1 ht1 => ?_
  simp only [pwA, if_true, if_false, eq_self, nm_eq, reduceCtorEq, ↓reduceIte, Nat.reduceEqDiff, Nat.reduceLeDiff, Nat.reduceBEq, Nat.reduceAdd, Nat.reduceLT, Nat.reduceSub, Nat.reduceMul, Int.reduceEq, Int.reduceLT, Int.reduceLE, Int.reduceNeg, Int.reduceToNat, List.reduceReplicate, Int.ofNat_le, List.getElem?_drop, hv1.cells, hv1.one]
  refine toInt64SSS_T hR.B sz.M fun v2 t2 hv2 ho2 ht2 => ?_
  simp only [pwA, if_true, if_false, eq_self, nm_eq, reduceCtorEq, ↓reduceIte, Nat.reduceEqDiff, Nat.reduceLeDiff, Nat.reduceBEq, Nat.reduceAdd, Nat.reduceLT, Nat.reduceSub, Nat.reduceMul, Int.reduceEq, Int.reduceLT, Int.reduceLE, Int.reduceNeg, Int.reduceToNat, List.reduceReplicate, Int.ofNat_le, List.getElem?_drop, hv2.cells, hv2.one, hv1.one]
  have hoo := (((Owns.nil σ.top σ.top).snoc (Own.int _ _ .i64 p) (Nat.le_refl _) (Nat.le_refl _)).snoc ho1 (Nat.le_refl _) ht1).snoc ho2 ht1 ht2
  exact Gh.fin0T (t := t2) (v := .agg [.int .i64 p, v1, v2]) (Keep.up (((keep_new σ _).new _).new _) (Nat.le_trans ht1 ht2)) (Nat.le_refl _) ⟨trivial, hv1.bel _, hv2.bel _, trivial⟩ fun _ => hk v1 v2 t2 ⟨hv1, hv2⟩ hoo.agg (Nat.le_trans ht1 ht2)
end
end Go.Proofs
set_option linter.unusedSimpArgs false
set_option linter.unusedVariables false
namespace Go.Proofs
open Go.Ab Go.Lie
variable {σ : PHeap} {K : PV → PHeap → Prop} {p p' : Int} {n : Nat} {W : List (List Int)} {B : List (List (List Int))} {vP vB vL vU vV : PV} {s : Nat}
/-- A result of some numbers that may be nil or lie in a new slot becomes a value of its own. -/
theorem PCalls.fzITx {P : Program} {f : FuncId} {args : List PV} {D : List Int → Prop} (c : ∀ K' : PV → PHeap → Prop, (∀ z, D z → ResI σ K' z) → PCalls P f args σ K') (k : ∀ z v t, D z → FI v z → Own σ.top t v → σ.top ≤ t → K v (σ.up t)) : PCalls P f args σ K :=
  PCalls.gh (c _ fun z hz => ⟨fun h0 => by subst h0; exact Gh.ret (k _ _ σ.top hz ⟨true, .nils, rfl⟩ (Own.empty _ _ _ _ _) (Nat.le_refl _)), fun cap hc => Gh.own (keep_new σ _) (by simp [PHeap.new]) (Nat.le_refl _) (pis_bel _ _) hc.ok (Owns.pis _ _ _) fun o t h1 h2 => k _ _ t hz ⟨true, _, rfl⟩ h1 h2⟩)
theorem divideLie_res {l : Nat} {w : Bool} {av : AV} {k : Int} {x : List Int} (hs : PtrR σ s p vP vB) (hP : FII vP W) (o : OkW p n W) (hpow : ipow p n ≤ 729) (hx : El p n x) (hl : l = x.length)
    (hk : ∀ z, DivL p n W k x z → ResI σ K z) : PCalls Try.prog 193 [.ptr s 0, .fz w av l (pis x), .int .i64 k] σ K := by
  have hn6 := o.le
  have hpr := o.pr
  have hxl := hx.1
  have hp0 : σ.rd1 s 0 = some (.int .i64 p) := by rw [obj_rd1 hs.obj]; rfl
  subst hl
  refine pcalls_of_vp mix Try.func193 cf193 rfl ?_
  dsimp only [if193, qI, eI, nI, qD, eD]
  simp only [pwA, if_true, if_false, eq_self, nm_eq, reduceCtorEq, ↓reduceIte, Nat.reduceEqDiff, Nat.reduceLeDiff, Nat.reduceBEq, Nat.reduceAdd, Nat.reduceLT, Nat.reduceSub, Nat.reduceMul, Int.reduceEq, Int.reduceLT, Int.reduceLE, Int.reduceNeg, Int.reduceToNat, List.reduceReplicate, Int.ofNat_le, List.getElem?_drop]
  refine isZero_ok rfl (by omega) ?_
  by_cases hz : isZ x
  · simp only [pwA, if_true, if_false, eq_self, nm_eq, reduceCtorEq, ↓reduceIte, Nat.reduceEqDiff, Nat.reduceLeDiff, Nat.reduceBEq, Nat.reduceAdd, Nat.reduceLT, Nat.reduceSub, Nat.reduceMul, Int.reduceEq, Int.reduceLT, Int.reduceLE, Int.reduceNeg, Int.reduceToNat, List.reduceReplicate, Int.ofNat_le, List.getElem?_drop, hz, decide_true]
    have hd : DivL p n W k x x := ⟨hx, fun _ => rfl, fun _ => by
      refine Eqv.of_eq fun j => ?_
      rw [isZ_at hz, Int.mul_zero]⟩
    refine Clone_ok rfl (by omega) ⟨fun h0 => ?_, fun cap hc => ?_⟩
    · simp only [pwA, if_true, if_false, eq_self, nm_eq, reduceCtorEq, ↓reduceIte, Nat.reduceEqDiff, Nat.reduceLeDiff, Nat.reduceBEq, Nat.reduceAdd, Nat.reduceLT, Nat.reduceSub, Nat.reduceMul, Int.reduceEq, Int.reduceLT, Int.reduceLE, Int.reduceNeg, Int.reduceToNat, List.reduceReplicate, Int.ofNat_le, List.getElem?_drop]
      exact (hk x hd).1 h0
    · simp only [pwA, if_true, if_false, eq_self, nm_eq, reduceCtorEq, ↓reduceIte, Nat.reduceEqDiff, Nat.reduceLeDiff, Nat.reduceBEq, Nat.reduceAdd, Nat.reduceLT, Nat.reduceSub, Nat.reduceMul, Int.reduceEq, Int.reduceLT, Int.reduceLE, Int.reduceNeg, Int.reduceToNat, List.reduceReplicate, Int.ofNat_le, List.getElem?_drop]
      exact (hk x hd).2 cap hc
  · have hn : 0 < n := by
      rcases Nat.eq_zero_or_pos n with h | h
      · exact absurd (by rw [List.eq_nil_of_length_eq_zero (hxl.trans h)]; intro y hy; cases hy) hz
      · exact h
    have hm1 : 2 ≤ ipow p n := by
      obtain ⟨n', rfl⟩ : ∃ n', n = n' + 1 := ⟨n - 1, by omega⟩
      have h1 : ∀ k : Nat, 1 ≤ ipow p k := fun k => by
        induction k with
        | zero => simp [ipow]
        | succ k ih =>
          have := Int.mul_le_mul_of_nonneg_left (show (1 : Int) ≤ p by have := hpr.1; omega) (show 0 ≤ ipow p k by omega)
          rw [ipow]; omega
      have := Int.mul_le_mul_of_nonneg_left (show (2 : Int) ≤ p from hpr.1) (show 0 ≤ ipow p n' by have := h1 n'; omega)
      have := h1 n'
      rw [ipow]; omega
    simp only [pwA, if_true, if_false, eq_self, nm_eq, reduceCtorEq, ↓reduceIte, Nat.reduceEqDiff, Nat.reduceLeDiff, Nat.reduceBEq, Nat.reduceAdd, Nat.reduceLT, Nat.reduceSub, Nat.reduceMul, Int.reduceEq, Int.reduceLT, Int.reduceLE, Int.reduceNeg, Int.reduceToNat, List.reduceReplicate, Int.ofNat_le, List.getElem?_drop, hz, decide_false, hp0, hxl]
    refine integerPower_ok hpr hn6 ?_
    simp only [pwA, if_true, if_false, eq_self, nm_eq, reduceCtorEq, ↓reduceIte, Nat.reduceEqDiff, Nat.reduceLeDiff, Nat.reduceBEq, Nat.reduceAdd, Nat.reduceLT, Nat.reduceSub, Nat.reduceMul, Int.reduceEq, Int.reduceLT, Int.reduceLE, Int.reduceNeg, Int.reduceToNat, List.reduceReplicate, Int.ofNat_le, List.getElem?_drop]
    refine residue_ok (by omega) (by omega) ?_
    simp only [pwA, if_true, if_false, eq_self, nm_eq, reduceCtorEq, ↓reduceIte, Nat.reduceEqDiff, Nat.reduceLeDiff, Nat.reduceBEq, Nat.reduceAdd, Nat.reduceLT, Nat.reduceSub, Nat.reduceMul, Int.reduceEq, Int.reduceLT, Int.reduceLE, Int.reduceNeg, Int.reduceToNat, List.reduceReplicate, Int.ofNat_le, List.getElem?_drop]
    refine inverseG_ok (Int.emod_nonneg _ (by omega)) (Int.emod_lt_of_pos _ (by omega)) (by omega) fun y yb h1 h2 h3 => ?_
    simp only [pwA, if_true, if_false, eq_self, nm_eq, reduceCtorEq, ↓reduceIte, Nat.reduceEqDiff, Nat.reduceLeDiff, Nat.reduceBEq, Nat.reduceAdd, Nat.reduceLT, Nat.reduceSub, Nat.reduceMul, Int.reduceEq, Int.reduceLT, Int.reduceLE, Int.reduceNeg, Int.reduceToNat, List.reduceReplicate, Int.ofNat_le, List.getElem?_drop]
    have hd : DivL p n W k x (lmul p W y x) := DivL.mk' o hx hz (m := ipow p n) (by
      rw [ipow_pw]
      exact kill_all o fun j hj => hx.beyond hj) fun hc => by
        obtain ⟨z, w', hzw⟩ := cop_inv hc hn
        rw [← ipow_pw] at hzw
        have em := Int.mul_ediv_add_emod k (ipow p n)
        obtain ⟨t, ht⟩ := h3 ⟨z, w' - k / ipow p n * z, by grind⟩
        exact ⟨t + k / ipow p n * y, by grind⟩
    refine timesLie_ok hs hP o hx hxl.symm (by omega) ⟨fun h0 => ?_, fun cap hc => ?_⟩
    · simp only [pwA, if_true, if_false, eq_self, nm_eq, reduceCtorEq, ↓reduceIte, Nat.reduceEqDiff, Nat.reduceLeDiff, Nat.reduceBEq, Nat.reduceAdd, Nat.reduceLT, Nat.reduceSub, Nat.reduceMul, Int.reduceEq, Int.reduceLT, Int.reduceLE, Int.reduceNeg, Int.reduceToNat, List.reduceReplicate, Int.ofNat_le, List.getElem?_drop]
      exact (hk _ hd).1 h0
    · simp only [pwA, if_true, if_false, eq_self, nm_eq, reduceCtorEq, ↓reduceIte, Nat.reduceEqDiff, Nat.reduceLeDiff, Nat.reduceBEq, Nat.reduceAdd, Nat.reduceLT, Nat.reduceSub, Nat.reduceMul, Int.reduceEq, Int.reduceLT, Int.reduceLE, Int.reduceNeg, Int.reduceToNat, List.reduceReplicate, Int.ofNat_le, List.getElem?_drop]
      exact (hk _ hd).2 cap hc
theorem CodeL.zero {xs : List (List Int)} (h : CodeL p W B xs 0) : (isLie p W B ∧ Els p W.length xs) ∧ isLz p W.length W B := by
  rcases h with ⟨_, h⟩ | ⟨_, _, h⟩ | ⟨h1, h2, _⟩
  · omega
  · omega
  · exact ⟨h1, h2⟩
theorem one_row {v : PV} {x : List Int} {w : Bool} {a : AV} (hx : FI v x) : FII (.fz w a 1 [v]) [x] := ⟨w, a, [v], rfl, by simpa using (All2.nil _).snoc hx⟩
theorem SzL.one {x : List Int} (h : x.length ≤ 1048576) : SzL [x] := ⟨by simp, fun y hy => by rw [List.mem_singleton.1 hy]; exact h⟩
end Go.Proofs
set_option linter.unusedSimpArgs false
set_option linter.unusedVariables false
namespace Go.Proofs
open Go.Ab Go.Lie
variable {p : Int} {n : Nat} {W : List (List Int)} {B : List (List (List Int))} {c k : Nat} {f g : Vec}
/-- In the member k of the lower central series. -/
def Lw (p : Int) (n : Nat) (W : List (List Int)) (B : List (List (List Int))) (k : Nat) (f : Vec) : Prop := ∃ u, Low p n W B k u ∧ Gen p n W u f
/-- A ring of class c, without faults. -/
structure Rg (p : Int) (n : Nat) (W : List (List Int)) (B : List (List (List Int))) (c : Nat) : Prop where
  o : OkW p n W
  q : OkB p n B
  nf : NoFault p W B n
  cls : Cls p n W B c
theorem low_down : ∀ {m : Nat} {u : List (List Int)}, Low p n W B m u → ∀ k, k ≤ m → ∃ v, Low p n W B k v
  | 0, u, h, k, hk => by
    have : k = 0 := by omega
    subst this; exact ⟨u, h⟩
  | m + 1, u, h, k, hk => by
    by_cases e : k = m + 1
    · subst e; exact ⟨u, h⟩
    · cases h with
      | succ h hc => exact low_down h k (by omega)
theorem Rg.low (r : Rg p n W B c) (k : Nat) : ∃ u, Low p n W B k u := by
  rcases Nat.le_total k c with x | x
  · exact low_down r.cls.1 k x
  · obtain ⟨u, ⟨h, _⟩ | h⟩ := cls_low r.o r.q r.cls k
    · exact ⟨u, h⟩
    · exact ⟨[], by omega⟩
theorem Rg.sub (r : Rg p n W B c) (k : Nat) : IsSub p n W (Lw p n W B k) := by
  obtain ⟨u, hu⟩ := r.low k
  have hs := gen_sub (p := p) (n := n) (W := W) u
  have e : ∀ {f : Vec}, Lw p n W B k f → Gen p n W u f := fun {f} ⟨v, hv, hg⟩ => by rw [hu.unique r.o hv]; exact hg
  exact ⟨⟨u, hu, hs.zero⟩, fun f g a b => ⟨u, hu, hs.add _ _ (e a) (e b)⟩, fun k f a => ⟨u, hu, hs.mul _ _ (e a)⟩, fun f g a b => ⟨u, hu, hs.eqv _ _ a (e b)⟩⟩
theorem Rg.all (r : Rg p n W B c) {x : List Int} (hx : El p n x) : Lw p n W B 0 (at_ x) := ⟨_, .zero, gen_units r.o hx⟩
theorem Rg.brk (r : Rg p n W B c) (hf : Lw p n W B k f) (g : Vec) : Lw p n W B (k + 1) (brv B n f g) := by
  obtain ⟨u, hu, hg⟩ := hf
  obtain ⟨v, hv⟩ := r.low (k + 1)
  cases hv with
  | succ h hc =>
    rw [h.unique r.o hu] at hc
    exact ⟨v, .succ hu hc, low_gen r.o r.q r.nf hc hg g⟩
theorem Rg.brk2 (r : Rg p n W B c) (hg : Lw p n W B k g) (f : Vec) : Lw p n W B (k + 1) (brv B n f g) :=
  (r.sub _).eqv _ _ (Eqv.of_eq fun t => brv_anti f g t) ((r.sub _).mul (-1) _ (r.brk hg f))
theorem Rg.top (r : Rg p n W B c) (hk : c ≤ k) (hf : Lw p n W B k f) : Eqv p n W f fun _ => 0 := by
  obtain ⟨u, hu, hg⟩ := hf
  obtain ⟨v, ⟨hv, h0⟩ | h⟩ := cls_low r.o r.q r.cls k
  · rw [hu.unique r.o hv, h0 hk] at hg
    exact gen_nil hg
  · omega
theorem Rg.zero (r : Rg p n W B c) (hk : c ≤ k) {z : List Int} (hz : El p n z) (hf : Lw p n W B k (at_ z)) : isZ z := zero_of_eqv r.o hz (r.top hk hf)
theorem Rg.bL (r : Rg p n W B c) {x y : List Int} (hf : Lw p n W B k (at_ x)) : Lw p n W B (k + 1) (at_ (br p W B n x y)) := (r.sub _).eqv _ _ (br_eqv r.o r.q x y) (r.brk hf _)
theorem Rg.bR (r : Rg p n W B c) {x y : List Int} (hf : Lw p n W B k (at_ y)) : Lw p n W B (k + 1) (at_ (br p W B n x y)) := (r.sub _).eqv _ _ (br_eqv r.o r.q x y) (r.brk2 hf _)
theorem Rg.addL (r : Rg p n W B c) {x y : List Int} (hx : El p n x) (hy : El p n y) (h1 : Lw p n W B k (at_ x)) (h2 : Lw p n W B k (at_ y)) : Lw p n W B k (at_ (ladd p W x y)) := (r.sub _).eqv _ _ (ladd_eqv r.o hx hy) ((r.sub _).add _ _ h1 h2)
theorem Rg.mulL (r : Rg p n W B c) {x : List Int} (hx : El p n x) (m : Int) (h1 : Lw p n W B k (at_ x)) : Lw p n W B k (at_ (lmul p W m x)) := (r.sub _).eqv _ _ (lmul_eqv r.o hx m) ((r.sub _).mul m _ h1)
/-- The third term of a product, before it is divided. -/
def third3 (p : Int) (W : List (List Int)) (B : List (List (List Int))) (n : Nat) (x y : List Int) : List Int := ladd p W (br p W B n x (br p W B n x y)) (br p W B n y (lmul p W (-1) (br p W B n x y)))
theorem third_el (o : OkW p n W) (q : OkB p n B) {x y : List Int} : El p n (third3 p W B n x y) := lmix_el o (br_el o q) (br_el o q)
theorem Rg.thd (r : Rg p n W B c) {x y : List Int} (hf : Lw p n W B k (at_ (br p W B n x y))) : Lw p n W B (k + 1) (at_ (third3 p W B n x y)) :=
  r.addL (br_el r.o r.q) (br_el r.o r.q) (r.bR hf) (r.bR (r.mulL (br_el r.o r.q) (-1) hf))
theorem cop_two {p : Int} (hp : isP p) (h : p ≠ 2) : Cop p 2 ∧ Cop p (-2) := by
  rcases hp with rfl | rfl | rfl | rfl
  · exact absurd rfl h
  · exact ⟨⟨2, 1, by decide⟩, ⟨1, -1, by decide⟩⟩
  · exact ⟨⟨3, 1, by decide⟩, ⟨2, -1, by decide⟩⟩
  · exact ⟨⟨4, 1, by decide⟩, ⟨3, -1, by decide⟩⟩
theorem cop_twelve {p : Int} (hp : isP p) (h : p ≠ 2) (h3 : p ≠ 3) : Cop p 12 ∧ Cop p (-12) := by
  rcases hp with rfl | rfl | rfl | rfl
  · exact absurd rfl h
  · exact absurd rfl h3
  · exact ⟨⟨3, 7, by decide⟩, ⟨2, -5, by decide⟩⟩
  · exact ⟨⟨3, 5, by decide⟩, ⟨4, -7, by decide⟩⟩
/-- What is a bracket may be divided by 2. -/
theorem Rg.two (r : Rg p n W B c) (hp : isP p) (hc : (c : Int) < p) {z : List Int} (hz : El p n z) (h : Lw p n W B 1 (at_ z)) : isZ z ∨ (Cop p 2 ∧ Cop p (-2)) := by
  by_cases h2 : p = 2
  · exact .inl (r.zero (by omega) hz h)
  · exact .inr (cop_two hp h2)
/-- What is a bracket of brackets may be divided by 12. -/
theorem Rg.twelve (r : Rg p n W B c) (hp : isP p) (hc : (c : Int) < p) {z : List Int} (hz : El p n z) (h : Lw p n W B 2 (at_ z)) : isZ z ∨ (Cop p 12 ∧ Cop p (-12)) := by
  by_cases h2 : p = 2
  · exact .inl (r.zero (by omega) hz h)
  · by_cases h3 : p = 3
    · exact .inl (r.zero (by omega) hz h)
    · exact .inr (cop_twelve hp h2 h3)
/-- x divided by k. -/
noncomputable def dv (p : Int) (n : Nat) (W : List (List Int)) (k : Int) (x : List Int) : List Int := Classical.epsilon (DivL p n W k x)
theorem dv_eq (o : OkW p n W) {k : Int} {x z : List Int} (hx : El p n x) (h : DivL p n W k x z) (hk : isZ x ∨ Cop p k) : z = dv p n W k x :=
  h.unique o hx (Classical.epsilon_spec ⟨z, h⟩) hk
theorem div_ex (o : OkW p n W) {k : Int} {x : List Int} (hx : El p n x) : ∃ z, DivL p n W k x z := by
  by_cases hz : isZ x
  · exact ⟨x, hx, fun _ => rfl, fun _ => Eqv.of_eq fun j => by rw [isZ_at hz, Int.mul_zero]⟩
  · by_cases hc : Cop p k
    · have hn : 0 < n := by
        rcases Nat.eq_zero_or_pos n with h | h
        · exact absurd (by rw [List.eq_nil_of_length_eq_zero (hx.1.trans h)]; intro y hy; cases hy) hz
        · exact h
      obtain ⟨y, w, hy⟩ := cop_inv hc hn
      exact ⟨_, DivL.mk' o hx hz (y := y) (kill_all o fun j hj => hx.beyond hj) fun _ => ⟨w, hy⟩⟩
    · exact ⟨x, hx, fun h => absurd h hz, fun h => absurd h hc⟩
theorem dv_spec (o : OkW p n W) {k : Int} {x : List Int} (hx : El p n x) : DivL p n W k x (dv p n W k x) := Classical.epsilon_spec (div_ex o hx)
theorem dv_el (o : OkW p n W) {k : Int} {x : List Int} (hx : El p n x) : El p n (dv p n W k x) := (dv_spec o hx).el
/-- The product of two elements. -/
noncomputable def bch (p : Int) (n : Nat) (W : List (List Int)) (B : List (List (List Int))) (x y : List Int) : List Int :=
  ladd p W (ladd p W (ladd p W x y) (dv p n W 2 (br p W B n x y))) (dv p n W 12 (third3 p W B n x y))
theorem bch_el (o : OkW p n W) (q : OkB p n B) {x y : List Int} (hx : El p n x) (hy : El p n y) : El p n (bch p n W B x y) :=
  lmix_el o (lmix_el o (lmix_el o hx hy) (dv_el o (br_el o q))) (dv_el o (third_el o q))
theorem Rg.brD (r : Rg p n W B c) {x y : List Int} (hx : El p n x) : Lw p n W B 1 (at_ (br p W B n x y)) := r.bL (r.all hx)
theorem Rg.of_lie (hl : isLie p W B) (hz : isLz p W.length W B) : ∃ c, Rg p W.length W B c ∧ (c : Int) < p := by
  obtain ⟨c, hc, hp⟩ := hz
  exact ⟨c, ⟨hl.1.w, hl.1.b, hl.2, hc⟩, hp⟩
end Go.Proofs
set_option linter.unusedSimpArgs false
set_option linter.unusedVariables false
namespace Go.Proofs
open Go.Ab Go.Lie
variable {σ : PHeap} {K : PV → PHeap → Prop} {p : Int} {n c : Nat} {W : List (List Int)} {B : List (List (List Int))} {vP vB vL : PV} {s : Nat} {x y : List Int} {vx vy : PV}
/-- What products need of a ring. -/
structure Lz (p : Int) (n : Nat) (W : List (List Int)) (B : List (List (List Int))) (c : Nat) : Prop where
  r : Rg p n W B c
  hp : isP p
  hc : (c : Int) < p
  pow : ipow p n ≤ 729
theorem Lz.of (hl : isLie p W B) (hz : isLz p W.length W B) : ∃ c, Lz p W.length W B c := by
  obtain ⟨c, r, hc⟩ := Rg.of_lie hl hz
  exact ⟨c, r, hl.1.1, hc, hl.1.2.2.2.1⟩
theorem Lz.d2 (z : Lz p n W B c) (hx : El p n x) : isZ (br p W B n x y) ∨ Cop p 2 := (z.r.two z.hp z.hc (br_el z.r.o z.r.q) (z.r.brD hx)).imp id (·.1)
theorem Lz.d12 (z : Lz p n W B c) (hx : El p n x) : isZ (third3 p W B n x y) ∨ Cop p 12 := (z.r.twelve z.hp z.hc (third_el z.r.o z.r.q) (z.r.thd (z.r.brD hx))).imp id (·.1)
theorem bchTerms_T (z : Lz p n W B c) (hs : PtrR σ s p vP vB) (hR : IsR vP vB W B) (hx : El p n x) (hy : El p n y) (hvx : FI vx x) (hvy : FI vy y)
    (hk : ∀ a v1 v2 v3 t, FI v1 (ladd p W x y) → FI v2 (dv p n W 2 (br p W B n x y)) → FI v3 (dv p n W 12 (third3 p W B n x y)) → Own σ.top t (.fz true a 3 [v1, v2, v3]) → σ.top ≤ t → K (.fz true a 3 [v1, v2, v3]) (σ.up t)) :
    PCalls Try.prog 146 [.ptr s 0, vx, vy] σ K := by
  have o := z.r.o
  have q := z.r.q
  have hxl := hx.1
  have hyl := hy.1
  obtain ⟨wx, ax, rfl⟩ := hvx
  obtain ⟨wy, ay, rfl⟩ := hvy
  refine PCalls.gh ?_
  have bel := br_el o q (a := x) (b := y)
  refine pcalls_of_vp mix Try.func146 cf146 rfl ?_
  dsimp only [if146, qI, eI, nI, qD, eD]
  simp only [pwA, if_true, if_false, eq_self, nm_eq, reduceCtorEq, ↓reduceIte, Nat.reduceEqDiff, Nat.reduceLeDiff, Nat.reduceBEq, Nat.reduceAdd, Nat.reduceLT, Nat.reduceSub, Nat.reduceMul, Int.reduceEq, Int.reduceLT, Int.reduceLE, Int.reduceNeg, Int.reduceToNat, List.reduceReplicate, Int.ofNat_le, List.getElem?_drop]
  refine bracket_fz hs hR o q hx hy rfl rfl fun v1 => ?_
  simp only [pwA, if_true, if_false, eq_self, nm_eq, reduceCtorEq, ↓reduceIte, Nat.reduceEqDiff, Nat.reduceLeDiff, Nat.reduceBEq, Nat.reduceAdd, Nat.reduceLT, Nat.reduceSub, Nat.reduceMul, Int.reduceEq, Int.reduceLT, Int.reduceLE, Int.reduceNeg, Int.reduceToNat, List.reduceReplicate, Int.ofNat_le, List.getElem?_drop]
  refine bracket_fz hs hR o q hx bel rfl bel.1.symm fun v2 => ?_
  simp only [pwA, if_true, if_false, eq_self, nm_eq, reduceCtorEq, ↓reduceIte, Nat.reduceEqDiff, Nat.reduceLeDiff, Nat.reduceBEq, Nat.reduceAdd, Nat.reduceLT, Nat.reduceSub, Nat.reduceMul, Int.reduceEq, Int.reduceLT, Int.reduceLE, Int.reduceNeg, Int.reduceToNat, List.reduceReplicate, Int.ofNat_le, List.getElem?_drop]
  refine timesLie_fz hs hR.P o bel bel.1.symm (by decide) fun v3 => ?_
  have m1 : El p n (lmul p W (-1) (br p W B n x y)) := lmix_el o bel bel
  simp only [pwA, if_true, if_false, eq_self, nm_eq, reduceCtorEq, ↓reduceIte, Nat.reduceEqDiff, Nat.reduceLeDiff, Nat.reduceBEq, Nat.reduceAdd, Nat.reduceLT, Nat.reduceSub, Nat.reduceMul, Int.reduceEq, Int.reduceLT, Int.reduceLE, Int.reduceNeg, Int.reduceToNat, List.reduceReplicate, Int.ofNat_le, List.getElem?_drop]
  refine bracket_fz hs hR o q hy m1 rfl m1.1.symm fun v4 => ?_
  simp only [pwA, if_true, if_false, eq_self, nm_eq, reduceCtorEq, ↓reduceIte, Nat.reduceEqDiff, Nat.reduceLeDiff, Nat.reduceBEq, Nat.reduceAdd, Nat.reduceLT, Nat.reduceSub, Nat.reduceMul, Int.reduceEq, Int.reduceLT, Int.reduceLE, Int.reduceNeg, Int.reduceToNat, List.reduceReplicate, Int.ofNat_le, List.getElem?_drop]
  have e2 : El p n (br p W B n x (br p W B n x y)) := br_el o q
  have e4 : El p n (br p W B n y (lmul p W (-1) (br p W B n x y))) := br_el o q
  refine addLie_fz hs hR.P o e2 e4 e2.1.symm e4.1.symm fun v5 => ?_
  simp only [pwA, if_true, if_false, eq_self, nm_eq, reduceCtorEq, ↓reduceIte, Nat.reduceEqDiff, Nat.reduceLeDiff, Nat.reduceBEq, Nat.reduceAdd, Nat.reduceLT, Nat.reduceSub, Nat.reduceMul, Int.reduceEq, Int.reduceLT, Int.reduceLE, Int.reduceNeg, Int.reduceToNat, List.reduceReplicate, Int.ofNat_le, List.getElem?_drop]
  refine PCalls.fzIT (fun K' => addLie_ok hs hR.P o hx hy rfl rfl) fun w1 t1 f1 o1 ht1 => ?_
  have hs1 : PtrR (σ.up t1) s p vP vB := ⟨hs.obj, hs.lt⟩
  simp only [pwA, if_true, if_false, eq_self, nm_eq, reduceCtorEq, ↓reduceIte, Nat.reduceEqDiff, Nat.reduceLeDiff, Nat.reduceBEq, Nat.reduceAdd, Nat.reduceLT, Nat.reduceSub, Nat.reduceMul, Int.reduceEq, Int.reduceLT, Int.reduceLE, Int.reduceNeg, Int.reduceToNat, List.reduceReplicate, Int.ofNat_le, List.getElem?_drop]
  refine PCalls.fzITx (fun K' => divideLie_res hs1 hR.P o z.pow bel bel.1.symm) fun z2 w2 t2 d2 f2 o2 ht2 => ?_
  have hs2 : PtrR (σ.up t2) s p vP vB := ⟨hs.obj, hs.lt⟩
  simp only [pwA, if_true, if_false, eq_self, nm_eq, reduceCtorEq, ↓reduceIte, Nat.reduceEqDiff, Nat.reduceLeDiff, Nat.reduceBEq, Nat.reduceAdd, Nat.reduceLT, Nat.reduceSub, Nat.reduceMul, Int.reduceEq, Int.reduceLT, Int.reduceLE, Int.reduceNeg, Int.reduceToNat, List.reduceReplicate, Int.ofNat_le, List.getElem?_drop]
  have te := third_el o q (x := x) (y := y)
  refine PCalls.fzITx (fun K' => divideLie_res hs2 hR.P o z.pow (x := third3 p W B n x y) te te.1.symm) fun z3 w3 t3 d3 f3 o3 ht3 => ?_
  rw [dv_eq o bel d2 (z.d2 hx)] at f2
  rw [dv_eq o te d3 (z.d12 hx)] at f3
  simp only [ptop_up] at o2 ht2 o3 ht3
  simp only [pwA, if_true, if_false, eq_self, nm_eq, reduceCtorEq, ↓reduceIte, Nat.reduceEqDiff, Nat.reduceLeDiff, Nat.reduceBEq, Nat.reduceAdd, Nat.reduceLT, Nat.reduceSub, Nat.reduceMul, Int.reduceEq, Int.reduceLT, Int.reduceLE, Int.reduceNeg, Int.reduceToNat, List.reduceReplicate, Int.ofNat_le, List.getElem?_drop, f1.cells, f1.one, f2.cells, f2.one, f3.cells, f3.one]
  have hoo := (((Owns.nil σ.top σ.top).snoc o1 (Nat.le_refl _) ht1).snoc o2 ht1 ht2).snoc o3 (Nat.le_trans ht1 ht2) ht3
  exact Gh.own (cs := [w1, w2, w3]) ((Keep.refl σ).new _ |>.up (by simp only [ptop_new]; omega)) (by simp only [pwA, if_true, if_false, eq_self, nm_eq, reduceCtorEq, ↓reduceIte, Nat.reduceEqDiff, Nat.reduceLeDiff, Nat.reduceBEq, Nat.reduceAdd, Nat.reduceLT, Nat.reduceSub, Nat.reduceMul, Int.reduceEq, Int.reduceLT, Int.reduceLE, Int.reduceNeg, Int.reduceToNat, List.reduceReplicate, Int.ofNat_le, List.getElem?_drop]) (Nat.le_refl _) ⟨f1.bel 0, f2.bel 0, f3.bel 0, trivial⟩ (by simp [capOK]) (hoo.mono (Nat.le_refl _) (Nat.le_refl _)) fun o4 t4 h1 h2 => hk _ w1 w2 w3 t4 f1 f2 f3 h1 h2
theorem bchTerms_fz (z : Lz p n W B c) (hs : PtrR σ s p vP vB) (hR : IsR vP vB W B) (hx : El p n x) (hy : El p n y) (hvx : FI vx x) (hvy : FI vy y)
    (hk : ∀ a v1 v2 v3, FI v1 (ladd p W x y) → FI v2 (dv p n W 2 (br p W B n x y)) → FI v3 (dv p n W 12 (third3 p W B n x y)) → K (.fz true a 3 [v1, v2, v3]) σ) :
    PCalls Try.prog 146 [.ptr s 0, vx, vy] σ K :=
  PCalls.gh (bchTerms_T z hs hR hx hy hvx hvy fun a v1 v2 v3 t f1 f2 f3 _ ht => Gh.fin0 ((Keep.refl σ).up ht) trivial (hk a v1 v2 v3 f1 f2 f3))
theorem bch_ok (z : Lz p n W B c) (hs : PtrR σ s p vP vB) (hR : IsR vP vB W B) (hx : El p n x) (hy : El p n y) (hvx : FI vx x) (hvy : FI vy y) (hk : ResI σ K (bch p n W B x y)) :
    PCalls Try.prog 96 [.ptr s 0, vx, vy] σ K := by
  have o := z.r.o
  have q := z.r.q
  refine pcalls_of_vp mix Try.func96 cf96 rfl ?_
  dsimp only [if96, qI, eI, nI, qD, eD]
  simp only [pwA, if_true, if_false, eq_self, nm_eq, reduceCtorEq, ↓reduceIte, Nat.reduceEqDiff, Nat.reduceLeDiff, Nat.reduceBEq, Nat.reduceAdd, Nat.reduceLT, Nat.reduceSub, Nat.reduceMul, Int.reduceEq, Int.reduceLT, Int.reduceLE, Int.reduceNeg, Int.reduceToNat, List.reduceReplicate, Int.ofNat_le, List.getElem?_drop]
  refine bchTerms_fz z hs hR hx hy hvx hvy fun a v1 v2 v3 f1 f2 f3 => ?_
  obtain ⟨w1, a1, rfl⟩ := f1
  obtain ⟨w2, a2, rfl⟩ := f2
  obtain ⟨w3, a3, rfl⟩ := f3
  have e1 : El p n (ladd p W x y) := lmix_el o hx hy
  have e2 := dv_el o (k := 2) (br_el o q (a := x) (b := y))
  have e3 := dv_el o (k := 12) (third_el o q (x := x) (y := y))
  have e4 : El p n (ladd p W (ladd p W x y) (dv p n W 2 (br p W B n x y))) := lmix_el o e1 e2
  have c0 : (0 : Int) < ((3 : Nat) : Int) := by decide
  have c1 : (1 : Int) < ((3 : Nat) : Int) := by decide
  have c2 : (2 : Int) < ((3 : Nat) : Int) := by decide
  simp only [pwA, if_true, if_false, eq_self, nm_eq, reduceCtorEq, ↓reduceIte, Nat.reduceEqDiff, Nat.reduceLeDiff, Nat.reduceBEq, Nat.reduceAdd, Nat.reduceLT, Nat.reduceSub, Nat.reduceMul, Int.reduceEq, Int.reduceLT, Int.reduceLE, Int.reduceNeg, Int.reduceToNat, List.reduceReplicate, Int.ofNat_le, List.getElem?_drop, c0, c1, c2]
  refine addLie_fz hs hR.P o e1 e2 rfl rfl fun v4 => ?_
  simp only [pwA, if_true, if_false, eq_self, nm_eq, reduceCtorEq, ↓reduceIte, Nat.reduceEqDiff, Nat.reduceLeDiff, Nat.reduceBEq, Nat.reduceAdd, Nat.reduceLT, Nat.reduceSub, Nat.reduceMul, Int.reduceEq, Int.reduceLT, Int.reduceLE, Int.reduceNeg, Int.reduceToNat, List.reduceReplicate, Int.ofNat_le, List.getElem?_drop]
  refine addLie_ok hs hR.P o e4 e3 e4.1.symm rfl ⟨fun h0 => ?_, fun cap hc => ?_⟩
  · simp only [pwA, if_true, if_false, eq_self, nm_eq, reduceCtorEq, ↓reduceIte, Nat.reduceEqDiff, Nat.reduceLeDiff, Nat.reduceBEq, Nat.reduceAdd, Nat.reduceLT, Nat.reduceSub, Nat.reduceMul, Int.reduceEq, Int.reduceLT, Int.reduceLE, Int.reduceNeg, Int.reduceToNat, List.reduceReplicate, Int.ofNat_le, List.getElem?_drop]
    exact hk.1 h0
  · simp only [pwA, if_true, if_false, eq_self, nm_eq, reduceCtorEq, ↓reduceIte, Nat.reduceEqDiff, Nat.reduceLeDiff, Nat.reduceBEq, Nat.reduceAdd, Nat.reduceLT, Nat.reduceSub, Nat.reduceMul, Int.reduceEq, Int.reduceLT, Int.reduceLE, Int.reduceNeg, Int.reduceToNat, List.reduceReplicate, Int.ofNat_le, List.getElem?_drop]
    exact hk.2 cap hc
theorem l33Terms_fz (z : Lz p n W B c) (hR : IsR vP vB W B) (hx : El p n x) (hy : El p n y) (hvx : FI vx x) (hvy : FI vy y)
    (hk : ∀ a v1 v2 v3, FI v1 (ladd p W x y) → FI v2 (dv p n W 2 (br p W B n x y)) → FI v3 (dv p n W 12 (third3 p W B n x y)) → K (.fz true a 3 [v1, v2, v3]) σ) :
    PCalls Try.prog 142 [.agg [.int .i64 p, vP, vB], vx, vy] σ K := by
  have o := z.r.o
  have q := z.r.q
  have hxl := hx.1
  have hyl := hy.1
  have h1 := hR.P.one
  have h2 := hR.B.one
  obtain ⟨wx, ax, rfl⟩ := hvx
  obtain ⟨wy, ay, rfl⟩ := hvy
  refine PCalls.gh ?_
  have bel := br_el o q (a := x) (b := y)
  refine pcalls_of_vp mix Try.func142 cf142 rfl ?_
  dsimp only [if142, qI, eI, nI, qD, eD]
  simp only [pwA, if_true, if_false, eq_self, nm_eq, reduceCtorEq, ↓reduceIte, Nat.reduceEqDiff, Nat.reduceLeDiff, Nat.reduceBEq, Nat.reduceAdd, Nat.reduceLT, Nat.reduceSub, Nat.reduceMul, Int.reduceEq, Int.reduceLT, Int.reduceLE, Int.reduceNeg, Int.reduceToNat, List.reduceReplicate, Int.ofNat_le, List.getElem?_drop, h1, h2]
  refine l31Bracket_ok hR o q hx hy rfl rfl fun v1 => ?_
  simp only [pwA, if_true, if_false, eq_self, nm_eq, reduceCtorEq, ↓reduceIte, Nat.reduceEqDiff, Nat.reduceLeDiff, Nat.reduceBEq, Nat.reduceAdd, Nat.reduceLT, Nat.reduceSub, Nat.reduceMul, Int.reduceEq, Int.reduceLT, Int.reduceLE, Int.reduceNeg, Int.reduceToNat, List.reduceReplicate, Int.ofNat_le, List.getElem?_drop]
  refine l31Bracket_ok hR o q hx bel rfl bel.1.symm fun v2 => ?_
  simp only [pwA, if_true, if_false, eq_self, nm_eq, reduceCtorEq, ↓reduceIte, Nat.reduceEqDiff, Nat.reduceLeDiff, Nat.reduceBEq, Nat.reduceAdd, Nat.reduceLT, Nat.reduceSub, Nat.reduceMul, Int.reduceEq, Int.reduceLT, Int.reduceLE, Int.reduceNeg, Int.reduceToNat, List.reduceReplicate, Int.ofNat_le, List.getElem?_drop]
  refine l31Bracket_ok hR o q hy bel rfl bel.1.symm fun v3 => ?_
  simp only [pwA, if_true, if_false, eq_self, nm_eq, reduceCtorEq, ↓reduceIte, Nat.reduceEqDiff, Nat.reduceLeDiff, Nat.reduceBEq, Nat.reduceAdd, Nat.reduceLT, Nat.reduceSub, Nat.reduceMul, Int.reduceEq, Int.reduceLT, Int.reduceLE, Int.reduceNeg, Int.reduceToNat, List.reduceReplicate, Int.ofNat_le, List.getElem?_drop]
  have e2 : El p n (br p W B n x (br p W B n x y)) := br_el o q
  have e3 : El p n (br p W B n y (br p W B n x y)) := br_el o q
  refine l31Mix_el hR o e2 e3 e2.1.symm e3.1.symm (by decide) (by decide) fun v4 => ?_
  have te := third_el o q (x := x) (y := y)
  have hth := third o q z.r.nf (x := x) (y := y) bel
  rw [← hth]
  simp only [pwA, if_true, if_false, eq_self, nm_eq, reduceCtorEq, ↓reduceIte, Nat.reduceEqDiff, Nat.reduceLeDiff, Nat.reduceBEq, Nat.reduceAdd, Nat.reduceLT, Nat.reduceSub, Nat.reduceMul, Int.reduceEq, Int.reduceLT, Int.reduceLE, Int.reduceNeg, Int.reduceToNat, List.reduceReplicate, Int.ofNat_le, List.getElem?_drop]
  refine l31Mix_el hR o hx hy rfl rfl (by decide) (by decide) fun v5 => ?_
  simp only [pwA, if_true, if_false, eq_self, nm_eq, reduceCtorEq, ↓reduceIte, Nat.reduceEqDiff, Nat.reduceLeDiff, Nat.reduceBEq, Nat.reduceAdd, Nat.reduceLT, Nat.reduceSub, Nat.reduceMul, Int.reduceEq, Int.reduceLT, Int.reduceLE, Int.reduceNeg, Int.reduceToNat, List.reduceReplicate, Int.ofNat_le, List.getElem?_drop]
  refine l33Part_ok hR o z.pow bel bel.1.symm fun w6 v6 z2 d2 => ?_
  simp only [pwA, if_true, if_false, eq_self, nm_eq, reduceCtorEq, ↓reduceIte, Nat.reduceEqDiff, Nat.reduceLeDiff, Nat.reduceBEq, Nat.reduceAdd, Nat.reduceLT, Nat.reduceSub, Nat.reduceMul, Int.reduceEq, Int.reduceLT, Int.reduceLE, Int.reduceNeg, Int.reduceToNat, List.reduceReplicate, Int.ofNat_le, List.getElem?_drop]
  refine l33Part_ok hR o z.pow (x := third3 p W B n x y) te te.1.symm fun w7 v7 z3 d3 => ?_
  have hz2 := dv_eq o bel d2 (z.d2 hx)
  have hz3 := dv_eq o te d3 (z.d12 hx)
  subst hz2
  subst hz3
  simp only [pwA, if_true, if_false, eq_self, nm_eq, reduceCtorEq, ↓reduceIte, Nat.reduceEqDiff, Nat.reduceLeDiff, Nat.reduceBEq, Nat.reduceAdd, Nat.reduceLT, Nat.reduceSub, Nat.reduceMul, Int.reduceEq, Int.reduceLT, Int.reduceLE, Int.reduceNeg, Int.reduceToNat, List.reduceReplicate, Int.ofNat_le, List.getElem?_drop]
  exact Gh.finF (s := σ.next + 1) (cs := [.fz true v5 n (pis (ladd p W x y)), .fz w6 v6 n (pis (dv p n W 2 (br p W B n x y))), .fz w7 v7 n (pis (dv p n W 12 (third3 p W B n x y)))]) (((keep_new σ _).new _)) (by simp only [pwA, if_true, if_false, eq_self, nm_eq, reduceCtorEq, ↓reduceIte, Nat.reduceEqDiff, Nat.reduceLeDiff, Nat.reduceBEq, Nat.reduceAdd, Nat.reduceLT, Nat.reduceSub, Nat.reduceMul, Int.reduceEq, Int.reduceLT, Int.reduceLE, Int.reduceNeg, Int.reduceToNat, List.reduceReplicate, Int.ofNat_le, List.getElem?_drop]) (by omega) ⟨trivial, trivial, trivial, trivial⟩ (by simp [capOK]) fun o4 => hk _ _ _ _ ⟨true, v5, by rw [show (ladd p W x y).length = n from (lmix_el o hx hy).1]⟩ ⟨w6, v6, by rw [d2.el.1]⟩ ⟨w7, v7, by rw [d3.el.1]⟩
theorem l33Mul_ok (z : Lz p n W B c) (hR : IsR vP vB W B) (hx : El p n x) (hy : El p n y) (hvx : FI vx x) (hvy : FI vy y) (hk : ∀ v, FI v (bch p n W B x y) → K v σ) :
    PCalls Try.prog 91 [.agg [.int .i64 p, vP, vB], vx, vy] σ K := by
  have o := z.r.o
  have q := z.r.q
  have h1 := hR.P.one
  have h2 := hR.B.one
  refine PCalls.gh ?_
  refine pcalls_of_vp mix Try.func91 cf91 rfl ?_
  dsimp only [if91, qI, eI, nI, qD, eD]
  simp only [pwA, if_true, if_false, eq_self, nm_eq, reduceCtorEq, ↓reduceIte, Nat.reduceEqDiff, Nat.reduceLeDiff, Nat.reduceBEq, Nat.reduceAdd, Nat.reduceLT, Nat.reduceSub, Nat.reduceMul, Int.reduceEq, Int.reduceLT, Int.reduceLE, Int.reduceNeg, Int.reduceToNat, List.reduceReplicate, Int.ofNat_le, List.getElem?_drop, h1, h2]
  refine l33Terms_fz z hR hx hy hvx hvy fun a v1 v2 v3 f1 f2 f3 => ?_
  obtain ⟨w1, a1, rfl⟩ := f1
  obtain ⟨w2, a2, rfl⟩ := f2
  obtain ⟨w3, a3, rfl⟩ := f3
  have e1 : El p n (ladd p W x y) := lmix_el o hx hy
  have e2 := dv_el o (k := 2) (br_el o q (a := x) (b := y))
  have e3 := dv_el o (k := 12) (third_el o q (x := x) (y := y))
  have e4 : El p n (ladd p W (ladd p W x y) (dv p n W 2 (br p W B n x y))) := lmix_el o e1 e2
  have c0 : (0 : Int) < ((3 : Nat) : Int) := by decide
  have c1 : (1 : Int) < ((3 : Nat) : Int) := by decide
  have c2 : (2 : Int) < ((3 : Nat) : Int) := by decide
  simp only [pwA, if_true, if_false, eq_self, nm_eq, reduceCtorEq, ↓reduceIte, Nat.reduceEqDiff, Nat.reduceLeDiff, Nat.reduceBEq, Nat.reduceAdd, Nat.reduceLT, Nat.reduceSub, Nat.reduceMul, Int.reduceEq, Int.reduceLT, Int.reduceLE, Int.reduceNeg, Int.reduceToNat, List.reduceReplicate, Int.ofNat_le, List.getElem?_drop, c0, c1, c2]
  refine l31Mix_el hR o e1 e2 rfl rfl (by decide) (by decide) fun v4 => ?_
  simp only [pwA, if_true, if_false, eq_self, nm_eq, reduceCtorEq, ↓reduceIte, Nat.reduceEqDiff, Nat.reduceLeDiff, Nat.reduceBEq, Nat.reduceAdd, Nat.reduceLT, Nat.reduceSub, Nat.reduceMul, Int.reduceEq, Int.reduceLT, Int.reduceLE, Int.reduceNeg, Int.reduceToNat, List.reduceReplicate, Int.ofNat_le, List.getElem?_drop]
  refine l31Mix_el hR o (a := ladd p W (ladd p W x y) (dv p n W 2 (br p W B n x y))) e4 e3 e4.1.symm rfl (by decide) (by decide) fun v5 => ?_
  simp only [pwA, if_true, if_false, eq_self, nm_eq, reduceCtorEq, ↓reduceIte, Nat.reduceEqDiff, Nat.reduceLeDiff, Nat.reduceBEq, Nat.reduceAdd, Nat.reduceLT, Nat.reduceSub, Nat.reduceMul, Int.reduceEq, Int.reduceLT, Int.reduceLE, Int.reduceNeg, Int.reduceToNat, List.reduceReplicate, Int.ofNat_le, List.getElem?_drop]
  exact Gh.fin0 (keep_new σ _) trivial (hk _ ⟨true, v5, by rw [(bch_el o q hx hy).1]; rfl⟩)
end Go.Proofs
set_option linter.unusedSimpArgs false
set_option linter.unusedVariables false
namespace Go.Proofs
open Go.Ab Go.Lie
variable {σ : PHeap} {K : PV → PHeap → Prop} {p : Int} {n c : Nat} {W : List (List Int)} {B : List (List (List Int))} {vP vB vL : PV} {s : Nat} {x y : List Int} {vx vy : PV} {xs : List (List Int)}
theorem timesLie_FI (o : OkW p n W) (hs : PtrR σ s p vP vB) (hP : FII vP W) (hx : El p n x) (hvx : FI vx x) {k : Int} (hkb : -1000000000 ≤ k ∧ k ≤ 1000000000) (hk : ∀ v, FI v (lmul p W k x) → K v σ) : PCalls Try.prog 97 [.ptr s 0, .int .i64 k, vx] σ K := by
  obtain ⟨wx, ax, rfl⟩ := hvx
  exact timesLie_fz hs hP o hx rfl hkb fun v => hk _ ⟨_, _, by rw [show (lmul p W k x).length = n from (lmix_el o hx hx).1]⟩
end Go.Proofs
set_option linter.unusedSimpArgs false
set_option linter.unusedVariables false
namespace Go.Proofs
open Go.Ab Go.Lie
variable {σ : PHeap} {K : PV → PHeap → Prop} {p : Int} {n c m k : Nat} {W : List (List Int)} {B : List (List (List Int))} {vP vB vL : PV} {s : Nat} {x y u v : List Int} {vx vy : PV} {xs : List (List Int)}
/-- A code and a value. -/
def CodR (p : Int) (W : List (List Int)) (B : List (List (List Int))) (xs : List (List Int)) {α : Type} (nil val z : α) (c : Int) : Prop :=
  (∃ d, CodeL p W B xs d ∧ d ≠ 0 ∧ c = d ∧ z = nil) ∨ (CodeL p W B xs 0 ∧ c = 0 ∧ z = val)
theorem CodR.unique {α : Type} {nil val z z' : α} {c c' : Int} (h : CodR p W B xs nil val z c) (g : CodR p W B xs nil val z' c') : z = z' ∧ c = c' := by
  rcases h with ⟨d, h1, h2, h3, h4⟩ | ⟨h1, h3, h4⟩ <;> rcases g with ⟨d', g1, g2, g3, g4⟩ | ⟨g1, g3, g4⟩
  · have := h1.unique g1
    subst h4; subst g4; exact ⟨rfl, by omega⟩
  · exact absurd (h1.unique g1) h2
  · exact absurd (g1.unique h1) g2
  · subst h4; subst g4; exact ⟨rfl, by omega⟩
theorem CodR.bd {val z : List Int} {c : Int} (h : CodR p W B xs [] val z c) (hv : (isLie p W B ∧ Els p W.length xs) ∧ isLz p W.length W B → El p W.length val) : z.length ≤ 6 := by
  rcases h with ⟨d, h1, h2, h3, rfl⟩ | ⟨h1, h3, rfl⟩
  · simp
  · have := (hv h1.zero).1; have := h1.zero.1.1.1.w.le; omega
end Go.Proofs
set_option linter.unusedSimpArgs false
set_option linter.unusedVariables false
namespace Go.Proofs
open Go.Ab Go.Lie
variable {σ : PHeap} {K : PV → PHeap → Prop} {p : Int} {n c m k : Nat} {W : List (List Int)} {B : List (List (List Int))} {vP vB vL : PV} {s : Nat} {x y u v : List Int} {vx vy : PV} {xs : List (List Int)}
theorem totR_bd (sz : SzR W B) : totR W B ≤ 1153000000000000000 := by
  have h1 := totL_bd (m := 1048576) (len := List.length) sz.w
  have h2 : ∀ q ∈ B, totL List.length q ≤ 1099511627776 := fun q hq => by
    have h3 := totL_bd (m := 1048576) (len := List.length) (sz.c q hq)
    have h4 := sz.b q hq
    omega
  have h3 := totL_bd (m := 1099511627776) (len := totL List.length) h2
  have h4 := sz.Wl
  have h5 := sz.Bl
  unfold totR
  omega
end Go.Proofs
set_option linter.unusedSimpArgs false
set_option linter.unusedVariables false
namespace Go.Proofs
open Go.Ab Go.Lie
variable {σ : PHeap} {K : PV → PHeap → Prop} {p : Int} {n c m k : Nat} {W : List (List Int)} {B : List (List (List Int))} {vP vB vL : PV} {s : Nat} {x y u v : List Int} {vx vy : PV} {xs : List (List Int)}
theorem lmix0 {k : Int} {a b : List Int} (h : b.length = a.length) : lmix k a 0 b = lmix k a 0 a := by
  unfold lmix
  refine List.ext_getElem (by simp [h]) fun i h1 h2 => ?_
  simp
theorem el_rng (hx : El p n x) (hp : isP p) (i : Nat) : 0 ≤ at_ x i ∧ at_ x i ≤ 1000000 := by
  have := hp.bd
  rcases Nat.lt_or_ge i x.length with h | h
  · have := hx.2 _ (List.getElem_mem h); rw [at_eq h]; omega
  · rw [at_ge h]; omega
theorem pisAt {i : Nat} (h : i < x.length) : (pis x)[i]? = some (.int .i64 (at_ x i)) := by rw [pis_get, gi h, at_eq h]; rfl
/-- The element for which an exponent vector stands. -/
noncomputable def ptG (p : Int) (n : Nat) (W : List (List Int)) (B : List (List (List Int))) (e : List Int) : Nat → List Int
  | 0 => List.replicate n 0
  | i + 1 => bch p n W B (ptG p n W B e i) (lmul p W (at_ e i) (unitL n i))
theorem ptG_el (o : OkW p n W) (q : OkB p n B) (e : List Int) : ∀ {i : Nat}, i ≤ n → El p n (ptG p n W B e i)
  | 0, _ => rep_el o.pr
  | i + 1, hi => bch_el o q (ptG_el o q e (by omega)) (lmix_el o (unit_el o.pr (by omega)) (unit_el o.pr (by omega)))
theorem groupToLie_ok (z : Lz p n W B c) (hs : PtrR σ s p vP vB) (hR : IsR vP vB W B) (hx : El p n x) (hvx : FI vx x) (hk : ResI σ K (ptG p n W B x n)) : PCalls Try.prog 49 [.ptr s 0, vx] σ K := by
  have o := z.r.o
  have q := z.r.q
  have hn6 := o.le
  have hxl := hx.1
  obtain ⟨wx, ax, rfl⟩ := hvx
  refine PCalls.gh ?_
  have hne : ¬ s = σ.next := Nat.ne_of_lt hs.lt
  refine pcalls_of_vp mix Try.func49 cf49 rfl ?_
  dsimp only [if49, qI, eI, nI, qD, eD]
  simp only [pwA, if_true, if_false, eq_self, nm_eq, reduceCtorEq, ↓reduceIte, Nat.reduceEqDiff, Nat.reduceLeDiff, Nat.reduceBEq, Nat.reduceAdd, Nat.reduceLT, Nat.reduceSub, Nat.reduceMul, Int.reduceEq, Int.reduceLT, Int.reduceLE, Int.reduceNeg, Int.reduceToNat, List.reduceReplicate, Int.ofNat_le, List.getElem?_drop, hxl, List.length_replicate, pis_rep, mk8 (n := n) (by omega), mkL (n := n) (by omega)]
  refine vp_loop (fun m vs h' => ∃ i v, i ≤ n ∧ m = n - i ∧ vs = [.ptr s 0, .fz wx ax n (pis x), v, .fz wx ax n (pis x), .int .i64 n, .int .i64 (i : Nat)] ∧ Keep σ h' ∧ PAcc σ.next 1 h' v n (pis (ptG p n W B x i))) n ?_ ?_
  · refine ⟨0, _, by omega, by omega, rfl, keep_new σ _, .inr ?_⟩
    exact PSl.new σ.next 1 (h := σ) (n := n) (cs := pis (List.replicate n 0)) (by rw [pis_length]; simp) (Nat.le_refl _)
  · rintro m vs h' ⟨i, v, hi, rfl, rfl, hkp, ha⟩
    simp only [pwA, if_true, if_false, eq_self, nm_eq, reduceCtorEq, ↓reduceIte, Nat.reduceEqDiff, Nat.reduceLeDiff, Nat.reduceBEq, Nat.reduceAdd, Nat.reduceLT, Nat.reduceSub, Nat.reduceMul, Int.reduceEq, Int.reduceLT, Int.reduceLE, Int.reduceNeg, Int.reduceToNat, List.reduceReplicate, Int.ofNat_le, List.getElem?_drop]
    refine iteI (fun hlt => ?_) fun hge => ?_
    · have hel := ptG_el (B := B) o q x hi
      have hu := unit_el (n := n) o.pr hlt
      have hb := el_rng hx z.hp i
      have hlx : i < x.length := by omega
      have e : ∀ {v' : PV} {H : PHeap}, Keep σ H → PAcc σ.next 1 H v' n (pis (ptG p n W B x (i + 1))) → ∃ n', n' < n - i ∧ ∃ i' v, i' ≤ n ∧ n' = n - i' ∧ [PV.ptr s 0, .fz wx ax n (pis x), v', .fz wx ax n (pis x), .int .i64 n, .int .i64 ((i + 1 : Nat) : Int)] = [.ptr s 0, .fz wx ax n (pis x), v, .fz wx ax n (pis x), .int .i64 n, .int .i64 (i' : Nat)] ∧ Keep σ H ∧ PAcc σ.next 1 H v n (pis (ptG p n W B x i')) := fun {v' H} k1 k2 =>
        ⟨_, by omega, i + 1, v', by omega, rfl, rfl, k1, k2⟩
      have ne := lmix_el o (k := at_ x i) (m := 0) hu hu
      have bl := (bch_el o q hel ne).1
      simp only [pwA, if_true, if_false, eq_self, nm_eq, reduceCtorEq, ↓reduceIte, Nat.reduceEqDiff, Nat.reduceLeDiff, Nat.reduceBEq, Nat.reduceAdd, Nat.reduceLT, Nat.reduceSub, Nat.reduceMul, Int.reduceEq, Int.reduceLT, Int.reduceLE, Int.reduceNeg, Int.reduceToNat, List.reduceReplicate, Int.ofNat_le, List.getElem?_drop, hlt, pisAt hlx, List.getElem?_drop]
      refine unitVector_fz (by omega) hlt fun a1 => ?_
      simp only [pwA, if_true, if_false, eq_self, nm_eq, reduceCtorEq, ↓reduceIte, Nat.reduceEqDiff, Nat.reduceLeDiff, Nat.reduceBEq, Nat.reduceAdd, Nat.reduceLT, Nat.reduceSub, Nat.reduceMul, Int.reduceEq, Int.reduceLT, Int.reduceLE, Int.reduceNeg, Int.reduceToNat, List.reduceReplicate, Int.ofNat_le, List.getElem?_drop, pisAt hlx, List.getElem?_drop]
      refine timesLie_FI o (hs.keep hkp) hR.P hu ⟨true, a1, by rw [hu.1]⟩ (k := at_ x i) (by omega) fun v1 f1 => ?_
      simp only [pwA, if_true, if_false, eq_self, nm_eq, reduceCtorEq, ↓reduceIte, Nat.reduceEqDiff, Nat.reduceLeDiff, Nat.reduceBEq, Nat.reduceAdd, Nat.reduceLT, Nat.reduceSub, Nat.reduceMul, Int.reduceEq, Int.reduceLT, Int.reduceLE, Int.reduceNeg, Int.reduceToNat, List.reduceReplicate, Int.ofNat_le, List.getElem?_drop]
      rcases ha with ⟨rfl, h0, h1⟩ | ⟨s', cap, rfl, hc, q2, q3, q4, q5⟩
      · omega
      · refine PCalls.frz (s := s') (cs := pis (ptG p n W B x i)) q2 (pis_bel _ _) fun o1 => ?_
        have hcok := hc.ok
        simp only [sbs, sb, hcok, and_self, if_true, f1.sb]
        have hk2 : Keep σ (h'.kill s') := hkp.kill q4
        refine bch_ok z (hs.keep hk2) hR hel ne ⟨true, _, by rw [hel.1]⟩ f1 ⟨fun h2 => ?_, fun cap hc => ?_⟩
        · exact absurd bl (by rw [show bch p n W B (ptG p n W B x i) (norm p W (lmix (at_ x i) (unitL n i) 0 (unitL n i))) = [] from h2]; simp; omega)
        · simp only [pwA, if_true, if_false, eq_self, nm_eq, reduceCtorEq, ↓reduceIte, Nat.reduceEqDiff, Nat.reduceLeDiff, Nat.reduceBEq, Nat.reduceAdd, Nat.reduceLT, Nat.reduceSub, Nat.reduceMul, Int.reduceEq, Int.reduceLT, Int.reduceLE, Int.reduceNeg, Int.reduceToNat, List.reduceReplicate, Int.ofNat_le, List.getElem?_drop, wrapS hlt (by omega : n ≤ 4611686018427387904)]
          refine e (hk2.new _) (.inr ⟨_, cap, by rw [show (bch p n W B (ptG p n W B x i) (lmul p W (at_ x i) (unitL n i))).length = n from bl]; rfl, by rw [← bl]; exact hc, by simp only [pwA, if_true, if_false, eq_self, nm_eq, reduceCtorEq, ↓reduceIte, Nat.reduceEqDiff, Nat.reduceLeDiff, Nat.reduceBEq, Nat.reduceAdd, Nat.reduceLT, Nat.reduceSub, Nat.reduceMul, Int.reduceEq, Int.reduceLT, Int.reduceLE, Int.reduceNeg, Int.reduceToNat, List.reduceReplicate, Int.ofNat_le, List.getElem?_drop]; rfl, by rw [pis_length, Nat.mul_one]; exact bl, hk2.next, by simp [PHeap.new]⟩)
    · have hie : i = n := by omega
      subst hie
      exact ha.res hkp (ptG_el (B := B) o q x (Nat.le_refl _)).1.symm hk
theorem l34Point_ok (z : Lz p n W B c) (hR : IsR vP vB W B) (hx : El p n x) (hvx : FI vx x) (hk : ∀ v, FI v (ptG p n W B x n) → K v σ) : PCalls Try.prog 45 [.agg [.int .i64 p, vP, vB], vx] σ K := by
  have o := z.r.o
  have q := z.r.q
  have hn6 := o.le
  have hWl := o.len
  have hxl := hx.1
  have h1 := hR.P.one
  have h2 := hR.B.one
  obtain ⟨wx, ax, rfl⟩ := hvx
  refine PCalls.gh ?_
  refine pcalls_of_vp mix Try.func45 cf45 rfl ?_
  dsimp only [if45, qI, eI, nI, qD, eD]
  simp only [pwA, if_true, if_false, eq_self, nm_eq, reduceCtorEq, ↓reduceIte, Nat.reduceEqDiff, Nat.reduceLeDiff, Nat.reduceBEq, Nat.reduceAdd, Nat.reduceLT, Nat.reduceSub, Nat.reduceMul, Int.reduceEq, Int.reduceLT, Int.reduceLE, Int.reduceNeg, Int.reduceToNat, List.reduceReplicate, Int.ofNat_le, List.getElem?_drop, h1, h2, hxl]
  refine l31Zero_ok hR hWl (by omega) fun v0 => ?_
  simp only [pwA, if_true, if_false, eq_self, nm_eq, reduceCtorEq, ↓reduceIte, Nat.reduceEqDiff, Nat.reduceLeDiff, Nat.reduceBEq, Nat.reduceAdd, Nat.reduceLT, Nat.reduceSub, Nat.reduceMul, Int.reduceEq, Int.reduceLT, Int.reduceLE, Int.reduceNeg, Int.reduceToNat, List.reduceReplicate, Int.ofNat_le, List.getElem?_drop]
  refine vp_loop (fun m vs h' => ∃ i v, i ≤ n ∧ m = n - i ∧ vs = [.fz wx ax n (pis x), .ptr σ.next 0, v, .int .i64 (i : Nat)] ∧ h' = σ.new [.int .i64 p, vP, vB] ∧ FI v (ptG p n W B x i)) n ?_ ?_
  · exact ⟨0, _, by omega, by omega, rfl, rfl, ⟨true, v0, by rw [show ptG p n W B x 0 = List.replicate n 0 from rfl, List.length_replicate]; rfl⟩⟩
  · rintro m vs h' ⟨i, v, hi, rfl, rfl, rfl, hv⟩
    simp only [pwA, if_true, if_false, eq_self, nm_eq, reduceCtorEq, ↓reduceIte, Nat.reduceEqDiff, Nat.reduceLeDiff, Nat.reduceBEq, Nat.reduceAdd, Nat.reduceLT, Nat.reduceSub, Nat.reduceMul, Int.reduceEq, Int.reduceLT, Int.reduceLE, Int.reduceNeg, Int.reduceToNat, List.reduceReplicate, Int.ofNat_le, List.getElem?_drop]
    refine iteI (fun hlt => ?_) fun hge => ?_
    · have hel := ptG_el (B := B) o q x hi
      have hu := unit_el (n := n) o.pr hlt
      have hb := el_rng hx z.hp i
      have hlx : i < x.length := by omega
      have ne := lmix_el o (k := at_ x i) (m := 0) hu hu
      simp only [pwA, if_true, if_false, eq_self, nm_eq, reduceCtorEq, ↓reduceIte, Nat.reduceEqDiff, Nat.reduceLeDiff, Nat.reduceBEq, Nat.reduceAdd, Nat.reduceLT, Nat.reduceSub, Nat.reduceMul, Int.reduceEq, Int.reduceLT, Int.reduceLE, Int.reduceNeg, Int.reduceToNat, List.reduceReplicate, Int.ofNat_le, List.getElem?_drop, hlt, pisAt hlx, List.getElem?_drop]
      refine l31Unit_ok hR hWl (by omega) hlt fun a1 => ?_
      simp only [pwA, if_true, if_false, eq_self, nm_eq, reduceCtorEq, ↓reduceIte, Nat.reduceEqDiff, Nat.reduceLeDiff, Nat.reduceBEq, Nat.reduceAdd, Nat.reduceLT, Nat.reduceSub, Nat.reduceMul, Int.reduceEq, Int.reduceLT, Int.reduceLE, Int.reduceNeg, Int.reduceToNat, List.reduceReplicate, Int.ofNat_le, List.getElem?_drop, pisAt hlx, List.getElem?_drop]
      obtain ⟨w0, a0, rfl⟩ := hv
      refine l31Mix_el hR o hu hel hu.1.symm rfl (k := at_ x i) (m := 0) (by omega) (by decide) fun v1 => ?_
      rw [lmix0 (hel.1.trans hu.1.symm)]
      simp only [pwA, if_true, if_false, eq_self, nm_eq, reduceCtorEq, ↓reduceIte, Nat.reduceEqDiff, Nat.reduceLeDiff, Nat.reduceBEq, Nat.reduceAdd, Nat.reduceLT, Nat.reduceSub, Nat.reduceMul, Int.reduceEq, Int.reduceLT, Int.reduceLE, Int.reduceNeg, Int.reduceToNat, List.reduceReplicate, Int.ofNat_le, List.getElem?_drop]
      refine l33Mul_ok z hR hel ne ⟨_, _, rfl⟩ ⟨true, v1, by rw [ne.1]⟩ fun v' hv' => ?_
      simp only [pwA, if_true, if_false, eq_self, nm_eq, reduceCtorEq, ↓reduceIte, Nat.reduceEqDiff, Nat.reduceLeDiff, Nat.reduceBEq, Nat.reduceAdd, Nat.reduceLT, Nat.reduceSub, Nat.reduceMul, Int.reduceEq, Int.reduceLT, Int.reduceLE, Int.reduceNeg, Int.reduceToNat, List.reduceReplicate, Int.ofNat_le, List.getElem?_drop, wrapS hlt (by omega : n ≤ 4611686018427387904)]
      exact ⟨_, by omega, i + 1, v', by omega, rfl, rfl, hv'⟩
    · have hie : i = n := by omega
      subst hie
      exact Gh.fin0 (keep_new σ _) (hv.bel _) (hk v hv)
/-- The exponents found and the rest, after some steps. -/
noncomputable def stG (p : Int) (n : Nat) (W : List (List Int)) (B : List (List (List Int))) (x : List Int) : Nat → List Int × List Int
  | 0 => (List.replicate n 0, x)
  | i + 1 => ((stG p n W B x i).1.set i (at_ (stG p n W B x i).2 i), bch p n W B (lmul p W (-at_ (stG p n W B x i).2 i) (unitL n i)) (stG p n W B x i).2)
theorem stG_len : ∀ i, (stG p n W B x i).1.length = n
  | 0 => List.length_replicate ..
  | i + 1 => by rw [stG, List.length_set]; exact stG_len i
theorem stG_el (o : OkW p n W) (q : OkB p n B) (hx : El p n x) : ∀ {i : Nat}, i ≤ n → El p n (stG p n W B x i).2
  | 0, _ => hx
  | i + 1, hi => bch_el o q (lmix_el o (unit_el o.pr (by omega)) (unit_el o.pr (by omega))) (stG_el o q hx (by omega))
/-- The exponent vector of an element. -/
noncomputable def vcG (p : Int) (n : Nat) (W : List (List Int)) (B : List (List (List Int))) (x : List Int) : List Int := (stG p n W B x n).1
theorem lieToGroup_ok (z : Lz p n W B c) (hs : PtrR σ s p vP vB) (hR : IsR vP vB W B) (hx : El p n x) (hvx : FI vx x) (hk : ∀ cap, full 1 cap n → K (.sl σ.next 0 n cap) (σ.new (pis (vcG p n W B x)))) : PCalls Try.prog 55 [.ptr s 0, vx] σ K := by
  have o := z.r.o
  have q := z.r.q
  have hn6 := o.le
  have hxl := hx.1
  obtain ⟨wx, ax, rfl⟩ := hvx
  refine PCalls.gh ?_
  have hne : ¬ s = σ.next := Nat.ne_of_lt hs.lt
  refine pcalls_of_vp mix Try.func55 cf55 rfl ?_
  dsimp only [if55, qI, eI, nI, qD, eD]
  simp only [pwA, if_true, if_false, eq_self, nm_eq, reduceCtorEq, ↓reduceIte, Nat.reduceEqDiff, Nat.reduceLeDiff, Nat.reduceBEq, Nat.reduceAdd, Nat.reduceLT, Nat.reduceSub, Nat.reduceMul, Int.reduceEq, Int.reduceLT, Int.reduceLE, Int.reduceNeg, Int.reduceToNat, List.reduceReplicate, Int.ofNat_le, List.getElem?_drop, hxl, List.length_replicate, pis_rep, mk8 (n := n) (by omega), mkL (n := n) (by omega)]
  refine vp_loop (fun m vs h' => ∃ i v, i ≤ n ∧ m = n - i ∧ vs = [.ptr s 0, v, .int .i64 n, .sl σ.next 0 n (.known n), .int .i64 n, .int .i64 (i : Nat)] ∧ h' = σ.new (pis (stG p n W B x i).1) ∧ FI v (stG p n W B x i).2) n ?_ ?_
  · exact ⟨0, .fz wx ax n (pis x), by omega, by omega, rfl, rfl, ⟨_, _, by rw [show (stG p n W B x 0).2 = x from rfl, hxl]⟩⟩
  · rintro m vs h' ⟨i, v, hi, rfl, rfl, rfl, hv⟩
    simp only [pwA, if_true, if_false, eq_self, nm_eq, reduceCtorEq, ↓reduceIte, Nat.reduceEqDiff, Nat.reduceLeDiff, Nat.reduceBEq, Nat.reduceAdd, Nat.reduceLT, Nat.reduceSub, Nat.reduceMul, Int.reduceEq, Int.reduceLT, Int.reduceLE, Int.reduceNeg, Int.reduceToNat, List.reduceReplicate, Int.ofNat_le, List.getElem?_drop]
    refine iteI (fun hlt => ?_) fun hge => ?_
    · have hel := stG_el (B := B) o q hx hi
      have hu := unit_el (n := n) o.pr hlt
      have hb := el_rng hel z.hp i
      have hol := stG_len (p := p) (n := n) (W := W) (B := B) (x := x) i
      have hlx : i < (stG p n W B x i).2.length := by rw [hel.1]; exact hlt
      have hlo : i < (stG p n W B x i).1.length := by omega
      obtain ⟨w0, a0, rfl⟩ := hv
      have hset : (pis (stG p n W B x i).1).take i ++ [.int .i64 (at_ (stG p n W B x i).2 i)] ++ (pis (stG p n W B x i).1).drop (i + 1) = pis (stG p n W B x (i + 1)).1 := pis_set_at hlo
      have hat : at_ (stG p n W B x (i + 1)).1 i = at_ (stG p n W B x i).2 i := by rw [stG, at_eq (by rw [List.length_set]; exact hlo)]; simp
      have hl2 : i < (stG p n W B x (i + 1)).1.length := by rw [stG_len]; exact hlt
      have ne := lmix_el o (k := -at_ (stG p n W B x i).2 i) (m := 0) hu hu
      have hneg : IntKind.i64.wrap (0 - at_ (stG p n W B x i).2 i) = -at_ (stG p n W B x i).2 i := by rw [wrap64 (by omega) (by omega)]; omega
      have hs2 : PtrR (σ.new (pis (stG p n W B x (i + 1)).1)) s p vP vB := hs.new _
      simp only [pwA, if_true, if_false, eq_self, nm_eq, reduceCtorEq, ↓reduceIte, Nat.reduceEqDiff, Nat.reduceLeDiff, Nat.reduceBEq, Nat.reduceAdd, Nat.reduceLT, Nat.reduceSub, Nat.reduceMul, Int.reduceEq, Int.reduceLT, Int.reduceLE, Int.reduceNeg, Int.reduceToNat, List.reduceReplicate, Int.ofNat_le, List.getElem?_drop, hlt, pisAt hlx, hlx, List.getElem?_drop, hlo, Nat.succ_le_of_lt hlo, pis_length, hset, pisAt hl2, hat, hneg]
      refine unitVector_fz (by omega) hlt fun a1 => ?_
      simp only [pwA, if_true, if_false, eq_self, nm_eq, reduceCtorEq, ↓reduceIte, Nat.reduceEqDiff, Nat.reduceLeDiff, Nat.reduceBEq, Nat.reduceAdd, Nat.reduceLT, Nat.reduceSub, Nat.reduceMul, Int.reduceEq, Int.reduceLT, Int.reduceLE, Int.reduceNeg, Int.reduceToNat, List.reduceReplicate, Int.ofNat_le, List.getElem?_drop, pisAt hl2, hat]
      refine timesLie_FI o hs2 hR.P hu ⟨true, a1, by rw [hu.1]⟩ (k := -at_ (stG p n W B x i).2 i) (by omega) fun v1 f1 => ?_
      simp only [pwA, if_true, if_false, eq_self, nm_eq, reduceCtorEq, ↓reduceIte, Nat.reduceEqDiff, Nat.reduceLeDiff, Nat.reduceBEq, Nat.reduceAdd, Nat.reduceLT, Nat.reduceSub, Nat.reduceMul, Int.reduceEq, Int.reduceLT, Int.reduceLE, Int.reduceNeg, Int.reduceToNat, List.reduceReplicate, Int.ofNat_le, List.getElem?_drop]
      refine PCalls.fzI (fun K' => bch_ok z hs2 hR ne hel f1 ⟨_, _, rfl⟩) fun a2 => ?_
      simp only [pwA, if_true, if_false, eq_self, nm_eq, reduceCtorEq, ↓reduceIte, Nat.reduceEqDiff, Nat.reduceLeDiff, Nat.reduceBEq, Nat.reduceAdd, Nat.reduceLT, Nat.reduceSub, Nat.reduceMul, Int.reduceEq, Int.reduceLT, Int.reduceLE, Int.reduceNeg, Int.reduceToNat, List.reduceReplicate, Int.ofNat_le, List.getElem?_drop, wrapS hlt (by omega : n ≤ 4611686018427387904)]
      exact ⟨_, by omega, i + 1, _, by omega, rfl, rfl, rfl, ⟨_, _, rfl⟩⟩
    · have hie : i = n := by omega
      subst hie
      exact Gh.finS (keep_new σ _) (by simp only [pwA, if_true, if_false, eq_self, nm_eq, reduceCtorEq, ↓reduceIte, Nat.reduceEqDiff, Nat.reduceLeDiff, Nat.reduceBEq, Nat.reduceAdd, Nat.reduceLT, Nat.reduceSub, Nat.reduceMul, Int.reduceEq, Int.reduceLT, Int.reduceLE, Int.reduceNeg, Int.reduceToNat, List.reduceReplicate, Int.ofNat_le, List.getElem?_drop]; rfl) (Nat.le_refl _) (pis_bel _ _) (hk _ (.inr rfl))
theorem l34Vector_ok (z : Lz p n W B c) (hR : IsR vP vB W B) (hx : El p n x) (hvx : FI vx x) (hk : ∀ v, FI v (vcG p n W B x) → K v σ) : PCalls Try.prog 54 [.agg [.int .i64 p, vP, vB], vx] σ K := by
  have o := z.r.o
  have q := z.r.q
  have hn6 := o.le
  have hWl := o.len
  have hxl := hx.1
  have h1 := hR.P.one
  have h2 := hR.B.one
  obtain ⟨wx, ax, rfl⟩ := hvx
  refine PCalls.gh ?_
  refine pcalls_of_vp mix Try.func54 cf54 rfl ?_
  dsimp only [if54, qI, eI, nI, qD, eD]
  simp only [pwA, if_true, if_false, eq_self, nm_eq, reduceCtorEq, ↓reduceIte, Nat.reduceEqDiff, Nat.reduceLeDiff, Nat.reduceBEq, Nat.reduceAdd, Nat.reduceLT, Nat.reduceSub, Nat.reduceMul, Int.reduceEq, Int.reduceLT, Int.reduceLE, Int.reduceNeg, Int.reduceToNat, List.reduceReplicate, Int.ofNat_le, List.getElem?_drop, h1, h2, hxl]
  refine l31Zero_own hR hWl (by omega) fun cap hc => ?_
  simp only [pwA, if_true, if_false, eq_self, nm_eq, reduceCtorEq, ↓reduceIte, Nat.reduceEqDiff, Nat.reduceLeDiff, Nat.reduceBEq, Nat.reduceAdd, Nat.reduceLT, Nat.reduceSub, Nat.reduceMul, Int.reduceEq, Int.reduceLT, Int.reduceLE, Int.reduceNeg, Int.reduceToNat, List.reduceReplicate, Int.ofNat_le, List.getElem?_drop]
  refine vp_loop (fun m vs h' => ∃ i v, i ≤ n ∧ m = n - i ∧ vs = [.fz wx ax n (pis x), .ptr σ.next 0, .sl (σ.next + 1) 0 n cap, v, .int .i64 (i : Nat)] ∧ h' = (σ.new [.int .i64 p, vP, vB]).new (pis (stG p n W B x i).1) ∧ FI v (stG p n W B x i).2) n ?_ ?_
  · exact ⟨0, .fz wx ax n (pis x), by omega, by omega, rfl, rfl, ⟨_, _, by rw [show (stG p n W B x 0).2 = x from rfl, hxl]⟩⟩
  · rintro m vs h' ⟨i, v, hi, rfl, rfl, rfl, hv⟩
    simp only [pwA, if_true, if_false, eq_self, nm_eq, reduceCtorEq, ↓reduceIte, Nat.reduceEqDiff, Nat.reduceLeDiff, Nat.reduceBEq, Nat.reduceAdd, Nat.reduceLT, Nat.reduceSub, Nat.reduceMul, Int.reduceEq, Int.reduceLT, Int.reduceLE, Int.reduceNeg, Int.reduceToNat, List.reduceReplicate, Int.ofNat_le, List.getElem?_drop]
    refine iteI (fun hlt => ?_) fun hge => ?_
    · have hel := stG_el (B := B) o q hx hi
      have hu := unit_el (n := n) o.pr hlt
      have hb := el_rng hel z.hp i
      have hol := stG_len (p := p) (n := n) (W := W) (B := B) (x := x) i
      have hlx : i < (stG p n W B x i).2.length := by rw [hel.1]; exact hlt
      have hlo : i < (stG p n W B x i).1.length := by omega
      obtain ⟨w0, a0, rfl⟩ := hv
      have hset : (pis (stG p n W B x i).1).take i ++ [.int .i64 (at_ (stG p n W B x i).2 i)] ++ (pis (stG p n W B x i).1).drop (i + 1) = pis (stG p n W B x (i + 1)).1 := pis_set_at hlo
      have hat : at_ (stG p n W B x (i + 1)).1 i = at_ (stG p n W B x i).2 i := by rw [stG, at_eq (by rw [List.length_set]; exact hlo)]; simp
      have hl2 : i < (stG p n W B x (i + 1)).1.length := by rw [stG_len]; exact hlt
      have ne := lmix_el o (k := -at_ (stG p n W B x i).2 i) (m := 0) hu hu
      have hneg : IntKind.i64.wrap (0 - at_ (stG p n W B x i).2 i) = -at_ (stG p n W B x i).2 i := by rw [wrap64 (by omega) (by omega)]; omega
      simp only [pwA, if_true, if_false, eq_self, nm_eq, reduceCtorEq, ↓reduceIte, Nat.reduceEqDiff, Nat.reduceLeDiff, Nat.reduceBEq, Nat.reduceAdd, Nat.reduceLT, Nat.reduceSub, Nat.reduceMul, Int.reduceEq, Int.reduceLT, Int.reduceLE, Int.reduceNeg, Int.reduceToNat, List.reduceReplicate, Int.ofNat_le, List.getElem?_drop, hlt, pisAt hlx, hlx, List.getElem?_drop, hlo, Nat.succ_le_of_lt hlo, pis_length, hset, pisAt hl2, hat, hneg]
      refine l31Unit_ok hR hWl (by omega) hlt fun a1 => ?_
      simp only [pwA, if_true, if_false, eq_self, nm_eq, reduceCtorEq, ↓reduceIte, Nat.reduceEqDiff, Nat.reduceLeDiff, Nat.reduceBEq, Nat.reduceAdd, Nat.reduceLT, Nat.reduceSub, Nat.reduceMul, Int.reduceEq, Int.reduceLT, Int.reduceLE, Int.reduceNeg, Int.reduceToNat, List.reduceReplicate, Int.ofNat_le, List.getElem?_drop, pisAt hl2, hat]
      refine l31Mix_el hR o hu hel hu.1.symm rfl (k := -at_ (stG p n W B x i).2 i) (m := 0) (by omega) (by decide) fun v1 => ?_
      rw [lmix0 (hel.1.trans hu.1.symm)]
      simp only [pwA, if_true, if_false, eq_self, nm_eq, reduceCtorEq, ↓reduceIte, Nat.reduceEqDiff, Nat.reduceLeDiff, Nat.reduceBEq, Nat.reduceAdd, Nat.reduceLT, Nat.reduceSub, Nat.reduceMul, Int.reduceEq, Int.reduceLT, Int.reduceLE, Int.reduceNeg, Int.reduceToNat, List.reduceReplicate, Int.ofNat_le, List.getElem?_drop]
      refine l33Mul_ok z hR ne hel ⟨true, v1, by rw [ne.1]⟩ ⟨_, _, rfl⟩ fun v' hv' => ?_
      simp only [pwA, if_true, if_false, eq_self, nm_eq, reduceCtorEq, ↓reduceIte, Nat.reduceEqDiff, Nat.reduceLeDiff, Nat.reduceBEq, Nat.reduceAdd, Nat.reduceLT, Nat.reduceSub, Nat.reduceMul, Int.reduceEq, Int.reduceLT, Int.reduceLE, Int.reduceNeg, Int.reduceToNat, List.reduceReplicate, Int.ofNat_le, List.getElem?_drop, wrapS hlt (by omega : n ≤ 4611686018427387904)]
      exact ⟨_, by omega, i + 1, v', by omega, rfl, rfl, rfl, hv'⟩
    · have hie : i = n := by omega
      subst hie
      exact Gh.finF (s := σ.next + 1) ((keep_new σ _).new _) (by simp only [pwA, if_true, if_false, eq_self, nm_eq, reduceCtorEq, ↓reduceIte, Nat.reduceEqDiff, Nat.reduceLeDiff, Nat.reduceBEq, Nat.reduceAdd, Nat.reduceLT, Nat.reduceSub, Nat.reduceMul, Int.reduceEq, Int.reduceLT, Int.reduceLE, Int.reduceNeg, Int.reduceToNat, List.reduceReplicate, Int.ofNat_le, List.getElem?_drop]; rfl) (by omega) (pis_bel _ _) hc.ok fun o1 => hk _ ⟨true, .sl o1 0 i cap, by rw [show (vcG p i W B x).length = i from stG_len i]; rfl⟩
end Go.Proofs
set_option linter.unusedSimpArgs false
set_option linter.unusedVariables false
namespace Go.Proofs
open Go.Ab Go.Lie
variable {σ : PHeap} {K : PV → PHeap → Prop} {p : Int} {n c m k : Nat} {W : List (List Int)} {B : List (List (List Int))} {vP vB vL : PV} {s : Nat} {x y u v : List Int} {vx vy : PV} {xs : List (List Int)}
theorem PCalls.fzLT {f : FuncId} {args : List PV} {xs : List Int} {n : Nat} (hl : xs.length = n) (c : ∀ K' : PV → PHeap → Prop, (∀ cap, full 1 cap n → K' (.sl σ.next 0 n cap) (σ.new (pis xs))) → PCalls Try.prog f args σ K') (k : ∀ v t, FI v xs → Own σ.top t v → σ.top ≤ t → K v (σ.up t)) : PCalls Try.prog f args σ K :=
  PCalls.fzIT (fun K' h => c K' (by rw [← hl]; exact h.2)) k
theorem GroupToLie_T (hR : IsR vP vB W B) (szr : SzR W B) (hx : FI vx x) (szx : x.length ≤ 1048576)
    (hk : ∀ v z c t, CodR p W B [x] [] (ptG p W.length W B x W.length) z c → FI v z → Own σ.top t v → σ.top ≤ t → K (.tup [v, .int .i64 c]) (σ.up t)) : PCalls Try.prog 15 [.agg [.int .i64 p, vP, vB], vx] σ K := by
  have h1 := hR.P.one
  have h2 := hR.B.one
  refine PCalls.gh ?_
  refine pcalls_of_vp mix Try.func15 cf15 rfl ?_
  dsimp only [if15, qI, eI, nI, qD, eD]
  simp only [pwA, if_true, if_false, eq_self, nm_eq, reduceCtorEq, ↓reduceIte, Nat.reduceEqDiff, Nat.reduceLeDiff, Nat.reduceBEq, Nat.reduceAdd, Nat.reduceLT, Nat.reduceSub, Nat.reduceMul, Int.reduceEq, Int.reduceLT, Int.reduceLE, Int.reduceNeg, Int.reduceToNat, List.reduceReplicate, Int.ofNat_le, List.getElem?_drop, h1, h2, hx.one, hx.cells]
  have hkp : Keep σ (((σ.new [.int .i64 p, vP, vB]).new [vx]).kill (σ.next + 1)) := ((keep_new σ _).new _).kill (by omega)
  have hs : PtrR (((σ.new [.int .i64 p, vP, vB]).new [vx]).kill (σ.next + 1)) σ.next p vP vB := ⟨by simp only [pwA, if_true, if_false, eq_self, nm_eq, reduceCtorEq, ↓reduceIte, Nat.reduceEqDiff, Nat.reduceLeDiff, Nat.reduceBEq, Nat.reduceAdd, Nat.reduceLT, Nat.reduceSub, Nat.reduceMul, Int.reduceEq, Int.reduceLT, Int.reduceLE, Int.reduceNeg, Int.reduceToNat, List.reduceReplicate, Int.ofNat_le, List.getElem?_drop], by simp only [pwA, if_true, if_false, eq_self, nm_eq, reduceCtorEq, ↓reduceIte, Nat.reduceEqDiff, Nat.reduceLeDiff, Nat.reduceBEq, Nat.reduceAdd, Nat.reduceLT, Nat.reduceSub, Nat.reduceMul, Int.reduceEq, Int.reduceLT, Int.reduceLE, Int.reduceNeg, Int.reduceToNat, List.reduceReplicate, Int.ofNat_le, List.getElem?_drop]; omega⟩
  refine PCalls.frz (s := σ.next + 1) (cs := [vx]) (by simp only [pwA, if_true, if_false, eq_self, nm_eq, reduceCtorEq, ↓reduceIte, Nat.reduceEqDiff, Nat.reduceLeDiff, Nat.reduceBEq, Nat.reduceAdd, Nat.reduceLT, Nat.reduceSub, Nat.reduceMul, Int.reduceEq, Int.reduceLT, Int.reduceLE, Int.reduceNeg, Int.reduceToNat, List.reduceReplicate, Int.ofNat_le, List.getElem?_drop]) ⟨hx.bel 0, trivial⟩ fun o => ?_
  simp only [sbs, sb, capOK, and_self, if_true, decide_true, Nat.le_refl, hx.sb]
  refine lazardCode_ok (xs := [x]) hs hR szr (one_row hx) (SzL.one szx) fun c hc => ?_
  by_cases hc0 : c = 0
  rotate_left
  · simp only [pwA, if_true, if_false, eq_self, nm_eq, reduceCtorEq, ↓reduceIte, Nat.reduceEqDiff, Nat.reduceLeDiff, Nat.reduceBEq, Nat.reduceAdd, Nat.reduceLT, Nat.reduceSub, Nat.reduceMul, Int.reduceEq, Int.reduceLT, Int.reduceLE, Int.reduceNeg, Int.reduceToNat, List.reduceReplicate, Int.ofNat_le, List.getElem?_drop, hc0]
    exact Gh.fin0T (t := σ.top) hkp hkp.top ⟨trivial, trivial, trivial⟩ fun _ => hk _ [] _ σ.top (.inl ⟨c, hc, hc0, rfl, rfl⟩) ⟨_, _, rfl⟩ (Own.empty _ _ _ _ _) (Nat.le_refl _)
  subst hc0
  obtain ⟨⟨hl, he⟩, hz⟩ := hc.zero
  obtain ⟨cc, lz⟩ := Lz.of hl hz
  have hx' := he x (by simp)
  simp only [pwA, if_true, if_false, eq_self, nm_eq, reduceCtorEq, ↓reduceIte, Nat.reduceEqDiff, Nat.reduceLeDiff, Nat.reduceBEq, Nat.reduceAdd, Nat.reduceLT, Nat.reduceSub, Nat.reduceMul, Int.reduceEq, Int.reduceLT, Int.reduceLE, Int.reduceNeg, Int.reduceToNat, List.reduceReplicate, Int.ofNat_le, List.getElem?_drop]
  refine PCalls.fzIT (fun K' => groupToLie_ok lz hs hR hx' hx) fun v t hv ho ht => ?_
  simp only [pwA, if_true, if_false, eq_self, nm_eq, reduceCtorEq, ↓reduceIte, Nat.reduceEqDiff, Nat.reduceLeDiff, Nat.reduceBEq, Nat.reduceAdd, Nat.reduceLT, Nat.reduceSub, Nat.reduceMul, Int.reduceEq, Int.reduceLT, Int.reduceLE, Int.reduceNeg, Int.reduceToNat, List.reduceReplicate, Int.ofNat_le, List.getElem?_drop]
  exact Gh.fin0T (t := t) (hkp.up ht) (Nat.le_refl _) ⟨hv.bel _, trivial, trivial⟩ fun _ => hk _ _ _ t (.inr ⟨hc, rfl, rfl⟩) hv ho ht
theorem l34ToLie_ok (hR : IsR vP vB W B) (szr : SzR W B) (hx : FI vx x) (szx : x.length ≤ 1048576)
    (hk : ∀ v z c, CodR p W B [x] [] (ptG p W.length W B x W.length) z c → FI v z → K (.tup [v, .int .i64 c]) σ) : PCalls Try.prog 12 [.agg [.int .i64 p, vP, vB], vx] σ K := by
  have h1 := hR.P.one
  have h2 := hR.B.one
  refine PCalls.gh ?_
  refine pcalls_of_vp mix Try.func12 cf12 rfl ?_
  dsimp only [if12, qI, eI, nI, qD, eD]
  simp only [pwA, if_true, if_false, eq_self, nm_eq, reduceCtorEq, ↓reduceIte, Nat.reduceEqDiff, Nat.reduceLeDiff, Nat.reduceBEq, Nat.reduceAdd, Nat.reduceLT, Nat.reduceSub, Nat.reduceMul, Int.reduceEq, Int.reduceLT, Int.reduceLE, Int.reduceNeg, Int.reduceToNat, List.reduceReplicate, Int.ofNat_le, List.getElem?_drop, h1, h2, hx.one, hx.cells]
  have hkp : Keep σ (((σ.new [.int .i64 p, vP, vB]).new [vx]).kill (σ.next + 1)) := ((keep_new σ _).new _).kill (by omega)
  refine PCalls.frz (s := σ.next + 1) (cs := [vx]) (by simp only [pwA, if_true, if_false, eq_self, nm_eq, reduceCtorEq, ↓reduceIte, Nat.reduceEqDiff, Nat.reduceLeDiff, Nat.reduceBEq, Nat.reduceAdd, Nat.reduceLT, Nat.reduceSub, Nat.reduceMul, Int.reduceEq, Int.reduceLT, Int.reduceLE, Int.reduceNeg, Int.reduceToNat, List.reduceReplicate, Int.ofNat_le, List.getElem?_drop]) ⟨hx.bel 0, trivial⟩ fun o => ?_
  simp only [sbs, sb, capOK, and_self, if_true, decide_true, Nat.le_refl, hR.P.sb, hR.B.sb, hx.sb]
  refine l33Code_ok (xs := [x]) hR szr (one_row hx) (SzL.one szx) fun c hc => ?_
  by_cases hc0 : c = 0
  rotate_left
  · simp only [pwA, if_true, if_false, eq_self, nm_eq, reduceCtorEq, ↓reduceIte, Nat.reduceEqDiff, Nat.reduceLeDiff, Nat.reduceBEq, Nat.reduceAdd, Nat.reduceLT, Nat.reduceSub, Nat.reduceMul, Int.reduceEq, Int.reduceLT, Int.reduceLE, Int.reduceNeg, Int.reduceToNat, List.reduceReplicate, Int.ofNat_le, List.getElem?_drop, hc0]
    exact Gh.fin0 hkp ⟨trivial, trivial, trivial⟩ (hk _ [] _ (.inl ⟨c, hc, hc0, rfl, rfl⟩) ⟨_, _, rfl⟩)
  subst hc0
  obtain ⟨⟨hl, he⟩, hz⟩ := hc.zero
  obtain ⟨cc, lz⟩ := Lz.of hl hz
  have hx' := he x (by simp)
  simp only [pwA, if_true, if_false, eq_self, nm_eq, reduceCtorEq, ↓reduceIte, Nat.reduceEqDiff, Nat.reduceLeDiff, Nat.reduceBEq, Nat.reduceAdd, Nat.reduceLT, Nat.reduceSub, Nat.reduceMul, Int.reduceEq, Int.reduceLT, Int.reduceLE, Int.reduceNeg, Int.reduceToNat, List.reduceReplicate, Int.ofNat_le, List.getElem?_drop]
  refine l34Point_ok lz hR hx' hx fun v hv => ?_
  simp only [pwA, if_true, if_false, eq_self, nm_eq, reduceCtorEq, ↓reduceIte, Nat.reduceEqDiff, Nat.reduceLeDiff, Nat.reduceBEq, Nat.reduceAdd, Nat.reduceLT, Nat.reduceSub, Nat.reduceMul, Int.reduceEq, Int.reduceLT, Int.reduceLE, Int.reduceNeg, Int.reduceToNat, List.reduceReplicate, Int.ofNat_le, List.getElem?_drop]
  exact Gh.fin0 hkp ⟨hv.bel _, trivial, trivial⟩ (hk _ _ _ (.inr ⟨hc, rfl, rfl⟩) hv)
theorem LieToGroup_T (hR : IsR vP vB W B) (szr : SzR W B) (hx : FI vx x) (szx : x.length ≤ 1048576)
    (hk : ∀ v z c t, CodR p W B [x] [] (vcG p W.length W B x) z c → FI v z → Own σ.top t v → σ.top ≤ t → K (.tup [v, .int .i64 c]) (σ.up t)) : PCalls Try.prog 22 [.agg [.int .i64 p, vP, vB], vx] σ K := by
  have h1 := hR.P.one
  have h2 := hR.B.one
  refine PCalls.gh ?_
  refine pcalls_of_vp mix Try.func22 cf22 rfl ?_
  dsimp only [if22, qI, eI, nI, qD, eD]
  simp only [pwA, if_true, if_false, eq_self, nm_eq, reduceCtorEq, ↓reduceIte, Nat.reduceEqDiff, Nat.reduceLeDiff, Nat.reduceBEq, Nat.reduceAdd, Nat.reduceLT, Nat.reduceSub, Nat.reduceMul, Int.reduceEq, Int.reduceLT, Int.reduceLE, Int.reduceNeg, Int.reduceToNat, List.reduceReplicate, Int.ofNat_le, List.getElem?_drop, h1, h2, hx.one, hx.cells]
  have hkp : Keep σ (((σ.new [.int .i64 p, vP, vB]).new [vx]).kill (σ.next + 1)) := ((keep_new σ _).new _).kill (by omega)
  have hs : PtrR (((σ.new [.int .i64 p, vP, vB]).new [vx]).kill (σ.next + 1)) σ.next p vP vB := ⟨by simp only [pwA, if_true, if_false, eq_self, nm_eq, reduceCtorEq, ↓reduceIte, Nat.reduceEqDiff, Nat.reduceLeDiff, Nat.reduceBEq, Nat.reduceAdd, Nat.reduceLT, Nat.reduceSub, Nat.reduceMul, Int.reduceEq, Int.reduceLT, Int.reduceLE, Int.reduceNeg, Int.reduceToNat, List.reduceReplicate, Int.ofNat_le, List.getElem?_drop], by simp only [pwA, if_true, if_false, eq_self, nm_eq, reduceCtorEq, ↓reduceIte, Nat.reduceEqDiff, Nat.reduceLeDiff, Nat.reduceBEq, Nat.reduceAdd, Nat.reduceLT, Nat.reduceSub, Nat.reduceMul, Int.reduceEq, Int.reduceLT, Int.reduceLE, Int.reduceNeg, Int.reduceToNat, List.reduceReplicate, Int.ofNat_le, List.getElem?_drop]; omega⟩
  refine PCalls.frz (s := σ.next + 1) (cs := [vx]) (by simp only [pwA, if_true, if_false, eq_self, nm_eq, reduceCtorEq, ↓reduceIte, Nat.reduceEqDiff, Nat.reduceLeDiff, Nat.reduceBEq, Nat.reduceAdd, Nat.reduceLT, Nat.reduceSub, Nat.reduceMul, Int.reduceEq, Int.reduceLT, Int.reduceLE, Int.reduceNeg, Int.reduceToNat, List.reduceReplicate, Int.ofNat_le, List.getElem?_drop]) ⟨hx.bel 0, trivial⟩ fun o => ?_
  simp only [sbs, sb, capOK, and_self, if_true, decide_true, Nat.le_refl, hx.sb]
  refine lazardCode_ok (xs := [x]) hs hR szr (one_row hx) (SzL.one szx) fun c hc => ?_
  by_cases hc0 : c = 0
  rotate_left
  · simp only [pwA, if_true, if_false, eq_self, nm_eq, reduceCtorEq, ↓reduceIte, Nat.reduceEqDiff, Nat.reduceLeDiff, Nat.reduceBEq, Nat.reduceAdd, Nat.reduceLT, Nat.reduceSub, Nat.reduceMul, Int.reduceEq, Int.reduceLT, Int.reduceLE, Int.reduceNeg, Int.reduceToNat, List.reduceReplicate, Int.ofNat_le, List.getElem?_drop, hc0]
    exact Gh.fin0T (t := σ.top) hkp hkp.top ⟨trivial, trivial, trivial⟩ fun _ => hk _ [] _ σ.top (.inl ⟨c, hc, hc0, rfl, rfl⟩) ⟨_, _, rfl⟩ (Own.empty _ _ _ _ _) (Nat.le_refl _)
  subst hc0
  obtain ⟨⟨hl, he⟩, hz⟩ := hc.zero
  obtain ⟨cc, lz⟩ := Lz.of hl hz
  have hx' := he x (by simp)
  simp only [pwA, if_true, if_false, eq_self, nm_eq, reduceCtorEq, ↓reduceIte, Nat.reduceEqDiff, Nat.reduceLeDiff, Nat.reduceBEq, Nat.reduceAdd, Nat.reduceLT, Nat.reduceSub, Nat.reduceMul, Int.reduceEq, Int.reduceLT, Int.reduceLE, Int.reduceNeg, Int.reduceToNat, List.reduceReplicate, Int.ofNat_le, List.getElem?_drop]
  refine PCalls.fzLT (stG_len _) (fun K' => lieToGroup_ok lz hs hR hx' hx) fun v t hv ho ht => ?_
  simp only [pwA, if_true, if_false, eq_self, nm_eq, reduceCtorEq, ↓reduceIte, Nat.reduceEqDiff, Nat.reduceLeDiff, Nat.reduceBEq, Nat.reduceAdd, Nat.reduceLT, Nat.reduceSub, Nat.reduceMul, Int.reduceEq, Int.reduceLT, Int.reduceLE, Int.reduceNeg, Int.reduceToNat, List.reduceReplicate, Int.ofNat_le, List.getElem?_drop]
  exact Gh.fin0T (t := t) (hkp.up ht) (Nat.le_refl _) ⟨hv.bel _, trivial, trivial⟩ fun _ => hk _ _ _ t (.inr ⟨hc, rfl, rfl⟩) hv ho ht
theorem l34ToGroup_ok (hR : IsR vP vB W B) (szr : SzR W B) (hx : FI vx x) (szx : x.length ≤ 1048576)
    (hk : ∀ v z c, CodR p W B [x] [] (vcG p W.length W B x) z c → FI v z → K (.tup [v, .int .i64 c]) σ) : PCalls Try.prog 21 [.agg [.int .i64 p, vP, vB], vx] σ K := by
  have h1 := hR.P.one
  have h2 := hR.B.one
  refine PCalls.gh ?_
  refine pcalls_of_vp mix Try.func21 cf21 rfl ?_
  dsimp only [if21, qI, eI, nI, qD, eD]
  simp only [pwA, if_true, if_false, eq_self, nm_eq, reduceCtorEq, ↓reduceIte, Nat.reduceEqDiff, Nat.reduceLeDiff, Nat.reduceBEq, Nat.reduceAdd, Nat.reduceLT, Nat.reduceSub, Nat.reduceMul, Int.reduceEq, Int.reduceLT, Int.reduceLE, Int.reduceNeg, Int.reduceToNat, List.reduceReplicate, Int.ofNat_le, List.getElem?_drop, h1, h2, hx.one, hx.cells]
  have hkp : Keep σ (((σ.new [.int .i64 p, vP, vB]).new [vx]).kill (σ.next + 1)) := ((keep_new σ _).new _).kill (by omega)
  refine PCalls.frz (s := σ.next + 1) (cs := [vx]) (by simp only [pwA, if_true, if_false, eq_self, nm_eq, reduceCtorEq, ↓reduceIte, Nat.reduceEqDiff, Nat.reduceLeDiff, Nat.reduceBEq, Nat.reduceAdd, Nat.reduceLT, Nat.reduceSub, Nat.reduceMul, Int.reduceEq, Int.reduceLT, Int.reduceLE, Int.reduceNeg, Int.reduceToNat, List.reduceReplicate, Int.ofNat_le, List.getElem?_drop]) ⟨hx.bel 0, trivial⟩ fun o => ?_
  simp only [sbs, sb, capOK, and_self, if_true, decide_true, Nat.le_refl, hR.P.sb, hR.B.sb, hx.sb]
  refine l33Code_ok (xs := [x]) hR szr (one_row hx) (SzL.one szx) fun c hc => ?_
  by_cases hc0 : c = 0
  rotate_left
  · simp only [pwA, if_true, if_false, eq_self, nm_eq, reduceCtorEq, ↓reduceIte, Nat.reduceEqDiff, Nat.reduceLeDiff, Nat.reduceBEq, Nat.reduceAdd, Nat.reduceLT, Nat.reduceSub, Nat.reduceMul, Int.reduceEq, Int.reduceLT, Int.reduceLE, Int.reduceNeg, Int.reduceToNat, List.reduceReplicate, Int.ofNat_le, List.getElem?_drop, hc0]
    exact Gh.fin0 hkp ⟨trivial, trivial, trivial⟩ (hk _ [] _ (.inl ⟨c, hc, hc0, rfl, rfl⟩) ⟨_, _, rfl⟩)
  subst hc0
  obtain ⟨⟨hl, he⟩, hz⟩ := hc.zero
  obtain ⟨cc, lz⟩ := Lz.of hl hz
  have hx' := he x (by simp)
  simp only [pwA, if_true, if_false, eq_self, nm_eq, reduceCtorEq, ↓reduceIte, Nat.reduceEqDiff, Nat.reduceLeDiff, Nat.reduceBEq, Nat.reduceAdd, Nat.reduceLT, Nat.reduceSub, Nat.reduceMul, Int.reduceEq, Int.reduceLT, Int.reduceLE, Int.reduceNeg, Int.reduceToNat, List.reduceReplicate, Int.ofNat_le, List.getElem?_drop]
  refine l34Vector_ok lz hR hx' hx fun v hv => ?_
  simp only [pwA, if_true, if_false, eq_self, nm_eq, reduceCtorEq, ↓reduceIte, Nat.reduceEqDiff, Nat.reduceLeDiff, Nat.reduceBEq, Nat.reduceAdd, Nat.reduceLT, Nat.reduceSub, Nat.reduceMul, Int.reduceEq, Int.reduceLT, Int.reduceLE, Int.reduceNeg, Int.reduceToNat, List.reduceReplicate, Int.ofNat_le, List.getElem?_drop]
  exact Gh.fin0 hkp ⟨hv.bel _, trivial, trivial⟩ (hk _ _ _ (.inr ⟨hc, rfl, rfl⟩) hv)
theorem pt_bd {z : List Int} {c : Int} (h : CodR p W B [x] [] (ptG p W.length W B x W.length) z c) : z.length ≤ 6 := h.bd fun hh => ptG_el hh.1.1.1.w hh.1.1.1.b _ (Nat.le_refl _)
theorem vc_bd {z : List Int} {c : Int} (h : CodR p W B [x] [] (vcG p W.length W B x) z c) : z.length ≤ 6 := by
  rcases h with ⟨d, h1, h2, h3, rfl⟩ | ⟨h1, h3, rfl⟩
  · simp
  · have := h1.zero.1.1.1.w.le; rw [show (vcG p W.length W B x).length = W.length from stG_len _]; omega
end Go.Proofs
