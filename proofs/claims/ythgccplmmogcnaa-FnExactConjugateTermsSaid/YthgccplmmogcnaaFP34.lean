/- The terms of a conjugate, the reference's side. -/
import Derived.Test.YthgccplmmogcnaaFP28
import Derived.Test.YthgccplmmogcnaaFAbPn
import Derived.Test.YthgccplmmogcnaaFP31
set_option linter.unusedSimpArgs false
set_option linter.unusedVariables false
namespace Go.Proofs
open Go.Ab Go.Lie
section
variable {h : AHeap} {K : AV → AHeap → Prop}
theorem markInt64S_A {v : PV} {xs : List Int} {k : Int} (hI : FI v xs) (hW : Wh v) (hw : HWF h) (hv : VOK (zlt h) h 0 v) (hb : xs.length ≤ 4294967296) (hk0 : 0 ≤ k) (hk1 : k ≤ 2305843009213693952)
    (hk : ∀ h', Upd h (mkI k v xs) h' → K (.int .i64 (k + xs.length)) h') : ACalls Try.prog 32 [er idz v, .int .i64 k] h K := by
  refine acalls_of_vc mix Try.func32 cf32 rfl ?_
  dsimp only [if32]
  by_cases hne : xs = []
  · subst hne
    have hlen : aLen (er idz v) = some (.int .i64 ((0 : Nat) : Int)) := by
      obtain ⟨w, a, rfl⟩ := hI
      obtain ⟨rfl, _⟩ | ⟨o, off, cap, rfl, _⟩ := hv.1 <;> rfl
    simp only [nm_eq, ↓reduceIte, vc_skip, vc_region, vc_draw, vc_seq, vc_cond, vc_block, vc_exit, vc_ret, RV_nil, RV_q, RV_e, DV_nil, DV_q, DV_e, gq_none, gq_some, ge_none, ge_some, condK_true, condK_false, condK_dec, condK_ndec, guardK_bool, guardO_bool, ev_t, ev_c, mk_cons, put_some, put_none, qv_mv, qv_pick, qv_bin, qv_un, qv_conv, qv_nilCheck, qv_build, qv_field, qv_fieldAddr, qv_indexAddr, qv_indexStr, qv_extract, qv_len, qv_lenStr, qv_cap, qv_slice, qv_sliceStr, qv_maxmin, qv_makeFunc, qv_load, qv_rev, eff_alloc, eff_box, eff_buildSl, eff_store, aStore_ptr, eff_makeSl, aMake_int, eff_append, eff_copy, eff_call, eff_callV, aCallV_clo, abin_add, abin_sub, abin_mul, abin_quo, abin_rem, abin_eql, abin_neq, abin_lss, abin_leq, abin_gtr, abin_geq, abin_beql, abin_bneq, abin_nn, abin_sn, abin_ns, abin_nnx, abin_snx, abin_nsx, abin_str, aun_neg, aun_not, aPick_true, aPick_false, aConv_int, aNil_ptr, aNil_clo, aField_agg, aField_one, aFieldAddr_ptr, Int.toNat_natCast, rd1_new, rd_new, new_next, Nat.left_eq_add, Nat.add_eq_left, Nat.succ_ne_self, Nat.one_ne_zero, Nat.add_left_cancel_iff, Nat.add_assoc, List.getElem?_cons_zero, List.getElem?_cons_succ, List.take_succ_cons, List.take_zero, List.drop_succ_cons, List.drop_zero, List.take_nil, List.drop_nil, Nat.reduceLeDiff, Nat.le_refl, afill_nil, afill_cons, zeros_zero, zeros_one1, zeros_single, Nat.lt_add_one, Int.reduceEq, Int.reduceLT, Int.reduceLE, Int.reduceNeg, aExtract_tup, aLen_sl, aLen_nils, aLenStr_str, aMaxmin_int, ldv_one, ldv_agg, news_nil, news_cons, RecOK_nil, RecOK_none, RecOK_cons, recOf, wantedI, rvals_nil, rvals_tmp, rvals_cell, retQ_normal, retQ_ret, packR_one, packR_nil, packR_two, optK_some, optK_none, optK_bind, optK_map, List.map_cons, List.map_nil, Nat.reduceEqDiff, if_true, if_false, ite_true, ite_false, List.nil_append, List.cons_append, Option.map_some, Option.map_none, reduceCtorEq, decide_true, decide_false, Bool.not_true, Bool.not_false, cells_int, cells_bool, cells_str, cells_nilp, cells_ptr, cells_nils, cells_sl, cells_nilf, cells_clo, cells_agg, List.all_cons, List.all_nil, one_int, one_bool, one_str, one_nilp, one_ptr, one_nils, one_sl, one_nilf, one_clo, List.length_cons, List.length_nil, Bool.and_true, Bool.true_and, Bool.and_self, true_and, and_true, Bool.true_eq_false, Bool.false_eq_true, List.contains_cons, List.contains_nil, Bool.or_false, Bool.or_true, Bool.true_or, Bool.false_or, eq_self, Nat.reduceBEq, Nat.reduceAdd, Nat.mul_one, Nat.zero_add, Nat.add_zero]
    refine vc_loop (fun m vs h' => vs = [er idz v, .int .i64 k, .int .i64 0] ∧ h' = h) 0 ⟨rfl, rfl⟩ ?_
    rintro m vs h' ⟨rfl, rfl⟩
    simp only [nm_eq, ↓reduceIte, vc_skip, vc_region, vc_draw, vc_seq, vc_cond, vc_block, vc_exit, vc_ret, RV_nil, RV_q, RV_e, DV_nil, DV_q, DV_e, gq_none, gq_some, ge_none, ge_some, condK_true, condK_false, condK_dec, condK_ndec, guardK_bool, guardO_bool, ev_t, ev_c, mk_cons, put_some, put_none, qv_mv, qv_pick, qv_bin, qv_un, qv_conv, qv_nilCheck, qv_build, qv_field, qv_fieldAddr, qv_indexAddr, qv_indexStr, qv_extract, qv_len, qv_lenStr, qv_cap, qv_slice, qv_sliceStr, qv_maxmin, qv_makeFunc, qv_load, qv_rev, eff_alloc, eff_box, eff_buildSl, eff_store, aStore_ptr, eff_makeSl, aMake_int, eff_append, eff_copy, eff_call, eff_callV, aCallV_clo, abin_add, abin_sub, abin_mul, abin_quo, abin_rem, abin_eql, abin_neq, abin_lss, abin_leq, abin_gtr, abin_geq, abin_beql, abin_bneq, abin_nn, abin_sn, abin_ns, abin_nnx, abin_snx, abin_nsx, abin_str, aun_neg, aun_not, aPick_true, aPick_false, aConv_int, aNil_ptr, aNil_clo, aField_agg, aField_one, aFieldAddr_ptr, Int.toNat_natCast, rd1_new, rd_new, new_next, Nat.left_eq_add, Nat.add_eq_left, Nat.succ_ne_self, Nat.one_ne_zero, Nat.add_left_cancel_iff, Nat.add_assoc, List.getElem?_cons_zero, List.getElem?_cons_succ, List.take_succ_cons, List.take_zero, List.drop_succ_cons, List.drop_zero, List.take_nil, List.drop_nil, Nat.reduceLeDiff, Nat.le_refl, afill_nil, afill_cons, zeros_zero, zeros_one1, zeros_single, Nat.lt_add_one, Int.reduceEq, Int.reduceLT, Int.reduceLE, Int.reduceNeg, aExtract_tup, aLen_sl, aLen_nils, aLenStr_str, aMaxmin_int, ldv_one, ldv_agg, news_nil, news_cons, RecOK_nil, RecOK_none, RecOK_cons, recOf, wantedI, rvals_nil, rvals_tmp, rvals_cell, retQ_normal, retQ_ret, packR_one, packR_nil, packR_two, optK_some, optK_none, optK_bind, optK_map, List.map_cons, List.map_nil, Nat.reduceEqDiff, if_true, if_false, ite_true, ite_false, List.nil_append, List.cons_append, Option.map_some, Option.map_none, reduceCtorEq, decide_true, decide_false, Bool.not_true, Bool.not_false, cells_int, cells_bool, cells_str, cells_nilp, cells_ptr, cells_nils, cells_sl, cells_nilf, cells_clo, cells_agg, List.all_cons, List.all_nil, one_int, one_bool, one_str, one_nilp, one_ptr, one_nils, one_sl, one_nilf, one_clo, List.length_cons, List.length_nil, Bool.and_true, Bool.true_and, Bool.and_self, true_and, and_true, Bool.true_eq_false, Bool.false_eq_true, List.contains_cons, List.contains_nil, Bool.or_false, Bool.or_true, Bool.true_or, Bool.false_or, eq_self, Nat.reduceBEq, Nat.reduceAdd, Nat.mul_one, Nat.zero_add, Nat.add_zero, hlen, Int.lt_irrefl]
    have := hk h' (Upd.refl hw)
    simpa using this
  · obtain ⟨w, a, rfl⟩ := hI
    obtain ⟨hwt, _, _⟩ := hW.resolve_left (pis_ne hne)
    obtain ⟨o, cap, rfl, ho, hz⟩ := hv.whole hwt (pis_ne hne)
    have ho' : h.obj o = some ⟨true, ints xs⟩ := by rw [ho, ers_map]; congr 2; simp only [pis, ints, List.map_map]; rfl
    simp only [nm_eq, ↓reduceIte, vc_skip, vc_region, vc_draw, vc_seq, vc_cond, vc_block, vc_exit, vc_ret, RV_nil, RV_q, RV_e, DV_nil, DV_q, DV_e, gq_none, gq_some, ge_none, ge_some, condK_true, condK_false, condK_dec, condK_ndec, guardK_bool, guardO_bool, ev_t, ev_c, mk_cons, put_some, put_none, qv_mv, qv_pick, qv_bin, qv_un, qv_conv, qv_nilCheck, qv_build, qv_field, qv_fieldAddr, qv_indexAddr, qv_indexStr, qv_extract, qv_len, qv_lenStr, qv_cap, qv_slice, qv_sliceStr, qv_maxmin, qv_makeFunc, qv_load, qv_rev, eff_alloc, eff_box, eff_buildSl, eff_store, aStore_ptr, eff_makeSl, aMake_int, eff_append, eff_copy, eff_call, eff_callV, aCallV_clo, abin_add, abin_sub, abin_mul, abin_quo, abin_rem, abin_eql, abin_neq, abin_lss, abin_leq, abin_gtr, abin_geq, abin_beql, abin_bneq, abin_nn, abin_sn, abin_ns, abin_nnx, abin_snx, abin_nsx, abin_str, aun_neg, aun_not, aPick_true, aPick_false, aConv_int, aNil_ptr, aNil_clo, aField_agg, aField_one, aFieldAddr_ptr, Int.toNat_natCast, rd1_new, rd_new, new_next, Nat.left_eq_add, Nat.add_eq_left, Nat.succ_ne_self, Nat.one_ne_zero, Nat.add_left_cancel_iff, Nat.add_assoc, List.getElem?_cons_zero, List.getElem?_cons_succ, List.take_succ_cons, List.take_zero, List.drop_succ_cons, List.drop_zero, List.take_nil, List.drop_nil, Nat.reduceLeDiff, Nat.le_refl, afill_nil, afill_cons, zeros_zero, zeros_one1, zeros_single, Nat.lt_add_one, Int.reduceEq, Int.reduceLT, Int.reduceLE, Int.reduceNeg, aExtract_tup, aLen_sl, aLen_nils, aLenStr_str, aMaxmin_int, ldv_one, ldv_agg, news_nil, news_cons, RecOK_nil, RecOK_none, RecOK_cons, recOf, wantedI, rvals_nil, rvals_tmp, rvals_cell, retQ_normal, retQ_ret, packR_one, packR_nil, packR_two, optK_some, optK_none, optK_bind, optK_map, List.map_cons, List.map_nil, Nat.reduceEqDiff, if_true, if_false, ite_true, ite_false, List.nil_append, List.cons_append, Option.map_some, Option.map_none, reduceCtorEq, decide_true, decide_false, Bool.not_true, Bool.not_false, cells_int, cells_bool, cells_str, cells_nilp, cells_ptr, cells_nils, cells_sl, cells_nilf, cells_clo, cells_agg, List.all_cons, List.all_nil, one_int, one_bool, one_str, one_nilp, one_ptr, one_nils, one_sl, one_nilf, one_clo, List.length_cons, List.length_nil, Bool.and_true, Bool.true_and, Bool.and_self, true_and, and_true, Bool.true_eq_false, Bool.false_eq_true, List.contains_cons, List.contains_nil, Bool.or_false, Bool.or_true, Bool.true_or, Bool.false_or, eq_self, Nat.reduceBEq, Nat.reduceAdd, Nat.mul_one, Nat.zero_add, Nat.add_zero, er]
    refine vc_loop (fun m vs h' => ∃ i : Nat, i ≤ xs.length ∧ m = xs.length - i ∧ vs = [.sl o 0 xs.length cap, .int .i64 (k + i), .int .i64 i] ∧ h' = h.set o (ints ((seqI k xs.length).take i ++ xs.drop i))) xs.length ?_ ?_
    · exact ⟨0, by omega, by omega, (by (simp only [nm_eq, ↓reduceIte, vc_skip, vc_region, vc_draw, vc_seq, vc_cond, vc_block, vc_exit, vc_ret, RV_nil, RV_q, RV_e, DV_nil, DV_q, DV_e, gq_none, gq_some, ge_none, ge_some, condK_true, condK_false, condK_dec, condK_ndec, guardK_bool, guardO_bool, ev_t, ev_c, mk_cons, put_some, put_none, qv_mv, qv_pick, qv_bin, qv_un, qv_conv, qv_nilCheck, qv_build, qv_field, qv_fieldAddr, qv_indexAddr, qv_indexStr, qv_extract, qv_len, qv_lenStr, qv_cap, qv_slice, qv_sliceStr, qv_maxmin, qv_makeFunc, qv_load, qv_rev, eff_alloc, eff_box, eff_buildSl, eff_store, aStore_ptr, eff_makeSl, aMake_int, eff_append, eff_copy, eff_call, eff_callV, aCallV_clo, abin_add, abin_sub, abin_mul, abin_quo, abin_rem, abin_eql, abin_neq, abin_lss, abin_leq, abin_gtr, abin_geq, abin_beql, abin_bneq, abin_nn, abin_sn, abin_ns, abin_nnx, abin_snx, abin_nsx, abin_str, aun_neg, aun_not, aPick_true, aPick_false, aConv_int, aNil_ptr, aNil_clo, aField_agg, aField_one, aFieldAddr_ptr, Int.toNat_natCast, rd1_new, rd_new, new_next, Nat.left_eq_add, Nat.add_eq_left, Nat.succ_ne_self, Nat.one_ne_zero, Nat.add_left_cancel_iff, Nat.add_assoc, List.getElem?_cons_zero, List.getElem?_cons_succ, List.take_succ_cons, List.take_zero, List.drop_succ_cons, List.drop_zero, List.take_nil, List.drop_nil, Nat.reduceLeDiff, Nat.le_refl, afill_nil, afill_cons, zeros_zero, zeros_one1, zeros_single, Nat.lt_add_one, Int.reduceEq, Int.reduceLT, Int.reduceLE, Int.reduceNeg, aExtract_tup, aLen_sl, aLen_nils, aLenStr_str, aMaxmin_int, ldv_one, ldv_agg, news_nil, news_cons, RecOK_nil, RecOK_none, RecOK_cons, recOf, wantedI, rvals_nil, rvals_tmp, rvals_cell, retQ_normal, retQ_ret, packR_one, packR_nil, packR_two, optK_some, optK_none, optK_bind, optK_map, List.map_cons, List.map_nil, Nat.reduceEqDiff, if_true, if_false, ite_true, ite_false, List.nil_append, List.cons_append, Option.map_some, Option.map_none, reduceCtorEq, decide_true, decide_false, Bool.not_true, Bool.not_false, cells_int, cells_bool, cells_str, cells_nilp, cells_ptr, cells_nils, cells_sl, cells_nilf, cells_clo, cells_agg, List.all_cons, List.all_nil, one_int, one_bool, one_str, one_nilp, one_ptr, one_nils, one_sl, one_nilf, one_clo, List.length_cons, List.length_nil, Bool.and_true, Bool.true_and, Bool.and_self, true_and, and_true, Bool.true_eq_false, Bool.false_eq_true, List.contains_cons, List.contains_nil, Bool.or_false, Bool.or_true, Bool.true_or, Bool.false_or, eq_self, Nat.reduceBEq, Nat.reduceAdd, Nat.mul_one, Nat.zero_add, Nat.add_zero, List.cons.injEq, AV.int.injEq, AV.sl.injEq, and_self]) <;> omega), by simp [set_self ho']⟩
    · rintro m vs h' ⟨i, hi, rfl, rfl, rfl⟩
      simp only [nm_eq, ↓reduceIte, vc_skip, vc_region, vc_draw, vc_seq, vc_cond, vc_block, vc_exit, vc_ret, RV_nil, RV_q, RV_e, DV_nil, DV_q, DV_e, gq_none, gq_some, ge_none, ge_some, condK_true, condK_false, condK_dec, condK_ndec, guardK_bool, guardO_bool, ev_t, ev_c, mk_cons, put_some, put_none, qv_mv, qv_pick, qv_bin, qv_un, qv_conv, qv_nilCheck, qv_build, qv_field, qv_fieldAddr, qv_indexAddr, qv_indexStr, qv_extract, qv_len, qv_lenStr, qv_cap, qv_slice, qv_sliceStr, qv_maxmin, qv_makeFunc, qv_load, qv_rev, eff_alloc, eff_box, eff_buildSl, eff_store, aStore_ptr, eff_makeSl, aMake_int, eff_append, eff_copy, eff_call, eff_callV, aCallV_clo, abin_add, abin_sub, abin_mul, abin_quo, abin_rem, abin_eql, abin_neq, abin_lss, abin_leq, abin_gtr, abin_geq, abin_beql, abin_bneq, abin_nn, abin_sn, abin_ns, abin_nnx, abin_snx, abin_nsx, abin_str, aun_neg, aun_not, aPick_true, aPick_false, aConv_int, aNil_ptr, aNil_clo, aField_agg, aField_one, aFieldAddr_ptr, Int.toNat_natCast, rd1_new, rd_new, new_next, Nat.left_eq_add, Nat.add_eq_left, Nat.succ_ne_self, Nat.one_ne_zero, Nat.add_left_cancel_iff, Nat.add_assoc, List.getElem?_cons_zero, List.getElem?_cons_succ, List.take_succ_cons, List.take_zero, List.drop_succ_cons, List.drop_zero, List.take_nil, List.drop_nil, Nat.reduceLeDiff, Nat.le_refl, afill_nil, afill_cons, zeros_zero, zeros_one1, zeros_single, Nat.lt_add_one, Int.reduceEq, Int.reduceLT, Int.reduceLE, Int.reduceNeg, aExtract_tup, aLen_sl, aLen_nils, aLenStr_str, aMaxmin_int, ldv_one, ldv_agg, news_nil, news_cons, RecOK_nil, RecOK_none, RecOK_cons, recOf, wantedI, rvals_nil, rvals_tmp, rvals_cell, retQ_normal, retQ_ret, packR_one, packR_nil, packR_two, optK_some, optK_none, optK_bind, optK_map, List.map_cons, List.map_nil, Nat.reduceEqDiff, if_true, if_false, ite_true, ite_false, List.nil_append, List.cons_append, Option.map_some, Option.map_none, reduceCtorEq, decide_true, decide_false, Bool.not_true, Bool.not_false, cells_int, cells_bool, cells_str, cells_nilp, cells_ptr, cells_nils, cells_sl, cells_nilf, cells_clo, cells_agg, List.all_cons, List.all_nil, one_int, one_bool, one_str, one_nilp, one_ptr, one_nils, one_sl, one_nilf, one_clo, List.length_cons, List.length_nil, Bool.and_true, Bool.true_and, Bool.and_self, true_and, and_true, Bool.true_eq_false, Bool.false_eq_true, List.contains_cons, List.contains_nil, Bool.or_false, Bool.or_true, Bool.true_or, Bool.false_or, eq_self, Nat.reduceBEq, Nat.reduceAdd, Nat.mul_one, Nat.zero_add, Nat.add_zero]
      split
      · have hlt : i < xs.length := by omega
        simp only [nm_eq, ↓reduceIte, vc_skip, vc_region, vc_draw, vc_seq, vc_cond, vc_block, vc_exit, vc_ret, RV_nil, RV_q, RV_e, DV_nil, DV_q, DV_e, gq_none, gq_some, ge_none, ge_some, condK_true, condK_false, condK_dec, condK_ndec, guardK_bool, guardO_bool, ev_t, ev_c, mk_cons, put_some, put_none, qv_mv, qv_pick, qv_bin, qv_un, qv_conv, qv_nilCheck, qv_build, qv_field, qv_fieldAddr, qv_indexAddr, qv_indexStr, qv_extract, qv_len, qv_lenStr, qv_cap, qv_slice, qv_sliceStr, qv_maxmin, qv_makeFunc, qv_load, qv_rev, eff_alloc, eff_box, eff_buildSl, eff_store, aStore_ptr, eff_makeSl, aMake_int, eff_append, eff_copy, eff_call, eff_callV, aCallV_clo, abin_add, abin_sub, abin_mul, abin_quo, abin_rem, abin_eql, abin_neq, abin_lss, abin_leq, abin_gtr, abin_geq, abin_beql, abin_bneq, abin_nn, abin_sn, abin_ns, abin_nnx, abin_snx, abin_nsx, abin_str, aun_neg, aun_not, aPick_true, aPick_false, aConv_int, aNil_ptr, aNil_clo, aField_agg, aField_one, aFieldAddr_ptr, Int.toNat_natCast, rd1_new, rd_new, new_next, Nat.left_eq_add, Nat.add_eq_left, Nat.succ_ne_self, Nat.one_ne_zero, Nat.add_left_cancel_iff, Nat.add_assoc, List.getElem?_cons_zero, List.getElem?_cons_succ, List.take_succ_cons, List.take_zero, List.drop_succ_cons, List.drop_zero, List.take_nil, List.drop_nil, Nat.reduceLeDiff, Nat.le_refl, afill_nil, afill_cons, zeros_zero, zeros_one1, zeros_single, Nat.lt_add_one, Int.reduceEq, Int.reduceLT, Int.reduceLE, Int.reduceNeg, aExtract_tup, aLen_sl, aLen_nils, aLenStr_str, aMaxmin_int, ldv_one, ldv_agg, news_nil, news_cons, RecOK_nil, RecOK_none, RecOK_cons, recOf, wantedI, rvals_nil, rvals_tmp, rvals_cell, retQ_normal, retQ_ret, packR_one, packR_nil, packR_two, optK_some, optK_none, optK_bind, optK_map, List.map_cons, List.map_nil, Nat.reduceEqDiff, if_true, if_false, ite_true, ite_false, List.nil_append, List.cons_append, Option.map_some, Option.map_none, reduceCtorEq, decide_true, decide_false, Bool.not_true, Bool.not_false, cells_int, cells_bool, cells_str, cells_nilp, cells_ptr, cells_nils, cells_sl, cells_nilf, cells_clo, cells_agg, List.all_cons, List.all_nil, one_int, one_bool, one_str, one_nilp, one_ptr, one_nils, one_sl, one_nilf, one_clo, List.length_cons, List.length_nil, Bool.and_true, Bool.true_and, Bool.and_self, true_and, and_true, Bool.true_eq_false, Bool.false_eq_true, List.contains_cons, List.contains_nil, Bool.or_false, Bool.or_true, Bool.true_or, Bool.false_or, eq_self, Nat.reduceBEq, Nat.reduceAdd, Nat.mul_one, Nat.zero_add, Nat.add_zero, aIndex_nat hlt, wrapS hlt (by omega : xs.length ≤ 4611686018427387904), wrap64 (n := k + (i : Int) + 1) (by omega) (by omega)]
        have hls : i < (seqI k xs.length).length := by rw [seqI_length]; exact hlt
        rw [wr_one (set_obj_eq _ _) (by rw [ints_length]; simp [seqI_length]; omega) rfl, optK_some]
        refine ⟨_, by omega, i + 1, by omega, rfl, (by (simp only [nm_eq, ↓reduceIte, vc_skip, vc_region, vc_draw, vc_seq, vc_cond, vc_block, vc_exit, vc_ret, RV_nil, RV_q, RV_e, DV_nil, DV_q, DV_e, gq_none, gq_some, ge_none, ge_some, condK_true, condK_false, condK_dec, condK_ndec, guardK_bool, guardO_bool, ev_t, ev_c, mk_cons, put_some, put_none, qv_mv, qv_pick, qv_bin, qv_un, qv_conv, qv_nilCheck, qv_build, qv_field, qv_fieldAddr, qv_indexAddr, qv_indexStr, qv_extract, qv_len, qv_lenStr, qv_cap, qv_slice, qv_sliceStr, qv_maxmin, qv_makeFunc, qv_load, qv_rev, eff_alloc, eff_box, eff_buildSl, eff_store, aStore_ptr, eff_makeSl, aMake_int, eff_append, eff_copy, eff_call, eff_callV, aCallV_clo, abin_add, abin_sub, abin_mul, abin_quo, abin_rem, abin_eql, abin_neq, abin_lss, abin_leq, abin_gtr, abin_geq, abin_beql, abin_bneq, abin_nn, abin_sn, abin_ns, abin_nnx, abin_snx, abin_nsx, abin_str, aun_neg, aun_not, aPick_true, aPick_false, aConv_int, aNil_ptr, aNil_clo, aField_agg, aField_one, aFieldAddr_ptr, Int.toNat_natCast, rd1_new, rd_new, new_next, Nat.left_eq_add, Nat.add_eq_left, Nat.succ_ne_self, Nat.one_ne_zero, Nat.add_left_cancel_iff, Nat.add_assoc, List.getElem?_cons_zero, List.getElem?_cons_succ, List.take_succ_cons, List.take_zero, List.drop_succ_cons, List.drop_zero, List.take_nil, List.drop_nil, Nat.reduceLeDiff, Nat.le_refl, afill_nil, afill_cons, zeros_zero, zeros_one1, zeros_single, Nat.lt_add_one, Int.reduceEq, Int.reduceLT, Int.reduceLE, Int.reduceNeg, aExtract_tup, aLen_sl, aLen_nils, aLenStr_str, aMaxmin_int, ldv_one, ldv_agg, news_nil, news_cons, RecOK_nil, RecOK_none, RecOK_cons, recOf, wantedI, rvals_nil, rvals_tmp, rvals_cell, retQ_normal, retQ_ret, packR_one, packR_nil, packR_two, optK_some, optK_none, optK_bind, optK_map, List.map_cons, List.map_nil, Nat.reduceEqDiff, if_true, if_false, ite_true, ite_false, List.nil_append, List.cons_append, Option.map_some, Option.map_none, reduceCtorEq, decide_true, decide_false, Bool.not_true, Bool.not_false, cells_int, cells_bool, cells_str, cells_nilp, cells_ptr, cells_nils, cells_sl, cells_nilf, cells_clo, cells_agg, List.all_cons, List.all_nil, one_int, one_bool, one_str, one_nilp, one_ptr, one_nils, one_sl, one_nilf, one_clo, List.length_cons, List.length_nil, Bool.and_true, Bool.true_and, Bool.and_self, true_and, and_true, Bool.true_eq_false, Bool.false_eq_true, List.contains_cons, List.contains_nil, Bool.or_false, Bool.or_true, Bool.true_or, Bool.false_or, eq_self, Nat.reduceBEq, Nat.reduceAdd, Nat.mul_one, Nat.zero_add, Nat.add_zero, List.cons.injEq, AV.int.injEq, AV.sl.injEq, and_self]) <;> omega), ?_⟩
        rw [set_set, ints_set, ← mix_set _ _ hlt hls, seqI_get]
      · have hie : i = xs.length := by omega
        subst hie
        rw [List.take_of_length_le (by rw [seqI_length]; exact Nat.le_refl _), List.drop_length, List.append_nil]
        have hlt := hw.lt ho
        refine hk _ ⟨Nat.le_refl _, hw.set hlt _, fun x hx hn => set_obj_ne (fun e => ?_) _, fun x ms hx => ?_⟩
        · subst e
          rw [mkI, if_neg hne] at hn
          simp [aof] at hn
        · rw [mkI, if_neg hne] at hx
          simp only [List.lookup_cons, List.lookup_nil, aof] at hx
          split at hx
          · rename_i hxo
            cases hx
            have hxo : x = o := by simpa using hxo
            subst hxo
            refine ⟨?_, pis_flat _, pis_ne fun e => ?_, _, ho', by rw [ints_length, pis_length, seqI_length]⟩
            · rw [set_obj_eq, ers_map]; congr 2; simp only [pis, ints, List.map_map]; rfl
            · have := seqI_length xs.length k
              rw [e] at this
              exact hne (List.eq_nil_of_length_eq_zero this.symm)
          · cases hx
theorem markInt64SS_A {v : PV} {xs : List (List Int)} {k : Int} (hI : FII v xs) (hW : Wh v) (hnd : (ead v).Nodup) (hw : HWF h) (hv : VOK (zlt h) h 0 v) (hb : xs.length ≤ 4294967296) (hb2 : ∀ x ∈ xs, x.length ≤ 4294967296) (hk0 : 0 ≤ k) (hk1 : k + totL List.length xs ≤ 2305843009213693952)
    (hk : ∀ h', Upd h (mkF mkI List.length k v xs) h' → K (.int .i64 (k + totL List.length xs)) h') : ACalls Try.prog 38 [er idz v, .int .i64 k] h K := by
  refine acalls_of_vc mix Try.func38 cf38 rfl ?_
  dsimp only [if38]
  obtain ⟨w, a, rows, rfl, hr⟩ := hI
  by_cases hne : rows = []
  · have hx := hr.nil_iff.1 hne
    subst hne
    subst hx
    have hlen : aLen a = some (.int .i64 ((0 : Nat) : Int)) := by
      obtain ⟨rfl, _⟩ | ⟨o, off, cap, rfl, _⟩ := hv.1 <;> rfl
    simp only [nm_eq, ↓reduceIte, vc_skip, vc_region, vc_draw, vc_seq, vc_cond, vc_block, vc_exit, vc_ret, RV_nil, RV_q, RV_e, DV_nil, DV_q, DV_e, gq_none, gq_some, ge_none, ge_some, condK_true, condK_false, condK_dec, condK_ndec, guardK_bool, guardO_bool, ev_t, ev_c, mk_cons, put_some, put_none, qv_mv, qv_pick, qv_bin, qv_un, qv_conv, qv_nilCheck, qv_build, qv_field, qv_fieldAddr, qv_indexAddr, qv_indexStr, qv_extract, qv_len, qv_lenStr, qv_cap, qv_slice, qv_sliceStr, qv_maxmin, qv_makeFunc, qv_load, qv_rev, eff_alloc, eff_box, eff_buildSl, eff_store, aStore_ptr, eff_makeSl, aMake_int, eff_append, eff_copy, eff_call, eff_callV, aCallV_clo, abin_add, abin_sub, abin_mul, abin_quo, abin_rem, abin_eql, abin_neq, abin_lss, abin_leq, abin_gtr, abin_geq, abin_beql, abin_bneq, abin_nn, abin_sn, abin_ns, abin_nnx, abin_snx, abin_nsx, abin_str, aun_neg, aun_not, aPick_true, aPick_false, aConv_int, aNil_ptr, aNil_clo, aField_agg, aField_one, aFieldAddr_ptr, Int.toNat_natCast, rd1_new, rd_new, new_next, Nat.left_eq_add, Nat.add_eq_left, Nat.succ_ne_self, Nat.one_ne_zero, Nat.add_left_cancel_iff, Nat.add_assoc, List.getElem?_cons_zero, List.getElem?_cons_succ, List.take_succ_cons, List.take_zero, List.drop_succ_cons, List.drop_zero, List.take_nil, List.drop_nil, Nat.reduceLeDiff, Nat.le_refl, afill_nil, afill_cons, zeros_zero, zeros_one1, zeros_single, Nat.lt_add_one, Int.reduceEq, Int.reduceLT, Int.reduceLE, Int.reduceNeg, aExtract_tup, aLen_sl, aLen_nils, aLenStr_str, aMaxmin_int, ldv_one, ldv_agg, news_nil, news_cons, RecOK_nil, RecOK_none, RecOK_cons, recOf, wantedI, rvals_nil, rvals_tmp, rvals_cell, retQ_normal, retQ_ret, packR_one, packR_nil, packR_two, optK_some, optK_none, optK_bind, optK_map, List.map_cons, List.map_nil, Nat.reduceEqDiff, if_true, if_false, ite_true, ite_false, List.nil_append, List.cons_append, Option.map_some, Option.map_none, reduceCtorEq, decide_true, decide_false, Bool.not_true, Bool.not_false, cells_int, cells_bool, cells_str, cells_nilp, cells_ptr, cells_nils, cells_sl, cells_nilf, cells_clo, cells_agg, List.all_cons, List.all_nil, one_int, one_bool, one_str, one_nilp, one_ptr, one_nils, one_sl, one_nilf, one_clo, List.length_cons, List.length_nil, Bool.and_true, Bool.true_and, Bool.and_self, true_and, and_true, Bool.true_eq_false, Bool.false_eq_true, List.contains_cons, List.contains_nil, Bool.or_false, Bool.or_true, Bool.true_or, Bool.false_or, eq_self, Nat.reduceBEq, Nat.reduceAdd, Nat.mul_one, Nat.zero_add, Nat.add_zero, er]
    refine vc_loop (fun m vs h' => vs = [a, .int .i64 k, .int .i64 0] ∧ h' = h) 0 ⟨rfl, rfl⟩ ?_
    rintro m vs h' ⟨rfl, rfl⟩
    simp only [nm_eq, ↓reduceIte, vc_skip, vc_region, vc_draw, vc_seq, vc_cond, vc_block, vc_exit, vc_ret, RV_nil, RV_q, RV_e, DV_nil, DV_q, DV_e, gq_none, gq_some, ge_none, ge_some, condK_true, condK_false, condK_dec, condK_ndec, guardK_bool, guardO_bool, ev_t, ev_c, mk_cons, put_some, put_none, qv_mv, qv_pick, qv_bin, qv_un, qv_conv, qv_nilCheck, qv_build, qv_field, qv_fieldAddr, qv_indexAddr, qv_indexStr, qv_extract, qv_len, qv_lenStr, qv_cap, qv_slice, qv_sliceStr, qv_maxmin, qv_makeFunc, qv_load, qv_rev, eff_alloc, eff_box, eff_buildSl, eff_store, aStore_ptr, eff_makeSl, aMake_int, eff_append, eff_copy, eff_call, eff_callV, aCallV_clo, abin_add, abin_sub, abin_mul, abin_quo, abin_rem, abin_eql, abin_neq, abin_lss, abin_leq, abin_gtr, abin_geq, abin_beql, abin_bneq, abin_nn, abin_sn, abin_ns, abin_nnx, abin_snx, abin_nsx, abin_str, aun_neg, aun_not, aPick_true, aPick_false, aConv_int, aNil_ptr, aNil_clo, aField_agg, aField_one, aFieldAddr_ptr, Int.toNat_natCast, rd1_new, rd_new, new_next, Nat.left_eq_add, Nat.add_eq_left, Nat.succ_ne_self, Nat.one_ne_zero, Nat.add_left_cancel_iff, Nat.add_assoc, List.getElem?_cons_zero, List.getElem?_cons_succ, List.take_succ_cons, List.take_zero, List.drop_succ_cons, List.drop_zero, List.take_nil, List.drop_nil, Nat.reduceLeDiff, Nat.le_refl, afill_nil, afill_cons, zeros_zero, zeros_one1, zeros_single, Nat.lt_add_one, Int.reduceEq, Int.reduceLT, Int.reduceLE, Int.reduceNeg, aExtract_tup, aLen_sl, aLen_nils, aLenStr_str, aMaxmin_int, ldv_one, ldv_agg, news_nil, news_cons, RecOK_nil, RecOK_none, RecOK_cons, recOf, wantedI, rvals_nil, rvals_tmp, rvals_cell, retQ_normal, retQ_ret, packR_one, packR_nil, packR_two, optK_some, optK_none, optK_bind, optK_map, List.map_cons, List.map_nil, Nat.reduceEqDiff, if_true, if_false, ite_true, ite_false, List.nil_append, List.cons_append, Option.map_some, Option.map_none, reduceCtorEq, decide_true, decide_false, Bool.not_true, Bool.not_false, cells_int, cells_bool, cells_str, cells_nilp, cells_ptr, cells_nils, cells_sl, cells_nilf, cells_clo, cells_agg, List.all_cons, List.all_nil, one_int, one_bool, one_str, one_nilp, one_ptr, one_nils, one_sl, one_nilf, one_clo, List.length_cons, List.length_nil, Bool.and_true, Bool.true_and, Bool.and_self, true_and, and_true, Bool.true_eq_false, Bool.false_eq_true, List.contains_cons, List.contains_nil, Bool.or_false, Bool.or_true, Bool.true_or, Bool.false_or, eq_self, Nat.reduceBEq, Nat.reduceAdd, Nat.mul_one, Nat.zero_add, Nat.add_zero, hlen, Int.lt_irrefl]
    have := hk h' (Upd.refl hw)
    simpa [totL] using this
  · obtain ⟨hwt, _, hWs⟩ := hW.resolve_left hne
    obtain ⟨o, cap, rfl, ho, hz⟩ := hv.whole hwt hne
    rw [ead_fz hne] at hnd
    obtain ⟨n1, n2⟩ := List.nodup_cons.1 hnd
    simp only [nm_eq, ↓reduceIte, vc_skip, vc_region, vc_draw, vc_seq, vc_cond, vc_block, vc_exit, vc_ret, RV_nil, RV_q, RV_e, DV_nil, DV_q, DV_e, gq_none, gq_some, ge_none, ge_some, condK_true, condK_false, condK_dec, condK_ndec, guardK_bool, guardO_bool, ev_t, ev_c, mk_cons, put_some, put_none, qv_mv, qv_pick, qv_bin, qv_un, qv_conv, qv_nilCheck, qv_build, qv_field, qv_fieldAddr, qv_indexAddr, qv_indexStr, qv_extract, qv_len, qv_lenStr, qv_cap, qv_slice, qv_sliceStr, qv_maxmin, qv_makeFunc, qv_load, qv_rev, eff_alloc, eff_box, eff_buildSl, eff_store, aStore_ptr, eff_makeSl, aMake_int, eff_append, eff_copy, eff_call, eff_callV, aCallV_clo, abin_add, abin_sub, abin_mul, abin_quo, abin_rem, abin_eql, abin_neq, abin_lss, abin_leq, abin_gtr, abin_geq, abin_beql, abin_bneq, abin_nn, abin_sn, abin_ns, abin_nnx, abin_snx, abin_nsx, abin_str, aun_neg, aun_not, aPick_true, aPick_false, aConv_int, aNil_ptr, aNil_clo, aField_agg, aField_one, aFieldAddr_ptr, Int.toNat_natCast, rd1_new, rd_new, new_next, Nat.left_eq_add, Nat.add_eq_left, Nat.succ_ne_self, Nat.one_ne_zero, Nat.add_left_cancel_iff, Nat.add_assoc, List.getElem?_cons_zero, List.getElem?_cons_succ, List.take_succ_cons, List.take_zero, List.drop_succ_cons, List.drop_zero, List.take_nil, List.drop_nil, Nat.reduceLeDiff, Nat.le_refl, afill_nil, afill_cons, zeros_zero, zeros_one1, zeros_single, Nat.lt_add_one, Int.reduceEq, Int.reduceLT, Int.reduceLE, Int.reduceNeg, aExtract_tup, aLen_sl, aLen_nils, aLenStr_str, aMaxmin_int, ldv_one, ldv_agg, news_nil, news_cons, RecOK_nil, RecOK_none, RecOK_cons, recOf, wantedI, rvals_nil, rvals_tmp, rvals_cell, retQ_normal, retQ_ret, packR_one, packR_nil, packR_two, optK_some, optK_none, optK_bind, optK_map, List.map_cons, List.map_nil, Nat.reduceEqDiff, if_true, if_false, ite_true, ite_false, List.nil_append, List.cons_append, Option.map_some, Option.map_none, reduceCtorEq, decide_true, decide_false, Bool.not_true, Bool.not_false, cells_int, cells_bool, cells_str, cells_nilp, cells_ptr, cells_nils, cells_sl, cells_nilf, cells_clo, cells_agg, List.all_cons, List.all_nil, one_int, one_bool, one_str, one_nilp, one_ptr, one_nils, one_sl, one_nilf, one_clo, List.length_cons, List.length_nil, Bool.and_true, Bool.true_and, Bool.and_self, true_and, and_true, Bool.true_eq_false, Bool.false_eq_true, List.contains_cons, List.contains_nil, Bool.or_false, Bool.or_true, Bool.true_or, Bool.false_or, eq_self, Nat.reduceBEq, Nat.reduceAdd, Nat.mul_one, Nat.zero_add, Nat.add_zero, er]
    refine vc_loop (fun m vs h' => ∃ i : Nat, i ≤ xs.length ∧ m = xs.length - i ∧ vs = [.sl o 0 xs.length cap, .int .i64 (k + totL List.length (xs.take i)), .int .i64 i] ∧ Upd h (mkS mkI List.length k (rows.take i) (xs.take i)) h') xs.length ?_ ?_
    · exact ⟨0, by omega, by omega, by rw [List.take_zero, totL_nil]; exact (by (simp only [nm_eq, ↓reduceIte, vc_skip, vc_region, vc_draw, vc_seq, vc_cond, vc_block, vc_exit, vc_ret, RV_nil, RV_q, RV_e, DV_nil, DV_q, DV_e, gq_none, gq_some, ge_none, ge_some, condK_true, condK_false, condK_dec, condK_ndec, guardK_bool, guardO_bool, ev_t, ev_c, mk_cons, put_some, put_none, qv_mv, qv_pick, qv_bin, qv_un, qv_conv, qv_nilCheck, qv_build, qv_field, qv_fieldAddr, qv_indexAddr, qv_indexStr, qv_extract, qv_len, qv_lenStr, qv_cap, qv_slice, qv_sliceStr, qv_maxmin, qv_makeFunc, qv_load, qv_rev, eff_alloc, eff_box, eff_buildSl, eff_store, aStore_ptr, eff_makeSl, aMake_int, eff_append, eff_copy, eff_call, eff_callV, aCallV_clo, abin_add, abin_sub, abin_mul, abin_quo, abin_rem, abin_eql, abin_neq, abin_lss, abin_leq, abin_gtr, abin_geq, abin_beql, abin_bneq, abin_nn, abin_sn, abin_ns, abin_nnx, abin_snx, abin_nsx, abin_str, aun_neg, aun_not, aPick_true, aPick_false, aConv_int, aNil_ptr, aNil_clo, aField_agg, aField_one, aFieldAddr_ptr, Int.toNat_natCast, rd1_new, rd_new, new_next, Nat.left_eq_add, Nat.add_eq_left, Nat.succ_ne_self, Nat.one_ne_zero, Nat.add_left_cancel_iff, Nat.add_assoc, List.getElem?_cons_zero, List.getElem?_cons_succ, List.take_succ_cons, List.take_zero, List.drop_succ_cons, List.drop_zero, List.take_nil, List.drop_nil, Nat.reduceLeDiff, Nat.le_refl, afill_nil, afill_cons, zeros_zero, zeros_one1, zeros_single, Nat.lt_add_one, Int.reduceEq, Int.reduceLT, Int.reduceLE, Int.reduceNeg, aExtract_tup, aLen_sl, aLen_nils, aLenStr_str, aMaxmin_int, ldv_one, ldv_agg, news_nil, news_cons, RecOK_nil, RecOK_none, RecOK_cons, recOf, wantedI, rvals_nil, rvals_tmp, rvals_cell, retQ_normal, retQ_ret, packR_one, packR_nil, packR_two, optK_some, optK_none, optK_bind, optK_map, List.map_cons, List.map_nil, Nat.reduceEqDiff, if_true, if_false, ite_true, ite_false, List.nil_append, List.cons_append, Option.map_some, Option.map_none, reduceCtorEq, decide_true, decide_false, Bool.not_true, Bool.not_false, cells_int, cells_bool, cells_str, cells_nilp, cells_ptr, cells_nils, cells_sl, cells_nilf, cells_clo, cells_agg, List.all_cons, List.all_nil, one_int, one_bool, one_str, one_nilp, one_ptr, one_nils, one_sl, one_nilf, one_clo, List.length_cons, List.length_nil, Bool.and_true, Bool.true_and, Bool.and_self, true_and, and_true, Bool.true_eq_false, Bool.false_eq_true, List.contains_cons, List.contains_nil, Bool.or_false, Bool.or_true, Bool.true_or, Bool.false_or, eq_self, Nat.reduceBEq, Nat.reduceAdd, Nat.mul_one, Nat.zero_add, Nat.add_zero, List.cons.injEq, AV.int.injEq, AV.sl.injEq, and_self]) <;> omega), by simp only [List.take_zero, mkS_nil]; exact Upd.refl hw⟩
    · rintro m vs h' ⟨i, hi, rfl, rfl, u⟩
      simp only [nm_eq, ↓reduceIte, vc_skip, vc_region, vc_draw, vc_seq, vc_cond, vc_block, vc_exit, vc_ret, RV_nil, RV_q, RV_e, DV_nil, DV_q, DV_e, gq_none, gq_some, ge_none, ge_some, condK_true, condK_false, condK_dec, condK_ndec, guardK_bool, guardO_bool, ev_t, ev_c, mk_cons, put_some, put_none, qv_mv, qv_pick, qv_bin, qv_un, qv_conv, qv_nilCheck, qv_build, qv_field, qv_fieldAddr, qv_indexAddr, qv_indexStr, qv_extract, qv_len, qv_lenStr, qv_cap, qv_slice, qv_sliceStr, qv_maxmin, qv_makeFunc, qv_load, qv_rev, eff_alloc, eff_box, eff_buildSl, eff_store, aStore_ptr, eff_makeSl, aMake_int, eff_append, eff_copy, eff_call, eff_callV, aCallV_clo, abin_add, abin_sub, abin_mul, abin_quo, abin_rem, abin_eql, abin_neq, abin_lss, abin_leq, abin_gtr, abin_geq, abin_beql, abin_bneq, abin_nn, abin_sn, abin_ns, abin_nnx, abin_snx, abin_nsx, abin_str, aun_neg, aun_not, aPick_true, aPick_false, aConv_int, aNil_ptr, aNil_clo, aField_agg, aField_one, aFieldAddr_ptr, Int.toNat_natCast, rd1_new, rd_new, new_next, Nat.left_eq_add, Nat.add_eq_left, Nat.succ_ne_self, Nat.one_ne_zero, Nat.add_left_cancel_iff, Nat.add_assoc, List.getElem?_cons_zero, List.getElem?_cons_succ, List.take_succ_cons, List.take_zero, List.drop_succ_cons, List.drop_zero, List.take_nil, List.drop_nil, Nat.reduceLeDiff, Nat.le_refl, afill_nil, afill_cons, zeros_zero, zeros_one1, zeros_single, Nat.lt_add_one, Int.reduceEq, Int.reduceLT, Int.reduceLE, Int.reduceNeg, aExtract_tup, aLen_sl, aLen_nils, aLenStr_str, aMaxmin_int, ldv_one, ldv_agg, news_nil, news_cons, RecOK_nil, RecOK_none, RecOK_cons, recOf, wantedI, rvals_nil, rvals_tmp, rvals_cell, retQ_normal, retQ_ret, packR_one, packR_nil, packR_two, optK_some, optK_none, optK_bind, optK_map, List.map_cons, List.map_nil, Nat.reduceEqDiff, if_true, if_false, ite_true, ite_false, List.nil_append, List.cons_append, Option.map_some, Option.map_none, reduceCtorEq, decide_true, decide_false, Bool.not_true, Bool.not_false, cells_int, cells_bool, cells_str, cells_nilp, cells_ptr, cells_nils, cells_sl, cells_nilf, cells_clo, cells_agg, List.all_cons, List.all_nil, one_int, one_bool, one_str, one_nilp, one_ptr, one_nils, one_sl, one_nilf, one_clo, List.length_cons, List.length_nil, Bool.and_true, Bool.true_and, Bool.and_self, true_and, and_true, Bool.true_eq_false, Bool.false_eq_true, List.contains_cons, List.contains_nil, Bool.or_false, Bool.or_true, Bool.true_or, Bool.false_or, eq_self, Nat.reduceBEq, Nat.reduceAdd, Nat.mul_one, Nat.zero_add, Nat.add_zero]
      split
      · have hlt : i < xs.length := by omega
        obtain ⟨v, hv1, hv2, hv3, hv4, hv5, hv6⟩ := mkT_I.step hr hWs n2 hv.2 hlt u
        have hld : h'.rd1 o i = some (er idz v) := by
          rw [rd1_of_obj (by rw [u.same o hz (lookup_none.2 fun hm => n1 (eads_take (mkT_I.keysS (hr.take i) (Whs_iff.2 fun c hc => Whs_iff.1 hWs c (List.mem_of_mem_take hc)) o hm)))]; exact ho)]
          rw [ers_get, hv1]; rfl
        have ht := totL_snoc (len := List.length) hlt
        have htl := totL_le List.length xs (i + 1)
        have hbi := hb2 _ (List.getElem_mem hlt)
        simp only [nm_eq, ↓reduceIte, vc_skip, vc_region, vc_draw, vc_seq, vc_cond, vc_block, vc_exit, vc_ret, RV_nil, RV_q, RV_e, DV_nil, DV_q, DV_e, gq_none, gq_some, ge_none, ge_some, condK_true, condK_false, condK_dec, condK_ndec, guardK_bool, guardO_bool, ev_t, ev_c, mk_cons, put_some, put_none, qv_mv, qv_pick, qv_bin, qv_un, qv_conv, qv_nilCheck, qv_build, qv_field, qv_fieldAddr, qv_indexAddr, qv_indexStr, qv_extract, qv_len, qv_lenStr, qv_cap, qv_slice, qv_sliceStr, qv_maxmin, qv_makeFunc, qv_load, qv_rev, eff_alloc, eff_box, eff_buildSl, eff_store, aStore_ptr, eff_makeSl, aMake_int, eff_append, eff_copy, eff_call, eff_callV, aCallV_clo, abin_add, abin_sub, abin_mul, abin_quo, abin_rem, abin_eql, abin_neq, abin_lss, abin_leq, abin_gtr, abin_geq, abin_beql, abin_bneq, abin_nn, abin_sn, abin_ns, abin_nnx, abin_snx, abin_nsx, abin_str, aun_neg, aun_not, aPick_true, aPick_false, aConv_int, aNil_ptr, aNil_clo, aField_agg, aField_one, aFieldAddr_ptr, Int.toNat_natCast, rd1_new, rd_new, new_next, Nat.left_eq_add, Nat.add_eq_left, Nat.succ_ne_self, Nat.one_ne_zero, Nat.add_left_cancel_iff, Nat.add_assoc, List.getElem?_cons_zero, List.getElem?_cons_succ, List.take_succ_cons, List.take_zero, List.drop_succ_cons, List.drop_zero, List.take_nil, List.drop_nil, Nat.reduceLeDiff, Nat.le_refl, afill_nil, afill_cons, zeros_zero, zeros_one1, zeros_single, Nat.lt_add_one, Int.reduceEq, Int.reduceLT, Int.reduceLE, Int.reduceNeg, aExtract_tup, aLen_sl, aLen_nils, aLenStr_str, aMaxmin_int, ldv_one, ldv_agg, news_nil, news_cons, RecOK_nil, RecOK_none, RecOK_cons, recOf, wantedI, rvals_nil, rvals_tmp, rvals_cell, retQ_normal, retQ_ret, packR_one, packR_nil, packR_two, optK_some, optK_none, optK_bind, optK_map, List.map_cons, List.map_nil, Nat.reduceEqDiff, if_true, if_false, ite_true, ite_false, List.nil_append, List.cons_append, Option.map_some, Option.map_none, reduceCtorEq, decide_true, decide_false, Bool.not_true, Bool.not_false, cells_int, cells_bool, cells_str, cells_nilp, cells_ptr, cells_nils, cells_sl, cells_nilf, cells_clo, cells_agg, List.all_cons, List.all_nil, one_int, one_bool, one_str, one_nilp, one_ptr, one_nils, one_sl, one_nilf, one_clo, List.length_cons, List.length_nil, Bool.and_true, Bool.true_and, Bool.and_self, true_and, and_true, Bool.true_eq_false, Bool.false_eq_true, List.contains_cons, List.contains_nil, Bool.or_false, Bool.or_true, Bool.true_or, Bool.false_or, eq_self, Nat.reduceBEq, Nat.reduceAdd, Nat.mul_one, Nat.zero_add, Nat.add_zero, aIndex_nat hlt, hld, wrapS hlt (by omega : xs.length ≤ 4611686018427387904)]
        refine markInt64S_A hv2 hv3 u.wf hv5 hbi (by omega) (by omega) fun h'' u' => ?_
        simp only [nm_eq, ↓reduceIte, vc_skip, vc_region, vc_draw, vc_seq, vc_cond, vc_block, vc_exit, vc_ret, RV_nil, RV_q, RV_e, DV_nil, DV_q, DV_e, gq_none, gq_some, ge_none, ge_some, condK_true, condK_false, condK_dec, condK_ndec, guardK_bool, guardO_bool, ev_t, ev_c, mk_cons, put_some, put_none, qv_mv, qv_pick, qv_bin, qv_un, qv_conv, qv_nilCheck, qv_build, qv_field, qv_fieldAddr, qv_indexAddr, qv_indexStr, qv_extract, qv_len, qv_lenStr, qv_cap, qv_slice, qv_sliceStr, qv_maxmin, qv_makeFunc, qv_load, qv_rev, eff_alloc, eff_box, eff_buildSl, eff_store, aStore_ptr, eff_makeSl, aMake_int, eff_append, eff_copy, eff_call, eff_callV, aCallV_clo, abin_add, abin_sub, abin_mul, abin_quo, abin_rem, abin_eql, abin_neq, abin_lss, abin_leq, abin_gtr, abin_geq, abin_beql, abin_bneq, abin_nn, abin_sn, abin_ns, abin_nnx, abin_snx, abin_nsx, abin_str, aun_neg, aun_not, aPick_true, aPick_false, aConv_int, aNil_ptr, aNil_clo, aField_agg, aField_one, aFieldAddr_ptr, Int.toNat_natCast, rd1_new, rd_new, new_next, Nat.left_eq_add, Nat.add_eq_left, Nat.succ_ne_self, Nat.one_ne_zero, Nat.add_left_cancel_iff, Nat.add_assoc, List.getElem?_cons_zero, List.getElem?_cons_succ, List.take_succ_cons, List.take_zero, List.drop_succ_cons, List.drop_zero, List.take_nil, List.drop_nil, Nat.reduceLeDiff, Nat.le_refl, afill_nil, afill_cons, zeros_zero, zeros_one1, zeros_single, Nat.lt_add_one, Int.reduceEq, Int.reduceLT, Int.reduceLE, Int.reduceNeg, aExtract_tup, aLen_sl, aLen_nils, aLenStr_str, aMaxmin_int, ldv_one, ldv_agg, news_nil, news_cons, RecOK_nil, RecOK_none, RecOK_cons, recOf, wantedI, rvals_nil, rvals_tmp, rvals_cell, retQ_normal, retQ_ret, packR_one, packR_nil, packR_two, optK_some, optK_none, optK_bind, optK_map, List.map_cons, List.map_nil, Nat.reduceEqDiff, if_true, if_false, ite_true, ite_false, List.nil_append, List.cons_append, Option.map_some, Option.map_none, reduceCtorEq, decide_true, decide_false, Bool.not_true, Bool.not_false, cells_int, cells_bool, cells_str, cells_nilp, cells_ptr, cells_nils, cells_sl, cells_nilf, cells_clo, cells_agg, List.all_cons, List.all_nil, one_int, one_bool, one_str, one_nilp, one_ptr, one_nils, one_sl, one_nilf, one_clo, List.length_cons, List.length_nil, Bool.and_true, Bool.true_and, Bool.and_self, true_and, and_true, Bool.true_eq_false, Bool.false_eq_true, List.contains_cons, List.contains_nil, Bool.or_false, Bool.or_true, Bool.true_or, Bool.false_or, eq_self, Nat.reduceBEq, Nat.reduceAdd, Nat.mul_one, Nat.zero_add, Nat.add_zero, wrapS hlt (by omega : xs.length ≤ 4611686018427387904)]
        exact ⟨_, by omega, i + 1, by omega, rfl, (by (simp only [nm_eq, ↓reduceIte, vc_skip, vc_region, vc_draw, vc_seq, vc_cond, vc_block, vc_exit, vc_ret, RV_nil, RV_q, RV_e, DV_nil, DV_q, DV_e, gq_none, gq_some, ge_none, ge_some, condK_true, condK_false, condK_dec, condK_ndec, guardK_bool, guardO_bool, ev_t, ev_c, mk_cons, put_some, put_none, qv_mv, qv_pick, qv_bin, qv_un, qv_conv, qv_nilCheck, qv_build, qv_field, qv_fieldAddr, qv_indexAddr, qv_indexStr, qv_extract, qv_len, qv_lenStr, qv_cap, qv_slice, qv_sliceStr, qv_maxmin, qv_makeFunc, qv_load, qv_rev, eff_alloc, eff_box, eff_buildSl, eff_store, aStore_ptr, eff_makeSl, aMake_int, eff_append, eff_copy, eff_call, eff_callV, aCallV_clo, abin_add, abin_sub, abin_mul, abin_quo, abin_rem, abin_eql, abin_neq, abin_lss, abin_leq, abin_gtr, abin_geq, abin_beql, abin_bneq, abin_nn, abin_sn, abin_ns, abin_nnx, abin_snx, abin_nsx, abin_str, aun_neg, aun_not, aPick_true, aPick_false, aConv_int, aNil_ptr, aNil_clo, aField_agg, aField_one, aFieldAddr_ptr, Int.toNat_natCast, rd1_new, rd_new, new_next, Nat.left_eq_add, Nat.add_eq_left, Nat.succ_ne_self, Nat.one_ne_zero, Nat.add_left_cancel_iff, Nat.add_assoc, List.getElem?_cons_zero, List.getElem?_cons_succ, List.take_succ_cons, List.take_zero, List.drop_succ_cons, List.drop_zero, List.take_nil, List.drop_nil, Nat.reduceLeDiff, Nat.le_refl, afill_nil, afill_cons, zeros_zero, zeros_one1, zeros_single, Nat.lt_add_one, Int.reduceEq, Int.reduceLT, Int.reduceLE, Int.reduceNeg, aExtract_tup, aLen_sl, aLen_nils, aLenStr_str, aMaxmin_int, ldv_one, ldv_agg, news_nil, news_cons, RecOK_nil, RecOK_none, RecOK_cons, recOf, wantedI, rvals_nil, rvals_tmp, rvals_cell, retQ_normal, retQ_ret, packR_one, packR_nil, packR_two, optK_some, optK_none, optK_bind, optK_map, List.map_cons, List.map_nil, Nat.reduceEqDiff, if_true, if_false, ite_true, ite_false, List.nil_append, List.cons_append, Option.map_some, Option.map_none, reduceCtorEq, decide_true, decide_false, Bool.not_true, Bool.not_false, cells_int, cells_bool, cells_str, cells_nilp, cells_ptr, cells_nils, cells_sl, cells_nilf, cells_clo, cells_agg, List.all_cons, List.all_nil, one_int, one_bool, one_str, one_nilp, one_ptr, one_nils, one_sl, one_nilf, one_clo, List.length_cons, List.length_nil, Bool.and_true, Bool.true_and, Bool.and_self, true_and, and_true, Bool.true_eq_false, Bool.false_eq_true, List.contains_cons, List.contains_nil, Bool.or_false, Bool.or_true, Bool.true_or, Bool.false_or, eq_self, Nat.reduceBEq, Nat.reduceAdd, Nat.mul_one, Nat.zero_add, Nat.add_zero, List.cons.injEq, AV.int.injEq, AV.sl.injEq, and_self]) <;> omega), hv6 _ u'⟩
      · have hie : i = xs.length := by omega
        subst hie
        rw [List.take_length, List.take_of_length_le (by rw [hr.1]; exact Nat.le_refl _)] at u
        rw [List.take_length]
        exact hk _ u
theorem markInt64SSS_A {v : PV} {xs : List (List (List Int))} {k : Int} (hI : FIII v xs) (hW : Wh v) (hnd : (ead v).Nodup) (hw : HWF h) (hv : VOK (zlt h) h 0 v) (hb : xs.length ≤ 4294967296) (hb2 : ∀ x ∈ xs, x.length ≤ 4294967296 ∧ ∀ y ∈ x, y.length ≤ 4294967296) (hk0 : 0 ≤ k) (hk1 : k + totL (totL List.length) xs ≤ 2305843009213693952)
    (hk : ∀ h', Upd h (mkF (mkF mkI List.length) (totL List.length) k v xs) h' → K (.int .i64 (k + totL (totL List.length) xs)) h') : ACalls Try.prog 72 [er idz v, .int .i64 k] h K := by
  refine acalls_of_vc mix Try.func72 cf72 rfl ?_
  dsimp only [if72]
  obtain ⟨w, a, rows, rfl, hr⟩ := hI
  by_cases hne : rows = []
  · have hx := hr.nil_iff.1 hne
    subst hne
    subst hx
    have hlen : aLen a = some (.int .i64 ((0 : Nat) : Int)) := by
      obtain ⟨rfl, _⟩ | ⟨o, off, cap, rfl, _⟩ := hv.1 <;> rfl
    simp only [nm_eq, ↓reduceIte, vc_skip, vc_region, vc_draw, vc_seq, vc_cond, vc_block, vc_exit, vc_ret, RV_nil, RV_q, RV_e, DV_nil, DV_q, DV_e, gq_none, gq_some, ge_none, ge_some, condK_true, condK_false, condK_dec, condK_ndec, guardK_bool, guardO_bool, ev_t, ev_c, mk_cons, put_some, put_none, qv_mv, qv_pick, qv_bin, qv_un, qv_conv, qv_nilCheck, qv_build, qv_field, qv_fieldAddr, qv_indexAddr, qv_indexStr, qv_extract, qv_len, qv_lenStr, qv_cap, qv_slice, qv_sliceStr, qv_maxmin, qv_makeFunc, qv_load, qv_rev, eff_alloc, eff_box, eff_buildSl, eff_store, aStore_ptr, eff_makeSl, aMake_int, eff_append, eff_copy, eff_call, eff_callV, aCallV_clo, abin_add, abin_sub, abin_mul, abin_quo, abin_rem, abin_eql, abin_neq, abin_lss, abin_leq, abin_gtr, abin_geq, abin_beql, abin_bneq, abin_nn, abin_sn, abin_ns, abin_nnx, abin_snx, abin_nsx, abin_str, aun_neg, aun_not, aPick_true, aPick_false, aConv_int, aNil_ptr, aNil_clo, aField_agg, aField_one, aFieldAddr_ptr, Int.toNat_natCast, rd1_new, rd_new, new_next, Nat.left_eq_add, Nat.add_eq_left, Nat.succ_ne_self, Nat.one_ne_zero, Nat.add_left_cancel_iff, Nat.add_assoc, List.getElem?_cons_zero, List.getElem?_cons_succ, List.take_succ_cons, List.take_zero, List.drop_succ_cons, List.drop_zero, List.take_nil, List.drop_nil, Nat.reduceLeDiff, Nat.le_refl, afill_nil, afill_cons, zeros_zero, zeros_one1, zeros_single, Nat.lt_add_one, Int.reduceEq, Int.reduceLT, Int.reduceLE, Int.reduceNeg, aExtract_tup, aLen_sl, aLen_nils, aLenStr_str, aMaxmin_int, ldv_one, ldv_agg, news_nil, news_cons, RecOK_nil, RecOK_none, RecOK_cons, recOf, wantedI, rvals_nil, rvals_tmp, rvals_cell, retQ_normal, retQ_ret, packR_one, packR_nil, packR_two, optK_some, optK_none, optK_bind, optK_map, List.map_cons, List.map_nil, Nat.reduceEqDiff, if_true, if_false, ite_true, ite_false, List.nil_append, List.cons_append, Option.map_some, Option.map_none, reduceCtorEq, decide_true, decide_false, Bool.not_true, Bool.not_false, cells_int, cells_bool, cells_str, cells_nilp, cells_ptr, cells_nils, cells_sl, cells_nilf, cells_clo, cells_agg, List.all_cons, List.all_nil, one_int, one_bool, one_str, one_nilp, one_ptr, one_nils, one_sl, one_nilf, one_clo, List.length_cons, List.length_nil, Bool.and_true, Bool.true_and, Bool.and_self, true_and, and_true, Bool.true_eq_false, Bool.false_eq_true, List.contains_cons, List.contains_nil, Bool.or_false, Bool.or_true, Bool.true_or, Bool.false_or, eq_self, Nat.reduceBEq, Nat.reduceAdd, Nat.mul_one, Nat.zero_add, Nat.add_zero, er]
    refine vc_loop (fun m vs h' => vs = [a, .int .i64 k, .int .i64 0] ∧ h' = h) 0 ⟨rfl, rfl⟩ ?_
    rintro m vs h' ⟨rfl, rfl⟩
    simp only [nm_eq, ↓reduceIte, vc_skip, vc_region, vc_draw, vc_seq, vc_cond, vc_block, vc_exit, vc_ret, RV_nil, RV_q, RV_e, DV_nil, DV_q, DV_e, gq_none, gq_some, ge_none, ge_some, condK_true, condK_false, condK_dec, condK_ndec, guardK_bool, guardO_bool, ev_t, ev_c, mk_cons, put_some, put_none, qv_mv, qv_pick, qv_bin, qv_un, qv_conv, qv_nilCheck, qv_build, qv_field, qv_fieldAddr, qv_indexAddr, qv_indexStr, qv_extract, qv_len, qv_lenStr, qv_cap, qv_slice, qv_sliceStr, qv_maxmin, qv_makeFunc, qv_load, qv_rev, eff_alloc, eff_box, eff_buildSl, eff_store, aStore_ptr, eff_makeSl, aMake_int, eff_append, eff_copy, eff_call, eff_callV, aCallV_clo, abin_add, abin_sub, abin_mul, abin_quo, abin_rem, abin_eql, abin_neq, abin_lss, abin_leq, abin_gtr, abin_geq, abin_beql, abin_bneq, abin_nn, abin_sn, abin_ns, abin_nnx, abin_snx, abin_nsx, abin_str, aun_neg, aun_not, aPick_true, aPick_false, aConv_int, aNil_ptr, aNil_clo, aField_agg, aField_one, aFieldAddr_ptr, Int.toNat_natCast, rd1_new, rd_new, new_next, Nat.left_eq_add, Nat.add_eq_left, Nat.succ_ne_self, Nat.one_ne_zero, Nat.add_left_cancel_iff, Nat.add_assoc, List.getElem?_cons_zero, List.getElem?_cons_succ, List.take_succ_cons, List.take_zero, List.drop_succ_cons, List.drop_zero, List.take_nil, List.drop_nil, Nat.reduceLeDiff, Nat.le_refl, afill_nil, afill_cons, zeros_zero, zeros_one1, zeros_single, Nat.lt_add_one, Int.reduceEq, Int.reduceLT, Int.reduceLE, Int.reduceNeg, aExtract_tup, aLen_sl, aLen_nils, aLenStr_str, aMaxmin_int, ldv_one, ldv_agg, news_nil, news_cons, RecOK_nil, RecOK_none, RecOK_cons, recOf, wantedI, rvals_nil, rvals_tmp, rvals_cell, retQ_normal, retQ_ret, packR_one, packR_nil, packR_two, optK_some, optK_none, optK_bind, optK_map, List.map_cons, List.map_nil, Nat.reduceEqDiff, if_true, if_false, ite_true, ite_false, List.nil_append, List.cons_append, Option.map_some, Option.map_none, reduceCtorEq, decide_true, decide_false, Bool.not_true, Bool.not_false, cells_int, cells_bool, cells_str, cells_nilp, cells_ptr, cells_nils, cells_sl, cells_nilf, cells_clo, cells_agg, List.all_cons, List.all_nil, one_int, one_bool, one_str, one_nilp, one_ptr, one_nils, one_sl, one_nilf, one_clo, List.length_cons, List.length_nil, Bool.and_true, Bool.true_and, Bool.and_self, true_and, and_true, Bool.true_eq_false, Bool.false_eq_true, List.contains_cons, List.contains_nil, Bool.or_false, Bool.or_true, Bool.true_or, Bool.false_or, eq_self, Nat.reduceBEq, Nat.reduceAdd, Nat.mul_one, Nat.zero_add, Nat.add_zero, hlen, Int.lt_irrefl]
    have := hk h' (Upd.refl hw)
    simpa [totL] using this
  · obtain ⟨hwt, _, hWs⟩ := hW.resolve_left hne
    obtain ⟨o, cap, rfl, ho, hz⟩ := hv.whole hwt hne
    rw [ead_fz hne] at hnd
    obtain ⟨n1, n2⟩ := List.nodup_cons.1 hnd
    simp only [nm_eq, ↓reduceIte, vc_skip, vc_region, vc_draw, vc_seq, vc_cond, vc_block, vc_exit, vc_ret, RV_nil, RV_q, RV_e, DV_nil, DV_q, DV_e, gq_none, gq_some, ge_none, ge_some, condK_true, condK_false, condK_dec, condK_ndec, guardK_bool, guardO_bool, ev_t, ev_c, mk_cons, put_some, put_none, qv_mv, qv_pick, qv_bin, qv_un, qv_conv, qv_nilCheck, qv_build, qv_field, qv_fieldAddr, qv_indexAddr, qv_indexStr, qv_extract, qv_len, qv_lenStr, qv_cap, qv_slice, qv_sliceStr, qv_maxmin, qv_makeFunc, qv_load, qv_rev, eff_alloc, eff_box, eff_buildSl, eff_store, aStore_ptr, eff_makeSl, aMake_int, eff_append, eff_copy, eff_call, eff_callV, aCallV_clo, abin_add, abin_sub, abin_mul, abin_quo, abin_rem, abin_eql, abin_neq, abin_lss, abin_leq, abin_gtr, abin_geq, abin_beql, abin_bneq, abin_nn, abin_sn, abin_ns, abin_nnx, abin_snx, abin_nsx, abin_str, aun_neg, aun_not, aPick_true, aPick_false, aConv_int, aNil_ptr, aNil_clo, aField_agg, aField_one, aFieldAddr_ptr, Int.toNat_natCast, rd1_new, rd_new, new_next, Nat.left_eq_add, Nat.add_eq_left, Nat.succ_ne_self, Nat.one_ne_zero, Nat.add_left_cancel_iff, Nat.add_assoc, List.getElem?_cons_zero, List.getElem?_cons_succ, List.take_succ_cons, List.take_zero, List.drop_succ_cons, List.drop_zero, List.take_nil, List.drop_nil, Nat.reduceLeDiff, Nat.le_refl, afill_nil, afill_cons, zeros_zero, zeros_one1, zeros_single, Nat.lt_add_one, Int.reduceEq, Int.reduceLT, Int.reduceLE, Int.reduceNeg, aExtract_tup, aLen_sl, aLen_nils, aLenStr_str, aMaxmin_int, ldv_one, ldv_agg, news_nil, news_cons, RecOK_nil, RecOK_none, RecOK_cons, recOf, wantedI, rvals_nil, rvals_tmp, rvals_cell, retQ_normal, retQ_ret, packR_one, packR_nil, packR_two, optK_some, optK_none, optK_bind, optK_map, List.map_cons, List.map_nil, Nat.reduceEqDiff, if_true, if_false, ite_true, ite_false, List.nil_append, List.cons_append, Option.map_some, Option.map_none, reduceCtorEq, decide_true, decide_false, Bool.not_true, Bool.not_false, cells_int, cells_bool, cells_str, cells_nilp, cells_ptr, cells_nils, cells_sl, cells_nilf, cells_clo, cells_agg, List.all_cons, List.all_nil, one_int, one_bool, one_str, one_nilp, one_ptr, one_nils, one_sl, one_nilf, one_clo, List.length_cons, List.length_nil, Bool.and_true, Bool.true_and, Bool.and_self, true_and, and_true, Bool.true_eq_false, Bool.false_eq_true, List.contains_cons, List.contains_nil, Bool.or_false, Bool.or_true, Bool.true_or, Bool.false_or, eq_self, Nat.reduceBEq, Nat.reduceAdd, Nat.mul_one, Nat.zero_add, Nat.add_zero, er]
    refine vc_loop (fun m vs h' => ∃ i : Nat, i ≤ xs.length ∧ m = xs.length - i ∧ vs = [.sl o 0 xs.length cap, .int .i64 (k + totL (totL List.length) (xs.take i)), .int .i64 i] ∧ Upd h (mkS (mkF mkI List.length) (totL List.length) k (rows.take i) (xs.take i)) h') xs.length ?_ ?_
    · exact ⟨0, by omega, by omega, by rw [List.take_zero, totL_nil]; exact (by (simp only [nm_eq, ↓reduceIte, vc_skip, vc_region, vc_draw, vc_seq, vc_cond, vc_block, vc_exit, vc_ret, RV_nil, RV_q, RV_e, DV_nil, DV_q, DV_e, gq_none, gq_some, ge_none, ge_some, condK_true, condK_false, condK_dec, condK_ndec, guardK_bool, guardO_bool, ev_t, ev_c, mk_cons, put_some, put_none, qv_mv, qv_pick, qv_bin, qv_un, qv_conv, qv_nilCheck, qv_build, qv_field, qv_fieldAddr, qv_indexAddr, qv_indexStr, qv_extract, qv_len, qv_lenStr, qv_cap, qv_slice, qv_sliceStr, qv_maxmin, qv_makeFunc, qv_load, qv_rev, eff_alloc, eff_box, eff_buildSl, eff_store, aStore_ptr, eff_makeSl, aMake_int, eff_append, eff_copy, eff_call, eff_callV, aCallV_clo, abin_add, abin_sub, abin_mul, abin_quo, abin_rem, abin_eql, abin_neq, abin_lss, abin_leq, abin_gtr, abin_geq, abin_beql, abin_bneq, abin_nn, abin_sn, abin_ns, abin_nnx, abin_snx, abin_nsx, abin_str, aun_neg, aun_not, aPick_true, aPick_false, aConv_int, aNil_ptr, aNil_clo, aField_agg, aField_one, aFieldAddr_ptr, Int.toNat_natCast, rd1_new, rd_new, new_next, Nat.left_eq_add, Nat.add_eq_left, Nat.succ_ne_self, Nat.one_ne_zero, Nat.add_left_cancel_iff, Nat.add_assoc, List.getElem?_cons_zero, List.getElem?_cons_succ, List.take_succ_cons, List.take_zero, List.drop_succ_cons, List.drop_zero, List.take_nil, List.drop_nil, Nat.reduceLeDiff, Nat.le_refl, afill_nil, afill_cons, zeros_zero, zeros_one1, zeros_single, Nat.lt_add_one, Int.reduceEq, Int.reduceLT, Int.reduceLE, Int.reduceNeg, aExtract_tup, aLen_sl, aLen_nils, aLenStr_str, aMaxmin_int, ldv_one, ldv_agg, news_nil, news_cons, RecOK_nil, RecOK_none, RecOK_cons, recOf, wantedI, rvals_nil, rvals_tmp, rvals_cell, retQ_normal, retQ_ret, packR_one, packR_nil, packR_two, optK_some, optK_none, optK_bind, optK_map, List.map_cons, List.map_nil, Nat.reduceEqDiff, if_true, if_false, ite_true, ite_false, List.nil_append, List.cons_append, Option.map_some, Option.map_none, reduceCtorEq, decide_true, decide_false, Bool.not_true, Bool.not_false, cells_int, cells_bool, cells_str, cells_nilp, cells_ptr, cells_nils, cells_sl, cells_nilf, cells_clo, cells_agg, List.all_cons, List.all_nil, one_int, one_bool, one_str, one_nilp, one_ptr, one_nils, one_sl, one_nilf, one_clo, List.length_cons, List.length_nil, Bool.and_true, Bool.true_and, Bool.and_self, true_and, and_true, Bool.true_eq_false, Bool.false_eq_true, List.contains_cons, List.contains_nil, Bool.or_false, Bool.or_true, Bool.true_or, Bool.false_or, eq_self, Nat.reduceBEq, Nat.reduceAdd, Nat.mul_one, Nat.zero_add, Nat.add_zero, List.cons.injEq, AV.int.injEq, AV.sl.injEq, and_self]) <;> omega), by simp only [List.take_zero, mkS_nil]; exact Upd.refl hw⟩
    · rintro m vs h' ⟨i, hi, rfl, rfl, u⟩
      simp only [nm_eq, ↓reduceIte, vc_skip, vc_region, vc_draw, vc_seq, vc_cond, vc_block, vc_exit, vc_ret, RV_nil, RV_q, RV_e, DV_nil, DV_q, DV_e, gq_none, gq_some, ge_none, ge_some, condK_true, condK_false, condK_dec, condK_ndec, guardK_bool, guardO_bool, ev_t, ev_c, mk_cons, put_some, put_none, qv_mv, qv_pick, qv_bin, qv_un, qv_conv, qv_nilCheck, qv_build, qv_field, qv_fieldAddr, qv_indexAddr, qv_indexStr, qv_extract, qv_len, qv_lenStr, qv_cap, qv_slice, qv_sliceStr, qv_maxmin, qv_makeFunc, qv_load, qv_rev, eff_alloc, eff_box, eff_buildSl, eff_store, aStore_ptr, eff_makeSl, aMake_int, eff_append, eff_copy, eff_call, eff_callV, aCallV_clo, abin_add, abin_sub, abin_mul, abin_quo, abin_rem, abin_eql, abin_neq, abin_lss, abin_leq, abin_gtr, abin_geq, abin_beql, abin_bneq, abin_nn, abin_sn, abin_ns, abin_nnx, abin_snx, abin_nsx, abin_str, aun_neg, aun_not, aPick_true, aPick_false, aConv_int, aNil_ptr, aNil_clo, aField_agg, aField_one, aFieldAddr_ptr, Int.toNat_natCast, rd1_new, rd_new, new_next, Nat.left_eq_add, Nat.add_eq_left, Nat.succ_ne_self, Nat.one_ne_zero, Nat.add_left_cancel_iff, Nat.add_assoc, List.getElem?_cons_zero, List.getElem?_cons_succ, List.take_succ_cons, List.take_zero, List.drop_succ_cons, List.drop_zero, List.take_nil, List.drop_nil, Nat.reduceLeDiff, Nat.le_refl, afill_nil, afill_cons, zeros_zero, zeros_one1, zeros_single, Nat.lt_add_one, Int.reduceEq, Int.reduceLT, Int.reduceLE, Int.reduceNeg, aExtract_tup, aLen_sl, aLen_nils, aLenStr_str, aMaxmin_int, ldv_one, ldv_agg, news_nil, news_cons, RecOK_nil, RecOK_none, RecOK_cons, recOf, wantedI, rvals_nil, rvals_tmp, rvals_cell, retQ_normal, retQ_ret, packR_one, packR_nil, packR_two, optK_some, optK_none, optK_bind, optK_map, List.map_cons, List.map_nil, Nat.reduceEqDiff, if_true, if_false, ite_true, ite_false, List.nil_append, List.cons_append, Option.map_some, Option.map_none, reduceCtorEq, decide_true, decide_false, Bool.not_true, Bool.not_false, cells_int, cells_bool, cells_str, cells_nilp, cells_ptr, cells_nils, cells_sl, cells_nilf, cells_clo, cells_agg, List.all_cons, List.all_nil, one_int, one_bool, one_str, one_nilp, one_ptr, one_nils, one_sl, one_nilf, one_clo, List.length_cons, List.length_nil, Bool.and_true, Bool.true_and, Bool.and_self, true_and, and_true, Bool.true_eq_false, Bool.false_eq_true, List.contains_cons, List.contains_nil, Bool.or_false, Bool.or_true, Bool.true_or, Bool.false_or, eq_self, Nat.reduceBEq, Nat.reduceAdd, Nat.mul_one, Nat.zero_add, Nat.add_zero]
      split
      · have hlt : i < xs.length := by omega
        obtain ⟨v, hv1, hv2, hv3, hv4, hv5, hv6⟩ := mkT_I.F.step hr hWs n2 hv.2 hlt u
        have hld : h'.rd1 o i = some (er idz v) := by
          rw [rd1_of_obj (by rw [u.same o hz (lookup_none.2 fun hm => n1 (eads_take (mkT_I.F.keysS (hr.take i) (Whs_iff.2 fun c hc => Whs_iff.1 hWs c (List.mem_of_mem_take hc)) o hm)))]; exact ho)]
          rw [ers_get, hv1]; rfl
        have ht := totL_snoc (len := totL List.length) hlt
        have htl := totL_le (totL List.length) xs (i + 1)
        have hbi := hb2 _ (List.getElem_mem hlt)
        simp only [nm_eq, ↓reduceIte, vc_skip, vc_region, vc_draw, vc_seq, vc_cond, vc_block, vc_exit, vc_ret, RV_nil, RV_q, RV_e, DV_nil, DV_q, DV_e, gq_none, gq_some, ge_none, ge_some, condK_true, condK_false, condK_dec, condK_ndec, guardK_bool, guardO_bool, ev_t, ev_c, mk_cons, put_some, put_none, qv_mv, qv_pick, qv_bin, qv_un, qv_conv, qv_nilCheck, qv_build, qv_field, qv_fieldAddr, qv_indexAddr, qv_indexStr, qv_extract, qv_len, qv_lenStr, qv_cap, qv_slice, qv_sliceStr, qv_maxmin, qv_makeFunc, qv_load, qv_rev, eff_alloc, eff_box, eff_buildSl, eff_store, aStore_ptr, eff_makeSl, aMake_int, eff_append, eff_copy, eff_call, eff_callV, aCallV_clo, abin_add, abin_sub, abin_mul, abin_quo, abin_rem, abin_eql, abin_neq, abin_lss, abin_leq, abin_gtr, abin_geq, abin_beql, abin_bneq, abin_nn, abin_sn, abin_ns, abin_nnx, abin_snx, abin_nsx, abin_str, aun_neg, aun_not, aPick_true, aPick_false, aConv_int, aNil_ptr, aNil_clo, aField_agg, aField_one, aFieldAddr_ptr, Int.toNat_natCast, rd1_new, rd_new, new_next, Nat.left_eq_add, Nat.add_eq_left, Nat.succ_ne_self, Nat.one_ne_zero, Nat.add_left_cancel_iff, Nat.add_assoc, List.getElem?_cons_zero, List.getElem?_cons_succ, List.take_succ_cons, List.take_zero, List.drop_succ_cons, List.drop_zero, List.take_nil, List.drop_nil, Nat.reduceLeDiff, Nat.le_refl, afill_nil, afill_cons, zeros_zero, zeros_one1, zeros_single, Nat.lt_add_one, Int.reduceEq, Int.reduceLT, Int.reduceLE, Int.reduceNeg, aExtract_tup, aLen_sl, aLen_nils, aLenStr_str, aMaxmin_int, ldv_one, ldv_agg, news_nil, news_cons, RecOK_nil, RecOK_none, RecOK_cons, recOf, wantedI, rvals_nil, rvals_tmp, rvals_cell, retQ_normal, retQ_ret, packR_one, packR_nil, packR_two, optK_some, optK_none, optK_bind, optK_map, List.map_cons, List.map_nil, Nat.reduceEqDiff, if_true, if_false, ite_true, ite_false, List.nil_append, List.cons_append, Option.map_some, Option.map_none, reduceCtorEq, decide_true, decide_false, Bool.not_true, Bool.not_false, cells_int, cells_bool, cells_str, cells_nilp, cells_ptr, cells_nils, cells_sl, cells_nilf, cells_clo, cells_agg, List.all_cons, List.all_nil, one_int, one_bool, one_str, one_nilp, one_ptr, one_nils, one_sl, one_nilf, one_clo, List.length_cons, List.length_nil, Bool.and_true, Bool.true_and, Bool.and_self, true_and, and_true, Bool.true_eq_false, Bool.false_eq_true, List.contains_cons, List.contains_nil, Bool.or_false, Bool.or_true, Bool.true_or, Bool.false_or, eq_self, Nat.reduceBEq, Nat.reduceAdd, Nat.mul_one, Nat.zero_add, Nat.add_zero, aIndex_nat hlt, hld, wrapS hlt (by omega : xs.length ≤ 4611686018427387904)]
        refine markInt64SS_A hv2 hv3 hv4 u.wf hv5 hbi.1 hbi.2 (by omega) (by omega) fun h'' u' => ?_
        simp only [nm_eq, ↓reduceIte, vc_skip, vc_region, vc_draw, vc_seq, vc_cond, vc_block, vc_exit, vc_ret, RV_nil, RV_q, RV_e, DV_nil, DV_q, DV_e, gq_none, gq_some, ge_none, ge_some, condK_true, condK_false, condK_dec, condK_ndec, guardK_bool, guardO_bool, ev_t, ev_c, mk_cons, put_some, put_none, qv_mv, qv_pick, qv_bin, qv_un, qv_conv, qv_nilCheck, qv_build, qv_field, qv_fieldAddr, qv_indexAddr, qv_indexStr, qv_extract, qv_len, qv_lenStr, qv_cap, qv_slice, qv_sliceStr, qv_maxmin, qv_makeFunc, qv_load, qv_rev, eff_alloc, eff_box, eff_buildSl, eff_store, aStore_ptr, eff_makeSl, aMake_int, eff_append, eff_copy, eff_call, eff_callV, aCallV_clo, abin_add, abin_sub, abin_mul, abin_quo, abin_rem, abin_eql, abin_neq, abin_lss, abin_leq, abin_gtr, abin_geq, abin_beql, abin_bneq, abin_nn, abin_sn, abin_ns, abin_nnx, abin_snx, abin_nsx, abin_str, aun_neg, aun_not, aPick_true, aPick_false, aConv_int, aNil_ptr, aNil_clo, aField_agg, aField_one, aFieldAddr_ptr, Int.toNat_natCast, rd1_new, rd_new, new_next, Nat.left_eq_add, Nat.add_eq_left, Nat.succ_ne_self, Nat.one_ne_zero, Nat.add_left_cancel_iff, Nat.add_assoc, List.getElem?_cons_zero, List.getElem?_cons_succ, List.take_succ_cons, List.take_zero, List.drop_succ_cons, List.drop_zero, List.take_nil, List.drop_nil, Nat.reduceLeDiff, Nat.le_refl, afill_nil, afill_cons, zeros_zero, zeros_one1, zeros_single, Nat.lt_add_one, Int.reduceEq, Int.reduceLT, Int.reduceLE, Int.reduceNeg, aExtract_tup, aLen_sl, aLen_nils, aLenStr_str, aMaxmin_int, ldv_one, ldv_agg, news_nil, news_cons, RecOK_nil, RecOK_none, RecOK_cons, recOf, wantedI, rvals_nil, rvals_tmp, rvals_cell, retQ_normal, retQ_ret, packR_one, packR_nil, packR_two, optK_some, optK_none, optK_bind, optK_map, List.map_cons, List.map_nil, Nat.reduceEqDiff, if_true, if_false, ite_true, ite_false, List.nil_append, List.cons_append, Option.map_some, Option.map_none, reduceCtorEq, decide_true, decide_false, Bool.not_true, Bool.not_false, cells_int, cells_bool, cells_str, cells_nilp, cells_ptr, cells_nils, cells_sl, cells_nilf, cells_clo, cells_agg, List.all_cons, List.all_nil, one_int, one_bool, one_str, one_nilp, one_ptr, one_nils, one_sl, one_nilf, one_clo, List.length_cons, List.length_nil, Bool.and_true, Bool.true_and, Bool.and_self, true_and, and_true, Bool.true_eq_false, Bool.false_eq_true, List.contains_cons, List.contains_nil, Bool.or_false, Bool.or_true, Bool.true_or, Bool.false_or, eq_self, Nat.reduceBEq, Nat.reduceAdd, Nat.mul_one, Nat.zero_add, Nat.add_zero, wrapS hlt (by omega : xs.length ≤ 4611686018427387904)]
        exact ⟨_, by omega, i + 1, by omega, rfl, (by (simp only [nm_eq, ↓reduceIte, vc_skip, vc_region, vc_draw, vc_seq, vc_cond, vc_block, vc_exit, vc_ret, RV_nil, RV_q, RV_e, DV_nil, DV_q, DV_e, gq_none, gq_some, ge_none, ge_some, condK_true, condK_false, condK_dec, condK_ndec, guardK_bool, guardO_bool, ev_t, ev_c, mk_cons, put_some, put_none, qv_mv, qv_pick, qv_bin, qv_un, qv_conv, qv_nilCheck, qv_build, qv_field, qv_fieldAddr, qv_indexAddr, qv_indexStr, qv_extract, qv_len, qv_lenStr, qv_cap, qv_slice, qv_sliceStr, qv_maxmin, qv_makeFunc, qv_load, qv_rev, eff_alloc, eff_box, eff_buildSl, eff_store, aStore_ptr, eff_makeSl, aMake_int, eff_append, eff_copy, eff_call, eff_callV, aCallV_clo, abin_add, abin_sub, abin_mul, abin_quo, abin_rem, abin_eql, abin_neq, abin_lss, abin_leq, abin_gtr, abin_geq, abin_beql, abin_bneq, abin_nn, abin_sn, abin_ns, abin_nnx, abin_snx, abin_nsx, abin_str, aun_neg, aun_not, aPick_true, aPick_false, aConv_int, aNil_ptr, aNil_clo, aField_agg, aField_one, aFieldAddr_ptr, Int.toNat_natCast, rd1_new, rd_new, new_next, Nat.left_eq_add, Nat.add_eq_left, Nat.succ_ne_self, Nat.one_ne_zero, Nat.add_left_cancel_iff, Nat.add_assoc, List.getElem?_cons_zero, List.getElem?_cons_succ, List.take_succ_cons, List.take_zero, List.drop_succ_cons, List.drop_zero, List.take_nil, List.drop_nil, Nat.reduceLeDiff, Nat.le_refl, afill_nil, afill_cons, zeros_zero, zeros_one1, zeros_single, Nat.lt_add_one, Int.reduceEq, Int.reduceLT, Int.reduceLE, Int.reduceNeg, aExtract_tup, aLen_sl, aLen_nils, aLenStr_str, aMaxmin_int, ldv_one, ldv_agg, news_nil, news_cons, RecOK_nil, RecOK_none, RecOK_cons, recOf, wantedI, rvals_nil, rvals_tmp, rvals_cell, retQ_normal, retQ_ret, packR_one, packR_nil, packR_two, optK_some, optK_none, optK_bind, optK_map, List.map_cons, List.map_nil, Nat.reduceEqDiff, if_true, if_false, ite_true, ite_false, List.nil_append, List.cons_append, Option.map_some, Option.map_none, reduceCtorEq, decide_true, decide_false, Bool.not_true, Bool.not_false, cells_int, cells_bool, cells_str, cells_nilp, cells_ptr, cells_nils, cells_sl, cells_nilf, cells_clo, cells_agg, List.all_cons, List.all_nil, one_int, one_bool, one_str, one_nilp, one_ptr, one_nils, one_sl, one_nilf, one_clo, List.length_cons, List.length_nil, Bool.and_true, Bool.true_and, Bool.and_self, true_and, and_true, Bool.true_eq_false, Bool.false_eq_true, List.contains_cons, List.contains_nil, Bool.or_false, Bool.or_true, Bool.true_or, Bool.false_or, eq_self, Nat.reduceBEq, Nat.reduceAdd, Nat.mul_one, Nat.zero_add, Nat.add_zero, List.cons.injEq, AV.int.injEq, AV.sl.injEq, and_self]) <;> omega), hv6 _ u'⟩
      · have hie : i = xs.length := by omega
        subst hie
        rw [List.take_length, List.take_of_length_le (by rw [hr.1]; exact Nat.le_refl _)] at u
        rw [List.take_length]
        exact hk _ u
/-- What marking a ring writes. -/
def mkR (k : Int) (vP vB : PV) (W : List (List Int)) (B : List (List (List Int))) : List (Nat × List PV) :=
  mkF mkI List.length k vP W ++ mkF (mkF mkI List.length) (totL List.length) (k + totL List.length W) vB B
def totR (W : List (List Int)) (B : List (List (List Int))) : Nat := totL List.length W + totL (totL List.length) B
theorem markLieRing_A {p k : Int} {vP vB : PV} {W : List (List Int)} {B : List (List (List Int))} (hR : IsR vP vB W B) (hW : Wh (.agg [.int .i64 p, vP, vB])) (hnd : (ead (.agg [.int .i64 p, vP, vB])).Nodup) (hw : HWF h) (hv : VOK (zlt h) h 0 (.agg [.int .i64 p, vP, vB])) (sz : SzR W B) (hk0 : 0 ≤ k) (hk1 : k + totR W B ≤ 2305843009213693952)
    (hk : ∀ h', Upd h (mkR k vP vB W B) h' → K (.int .i64 (k + totR W B)) h') : ACalls Try.prog 31 [er idz (.agg [.int .i64 p, vP, vB]), .int .i64 k] h K := by
  refine acalls_of_vc mix Try.func31 cf31 rfl ?_
  dsimp only [if31]
  simp only [er, ers]
  unfold totR at hk hk1
  obtain ⟨_, hvP, hvB, _⟩ := hv
  obtain ⟨_, wP, wB, _⟩ := hW
  have oP : (er idz vP).one = true := by rw [er_one hvP]; exact hR.P.one
  have oB : (er idz vB).one = true := by rw [er_one hvB]; exact hR.B.one
  have cP := cells_of_one oP
  have cB := cells_of_one oB
  simp only [ead, eads, List.nil_append, List.append_nil, List.nodup_append] at hnd
  obtain ⟨dP, dB, dd⟩ := hnd
  obtain ⟨hh, he, hx1, hn, qq⟩ := box1 hw [.int .i64 p, er idz vP, er idz vB]
  have hzz : ∀ o, zlt h o → zlt hh o ∧ hh.obj o = h.obj o := fun o ho => ⟨Nat.lt_of_lt_of_le ho hx1.next, hx1.obj o ho⟩
  have q := qq _ (Ext.refl hx1.wf)
  have kP := (mkT_I.F).keys (k := k) hR.P wP
  have kB := (mkT_I.F.F).keys (k := k + totL List.length W) hR.B wB
  simp only [nm_eq, ↓reduceIte, vc_skip, vc_region, vc_draw, vc_seq, vc_cond, vc_block, vc_exit, vc_ret, RV_nil, RV_q, RV_e, DV_nil, DV_q, DV_e, gq_none, gq_some, ge_none, ge_some, condK_true, condK_false, condK_dec, condK_ndec, guardK_bool, guardO_bool, ev_t, ev_c, mk_cons, put_some, put_none, qv_mv, qv_pick, qv_bin, qv_un, qv_conv, qv_nilCheck, qv_build, qv_field, qv_fieldAddr, qv_indexAddr, qv_indexStr, qv_extract, qv_len, qv_lenStr, qv_cap, qv_slice, qv_sliceStr, qv_maxmin, qv_makeFunc, qv_load, qv_rev, eff_alloc, eff_box, eff_buildSl, eff_store, aStore_ptr, eff_makeSl, aMake_int, eff_append, eff_copy, eff_call, eff_callV, aCallV_clo, abin_add, abin_sub, abin_mul, abin_quo, abin_rem, abin_eql, abin_neq, abin_lss, abin_leq, abin_gtr, abin_geq, abin_beql, abin_bneq, abin_nn, abin_sn, abin_ns, abin_nnx, abin_snx, abin_nsx, abin_str, aun_neg, aun_not, aPick_true, aPick_false, aConv_int, aNil_ptr, aNil_clo, aField_agg, aField_one, aFieldAddr_ptr, Int.toNat_natCast, rd1_new, rd_new, new_next, Nat.left_eq_add, Nat.add_eq_left, Nat.succ_ne_self, Nat.one_ne_zero, Nat.add_left_cancel_iff, Nat.add_assoc, List.getElem?_cons_zero, List.getElem?_cons_succ, List.take_succ_cons, List.take_zero, List.drop_succ_cons, List.drop_zero, List.take_nil, List.drop_nil, Nat.reduceLeDiff, Nat.le_refl, afill_nil, afill_cons, zeros_zero, zeros_one1, zeros_single, Nat.lt_add_one, Int.reduceEq, Int.reduceLT, Int.reduceLE, Int.reduceNeg, aExtract_tup, aLen_sl, aLen_nils, aLenStr_str, aMaxmin_int, ldv_one, ldv_agg, news_nil, news_cons, RecOK_nil, RecOK_none, RecOK_cons, recOf, wantedI, rvals_nil, rvals_tmp, rvals_cell, retQ_normal, retQ_ret, packR_one, packR_nil, packR_two, optK_some, optK_none, optK_bind, optK_map, List.map_cons, List.map_nil, Nat.reduceEqDiff, if_true, if_false, ite_true, ite_false, List.nil_append, List.cons_append, Option.map_some, Option.map_none, reduceCtorEq, decide_true, decide_false, Bool.not_true, Bool.not_false, cells_int, cells_bool, cells_str, cells_nilp, cells_ptr, cells_nils, cells_sl, cells_nilf, cells_clo, cells_agg, List.all_cons, List.all_nil, one_int, one_bool, one_str, one_nilp, one_ptr, one_nils, one_sl, one_nilf, one_clo, List.length_cons, List.length_nil, Bool.and_true, Bool.true_and, Bool.and_self, true_and, and_true, Bool.true_eq_false, Bool.false_eq_true, List.contains_cons, List.contains_nil, Bool.or_false, Bool.or_true, Bool.true_or, Bool.false_or, eq_self, Nat.reduceBEq, Nat.reduceAdd, Nat.mul_one, Nat.zero_add, Nat.add_zero, he, oP, oB, cP, cB, rd1_of_obj q]
  refine markInt64SS_A hR.P wP dP hx1.wf (hvP.mono hzz (Nat.le_refl _)) (by have := sz.Wl; omega) (fun x hx => by have := sz.w x hx; omega) hk0 (by omega) fun h1 u1 => ?_
  have qB : h1.obj h.next = some ⟨true, [.int .i64 p, er idz vP, er idz vB]⟩ := by
    rw [u1.same _ (by omega) (lookup_none.2 fun hm => by have : h.next < h.next := ead_z hvP _ (kP _ hm); omega)]; exact q
  have hvB1 : VOK (zlt h1) h1 0 vB := by
    have h2 := rm_vok u1 (fun o ho => ho) (hvB.mono hzz (Nat.le_refl _))
    rw [rm_out fun o ho hm => dd o (kP o ho) o hm rfl] at h2
    exact h2.mono (fun o ho => ⟨Nat.lt_of_lt_of_le ho u1.next, rfl⟩) (Nat.le_refl _)
  have hneg : ¬ (k + (totL List.length W : Int) < 0) := by omega
  simp only [nm_eq, ↓reduceIte, vc_skip, vc_region, vc_draw, vc_seq, vc_cond, vc_block, vc_exit, vc_ret, RV_nil, RV_q, RV_e, DV_nil, DV_q, DV_e, gq_none, gq_some, ge_none, ge_some, condK_true, condK_false, condK_dec, condK_ndec, guardK_bool, guardO_bool, ev_t, ev_c, mk_cons, put_some, put_none, qv_mv, qv_pick, qv_bin, qv_un, qv_conv, qv_nilCheck, qv_build, qv_field, qv_fieldAddr, qv_indexAddr, qv_indexStr, qv_extract, qv_len, qv_lenStr, qv_cap, qv_slice, qv_sliceStr, qv_maxmin, qv_makeFunc, qv_load, qv_rev, eff_alloc, eff_box, eff_buildSl, eff_store, aStore_ptr, eff_makeSl, aMake_int, eff_append, eff_copy, eff_call, eff_callV, aCallV_clo, abin_add, abin_sub, abin_mul, abin_quo, abin_rem, abin_eql, abin_neq, abin_lss, abin_leq, abin_gtr, abin_geq, abin_beql, abin_bneq, abin_nn, abin_sn, abin_ns, abin_nnx, abin_snx, abin_nsx, abin_str, aun_neg, aun_not, aPick_true, aPick_false, aConv_int, aNil_ptr, aNil_clo, aField_agg, aField_one, aFieldAddr_ptr, Int.toNat_natCast, rd1_new, rd_new, new_next, Nat.left_eq_add, Nat.add_eq_left, Nat.succ_ne_self, Nat.one_ne_zero, Nat.add_left_cancel_iff, Nat.add_assoc, List.getElem?_cons_zero, List.getElem?_cons_succ, List.take_succ_cons, List.take_zero, List.drop_succ_cons, List.drop_zero, List.take_nil, List.drop_nil, Nat.reduceLeDiff, Nat.le_refl, afill_nil, afill_cons, zeros_zero, zeros_one1, zeros_single, Nat.lt_add_one, Int.reduceEq, Int.reduceLT, Int.reduceLE, Int.reduceNeg, aExtract_tup, aLen_sl, aLen_nils, aLenStr_str, aMaxmin_int, ldv_one, ldv_agg, news_nil, news_cons, RecOK_nil, RecOK_none, RecOK_cons, recOf, wantedI, rvals_nil, rvals_tmp, rvals_cell, retQ_normal, retQ_ret, packR_one, packR_nil, packR_two, optK_some, optK_none, optK_bind, optK_map, List.map_cons, List.map_nil, Nat.reduceEqDiff, if_true, if_false, ite_true, ite_false, List.nil_append, List.cons_append, Option.map_some, Option.map_none, reduceCtorEq, decide_true, decide_false, Bool.not_true, Bool.not_false, cells_int, cells_bool, cells_str, cells_nilp, cells_ptr, cells_nils, cells_sl, cells_nilf, cells_clo, cells_agg, List.all_cons, List.all_nil, one_int, one_bool, one_str, one_nilp, one_ptr, one_nils, one_sl, one_nilf, one_clo, List.length_cons, List.length_nil, Bool.and_true, Bool.true_and, Bool.and_self, true_and, and_true, Bool.true_eq_false, Bool.false_eq_true, List.contains_cons, List.contains_nil, Bool.or_false, Bool.or_true, Bool.true_or, Bool.false_or, eq_self, Nat.reduceBEq, Nat.reduceAdd, Nat.mul_one, Nat.zero_add, Nat.add_zero, rd1_of_obj qB, hneg]
  refine markInt64SSS_A hR.B wB dB u1.wf hvB1 (by have := sz.Bl; omega) (fun x hx => ⟨by have := sz.b x hx; omega, fun y hy => by have := sz.c x hx y hy; omega⟩) (by omega) (by omega) fun h2 u2 => ?_
  have u3 : Upd hh (mkR k vP vB W B) h2 := u1.trans u2 (fun o ho hm => dd o (kP o ho) o (kB o hm) rfl) fun o ho => by have : o < h.next := ead_z hvB o (kB o ho); omega
  have u4 := hx1.upd.trans u3 (fun o ho => by cases ho) fun o ho => by
    unfold mkR at ho
    rw [List.map_append, List.mem_append] at ho
    exact ho.elim (fun hm => ead_z hvP o (kP o hm)) fun hm => ead_z hvB o (kB o hm)
  have e : k + (totL List.length W : Int) + (totL (totL List.length) B : Int) = k + ((totL List.length W + totL (totL List.length) B : Nat) : Int) := by omega
  rw [e]
  simp only [nm_eq, ↓reduceIte, vc_skip, vc_region, vc_draw, vc_seq, vc_cond, vc_block, vc_exit, vc_ret, RV_nil, RV_q, RV_e, DV_nil, DV_q, DV_e, gq_none, gq_some, ge_none, ge_some, condK_true, condK_false, condK_dec, condK_ndec, guardK_bool, guardO_bool, ev_t, ev_c, mk_cons, put_some, put_none, qv_mv, qv_pick, qv_bin, qv_un, qv_conv, qv_nilCheck, qv_build, qv_field, qv_fieldAddr, qv_indexAddr, qv_indexStr, qv_extract, qv_len, qv_lenStr, qv_cap, qv_slice, qv_sliceStr, qv_maxmin, qv_makeFunc, qv_load, qv_rev, eff_alloc, eff_box, eff_buildSl, eff_store, aStore_ptr, eff_makeSl, aMake_int, eff_append, eff_copy, eff_call, eff_callV, aCallV_clo, abin_add, abin_sub, abin_mul, abin_quo, abin_rem, abin_eql, abin_neq, abin_lss, abin_leq, abin_gtr, abin_geq, abin_beql, abin_bneq, abin_nn, abin_sn, abin_ns, abin_nnx, abin_snx, abin_nsx, abin_str, aun_neg, aun_not, aPick_true, aPick_false, aConv_int, aNil_ptr, aNil_clo, aField_agg, aField_one, aFieldAddr_ptr, Int.toNat_natCast, rd1_new, rd_new, new_next, Nat.left_eq_add, Nat.add_eq_left, Nat.succ_ne_self, Nat.one_ne_zero, Nat.add_left_cancel_iff, Nat.add_assoc, List.getElem?_cons_zero, List.getElem?_cons_succ, List.take_succ_cons, List.take_zero, List.drop_succ_cons, List.drop_zero, List.take_nil, List.drop_nil, Nat.reduceLeDiff, Nat.le_refl, afill_nil, afill_cons, zeros_zero, zeros_one1, zeros_single, Nat.lt_add_one, Int.reduceEq, Int.reduceLT, Int.reduceLE, Int.reduceNeg, aExtract_tup, aLen_sl, aLen_nils, aLenStr_str, aMaxmin_int, ldv_one, ldv_agg, news_nil, news_cons, RecOK_nil, RecOK_none, RecOK_cons, recOf, wantedI, rvals_nil, rvals_tmp, rvals_cell, retQ_normal, retQ_ret, packR_one, packR_nil, packR_two, optK_some, optK_none, optK_bind, optK_map, List.map_cons, List.map_nil, Nat.reduceEqDiff, if_true, if_false, ite_true, ite_false, List.nil_append, List.cons_append, Option.map_some, Option.map_none, reduceCtorEq, decide_true, decide_false, Bool.not_true, Bool.not_false, cells_int, cells_bool, cells_str, cells_nilp, cells_ptr, cells_nils, cells_sl, cells_nilf, cells_clo, cells_agg, List.all_cons, List.all_nil, one_int, one_bool, one_str, one_nilp, one_ptr, one_nils, one_sl, one_nilf, one_clo, List.length_cons, List.length_nil, Bool.and_true, Bool.true_and, Bool.and_self, true_and, and_true, Bool.true_eq_false, Bool.false_eq_true, List.contains_cons, List.contains_nil, Bool.or_false, Bool.or_true, Bool.true_or, Bool.false_or, eq_self, Nat.reduceBEq, Nat.reduceAdd, Nat.mul_one, Nat.zero_add, Nat.add_zero]
  exact hk _ (by simpa using u4)
end
section
variable {σ : PHeap} {K : PV → PHeap → Prop} {p : Int} {W : List (List Int)} {B : List (List (List Int))} {vP vB : PV} {lo hi : Nat}
theorem keysI {v : PV} {xs : List Int} {k : Int} (hI : FI v xs) (ho : Own lo hi v) : ∀ o ∈ (mkI k v xs).map Prod.fst, lo ≤ o ∧ o < hi := fun o hm => ho.lt o (mkT_I.keys hI ho.wh o hm)
theorem keysII {v : PV} {xs : List (List Int)} {k : Int} (hI : FII v xs) (ho : Own lo hi v) : ∀ o ∈ (mkF mkI List.length k v xs).map Prod.fst, lo ≤ o ∧ o < hi := fun o hm => ho.lt o (mkT_I.F.keys hI ho.wh o hm)
theorem markInt64S_M {v : PV} {xs : List Int} {k : Int} (hI : FI v xs) (ho : Own lo hi v) (hb : xs.length ≤ 4294967296) (hk0 : 0 ≤ k) (hk1 : k ≤ 2305843009213693952) : MarkOK Try.prog 32 [v, .int .i64 k] σ (mkI k v xs) .i64 (k + xs.length) :=
  MarkOK.of (hI.bel 0) (mkT_I.keys hI ho.wh) fun h hw hv => markInt64S_A hI ho.wh hw hv hb hk0 hk1 fun h' u => ⟨rfl, u⟩
theorem markInt64SS_M {v : PV} {xs : List (List Int)} {k : Int} (hI : FII v xs) (ho : Own lo hi v) (hb : xs.length ≤ 4294967296) (hb2 : ∀ x ∈ xs, x.length ≤ 4294967296) (hk0 : 0 ≤ k) (hk1 : k + totL List.length xs ≤ 2305843009213693952) :
    MarkOK Try.prog 38 [v, .int .i64 k] σ (mkF mkI List.length k v xs) .i64 (k + totL List.length xs) :=
  MarkOK.of (hI.bel 0) (mkT_I.F.keys hI ho.wh) fun h hw hv => markInt64SS_A hI ho.wh ho.nd hw hv hb hb2 hk0 hk1 fun h' u => ⟨rfl, u⟩
theorem mkR_keys {k : Int} (hR : IsR vP vB W B) (hW : Wh (.agg [.int .i64 p, vP, vB])) : ∀ o ∈ (mkR k vP vB W B).map Prod.fst, o ∈ ead (.agg [.int .i64 p, vP, vB]) := by
  obtain ⟨_, wP, wB, _⟩ := hW
  intro o ho
  unfold mkR at ho
  rw [List.map_append, List.mem_append] at ho
  simp only [ead, eads, List.nil_append, List.append_nil, List.mem_append]
  exact ho.imp (mkT_I.F.keys hR.P wP o) (mkT_I.F.F.keys hR.B wB o)
theorem keysR {k : Int} (hR : IsR vP vB W B) (ho : Own lo hi (.agg [.int .i64 p, vP, vB])) : ∀ o ∈ (mkR k vP vB W B).map Prod.fst, lo ≤ o ∧ o < hi := fun o hm => ho.lt o (mkR_keys hR ho.wh o hm)
theorem markLieRing_M {k : Int} (hR : IsR vP vB W B) (ho : Own lo hi (.agg [.int .i64 p, vP, vB])) (sz : SzR W B) (hk0 : 0 ≤ k) (hk1 : k + totR W B ≤ 2305843009213693952) :
    MarkOK Try.prog 31 [.agg [.int .i64 p, vP, vB], .int .i64 k] σ (mkR k vP vB W B) .i64 (k + totR W B) :=
  MarkOK.of ⟨trivial, hR.P.bel 0, hR.B.bel 0, trivial⟩ (mkR_keys hR ho.wh) fun h hw hv => markLieRing_A hR ho.wh ho.nd hw hv sz hk0 hk1 fun h' u => ⟨rfl, u⟩
theorem heldInt64S_ok {v : PV} {xs : List Int} {k : Int} (hI : FI v (seqI k xs.length)) (hb : xs.length ≤ 4294967296) (hk0 : 0 ≤ k) (hk1 : k ≤ 2305843009213693952) (hk : K (.int .i64 (k + xs.length)) σ) : PCalls Try.prog 33 [v, .int .i64 k] σ K := by
  obtain ⟨w, a, rfl⟩ := hI
  have hl := seqI_length xs.length k
  have hg := seqI_get xs.length k
  generalize seqI k xs.length = ys at *
  refine pcalls_of_vp mix Try.func33 cf33 rfl ?_
  dsimp only [if33, qI, eI, nI, qD, eD]
  simp only [pwA, if_true, if_false, eq_self, nm_eq, reduceCtorEq, ↓reduceIte, Nat.reduceEqDiff, Nat.reduceLeDiff, Nat.reduceBEq, Nat.reduceAdd, Nat.reduceLT, Nat.reduceSub, Nat.reduceMul, Int.reduceEq, Int.reduceLT, Int.reduceLE, Int.reduceNeg, Int.reduceToNat, List.reduceReplicate, Int.ofNat_le, List.getElem?_drop]
  refine vp_loop (fun m vs h' => ∃ i : Nat, i ≤ ys.length ∧ m = ys.length - i ∧ vs = [.fz w a ys.length (pis ys), .int .i64 (k + (i : Int)), .int .i64 i] ∧ σ = h') ys.length ?_ ?_
  · exact ⟨0, by omega, by omega, by rw [show k + ((0 : Nat) : Int) = k by omega]; rfl, rfl⟩
  rintro m vs h' ⟨i, hi, rfl, rfl, rfl⟩
  simp only [pwA, if_true, if_false, eq_self, nm_eq, reduceCtorEq, ↓reduceIte, Nat.reduceEqDiff, Nat.reduceLeDiff, Nat.reduceBEq, Nat.reduceAdd, Nat.reduceLT, Nat.reduceSub, Nat.reduceMul, Int.reduceEq, Int.reduceLT, Int.reduceLE, Int.reduceNeg, Int.reduceToNat, List.reduceReplicate, Int.ofNat_le, List.getElem?_drop]
  refine iteI (fun hlt => ?_) fun hge => ?_
  · simp only [pwA, if_true, if_false, eq_self, nm_eq, reduceCtorEq, ↓reduceIte, Nat.reduceEqDiff, Nat.reduceLeDiff, Nat.reduceBEq, Nat.reduceAdd, Nat.reduceLT, Nat.reduceSub, Nat.reduceMul, Int.reduceEq, Int.reduceLT, Int.reduceLE, Int.reduceNeg, Int.reduceToNat, List.reduceReplicate, Int.ofNat_le, List.getElem?_drop, hlt, gi hlt, hg i hlt, pis_get, List.getElem?_drop, wrapS hlt (by omega : ys.length ≤ 4611686018427387904), wrap64 (n := k + (i : Int) + 1) (by omega) (by omega)]
    refine ⟨_, by omega, i + 1, by omega, rfl, ?_⟩
    have : k + (i : Int) + 1 = k + ((i + 1 : Nat) : Int) := by omega
    rw [this]
  · have hie : i = xs.length := by omega
    subst hie
    exact hk
theorem heldInt64SS_ok {v : PV} {xs : List (List Int)} {k : Int} (hI : FII v (sqL sqI List.length k xs)) (hb : xs.length ≤ 4294967296) (hb2 : ∀ x ∈ xs, x.length ≤ 4294967296) (hk0 : 0 ≤ k) (hk1 : k + totL List.length xs ≤ 2305843009213693952) (hk : K (.int .i64 (k + totL List.length xs)) σ) : PCalls Try.prog 39 [v, .int .i64 k] σ K := by
  obtain ⟨w, a, rows, rfl, hr⟩ := hI
  have hl := sqL_length sqI List.length xs k
  have hg : ∀ (i : Nat) (hi : i < xs.length) (h2 : i < (sqL sqI List.length k xs).length), (sqL sqI List.length k xs)[i] = sqI (k + totL List.length (xs.take i)) xs[i] := fun i hi _ => sqL_get sqI List.length xs k i hi
  generalize sqL sqI List.length k xs = ys at *
  refine pcalls_of_vp mix Try.func39 cf39 rfl ?_
  dsimp only [if39, qI, eI, nI, qD, eD]
  simp only [pwA, if_true, if_false, eq_self, nm_eq, reduceCtorEq, ↓reduceIte, Nat.reduceEqDiff, Nat.reduceLeDiff, Nat.reduceBEq, Nat.reduceAdd, Nat.reduceLT, Nat.reduceSub, Nat.reduceMul, Int.reduceEq, Int.reduceLT, Int.reduceLE, Int.reduceNeg, Int.reduceToNat, List.reduceReplicate, Int.ofNat_le, List.getElem?_drop]
  refine vp_loop (fun m vs h' => ∃ i : Nat, i ≤ ys.length ∧ m = ys.length - i ∧ vs = [.fz w a ys.length rows, .int .i64 (k + totL List.length (xs.take i)), .int .i64 i] ∧ σ = h') ys.length ?_ ?_
  · exact ⟨0, by omega, by omega, by rw [List.take_zero, totL_nil, show k + ((0 : Nat) : Int) = k by omega]; rfl, rfl⟩
  rintro m vs h' ⟨i, hi, rfl, rfl, rfl⟩
  simp only [pwA, if_true, if_false, eq_self, nm_eq, reduceCtorEq, ↓reduceIte, Nat.reduceEqDiff, Nat.reduceLeDiff, Nat.reduceBEq, Nat.reduceAdd, Nat.reduceLT, Nat.reduceSub, Nat.reduceMul, Int.reduceEq, Int.reduceLT, Int.reduceLE, Int.reduceNeg, Int.reduceToNat, List.reduceReplicate, Int.ofNat_le, List.getElem?_drop]
  refine iteI (fun hlt => ?_) fun hge => ?_
  · have hlx : i < xs.length := by omega
    obtain ⟨w4, a4, hrk⟩ := hr.rowI hlt
    have ht := totL_snoc (len := List.length) hlx
    have htl := totL_le List.length xs (i + 1)
    have hgi := hg i hlx hlt
    simp only [pwA, if_true, if_false, eq_self, nm_eq, reduceCtorEq, ↓reduceIte, Nat.reduceEqDiff, Nat.reduceLeDiff, Nat.reduceBEq, Nat.reduceAdd, Nat.reduceLT, Nat.reduceSub, Nat.reduceMul, Int.reduceEq, Int.reduceLT, Int.reduceLE, Int.reduceNeg, Int.reduceToNat, List.reduceReplicate, Int.ofNat_le, List.getElem?_drop, hlt, hrk, List.getElem?_drop]
    have hbi := hb2 _ (List.getElem_mem hlx)
    refine heldInt64S_ok (xs := xs[i]) ⟨w4, a4, by rw [hgi, sqI]⟩ hbi (by omega) (by omega) ?_
    have hn : ¬ (k + (totL List.length (xs.take i) : Int) + (xs[i].length : Int) < 0) := by omega
    simp only [pwA, if_true, if_false, eq_self, nm_eq, reduceCtorEq, ↓reduceIte, Nat.reduceEqDiff, Nat.reduceLeDiff, Nat.reduceBEq, Nat.reduceAdd, Nat.reduceLT, Nat.reduceSub, Nat.reduceMul, Int.reduceEq, Int.reduceLT, Int.reduceLE, Int.reduceNeg, Int.reduceToNat, List.reduceReplicate, Int.ofNat_le, List.getElem?_drop, hn, wrapS hlt (by omega : ys.length ≤ 4611686018427387904)]
    refine ⟨_, by omega, i + 1, by omega, rfl, ?_⟩
    have : k + (totL List.length (xs.take i) : Int) + (xs[i].length : Int) = k + (totL List.length (xs.take (i + 1)) : Int) := by omega
    rw [this]
  · have hie : i = xs.length := by omega
    subst hie
    rw [List.take_length]
    exact hk
theorem toInt64S_T {v : PV} {xs : List Int} (hI : FI v xs) (hb : xs.length ≤ 1048576) (hk : ∀ v t, FI v xs → Own σ.top t v → σ.top ≤ t → K v (σ.up t)) : PCalls Try.prog 28 [v] σ K :=
  PCalls.fzT (fun K' => toInt64S_ok hI hb) (pis_bel _ _) (Owns.pis _ _ _) fun o cap t h1 h2 => hk _ t ⟨_, _, rfl⟩ h1 h2
theorem toInt64SS_T {v : PV} {xs : List (List Int)} (hI : FII v xs) (sz : SzL xs) (hk : ∀ v t, FII v xs → Own σ.top t v → σ.top ≤ t → K v (σ.up t)) : PCalls Try.prog 19 [v] σ K := by
  obtain ⟨w, a, rs, rfl, hr⟩ := hI
  have hb := sz.l
  refine PCalls.gh ?_
  refine pcalls_of_vp mix Try.func19 cf19 rfl ?_
  dsimp only [if19, qI, eI, nI, qD, eD]
  simp only [pwA, if_true, if_false, eq_self, nm_eq, reduceCtorEq, ↓reduceIte, Nat.reduceEqDiff, Nat.reduceLeDiff, Nat.reduceBEq, Nat.reduceAdd, Nat.reduceLT, Nat.reduceSub, Nat.reduceMul, Int.reduceEq, Int.reduceLT, Int.reduceLE, Int.reduceNeg, Int.reduceToNat, List.reduceReplicate, Int.ofNat_le, List.getElem?_drop, mk24 (n := xs.length) (by omega), mkL (n := xs.length) (by omega)]
  refine vp_loop (fun m vs h' => ∃ i : Nat, i ≤ xs.length ∧ m = xs.length - i ∧ vs = [.fz w a xs.length rs, .sl σ.next 0 xs.length (.known xs.length), .int .i64 i] ∧ ∃ rows t, rows.length = i ∧ All2 FI rows (xs.take i) ∧ Owns σ.top t rows ∧ σ.top ≤ t ∧ h' = (σ.new (rows ++ List.replicate (xs.length - i) (.fz true .nils 0 []))).up t) xs.length ?_ ?_
  · exact ⟨0, by omega, by omega, rfl, [], σ.top, rfl, by simpa using All2.nil _, Owns.nil _ _, Nat.le_refl _, by simp [PHeap.up, PHeap.new]⟩
  rintro m vs h' ⟨i, hi, rfl, rfl, rows, t, hrl, hra, hro, htt, rfl⟩
  simp only [pwA, if_true, if_false, eq_self, nm_eq, reduceCtorEq, ↓reduceIte, Nat.reduceEqDiff, Nat.reduceLeDiff, Nat.reduceBEq, Nat.reduceAdd, Nat.reduceLT, Nat.reduceSub, Nat.reduceMul, Int.reduceEq, Int.reduceLT, Int.reduceLE, Int.reduceNeg, Int.reduceToNat, List.reduceReplicate, Int.ofNat_le, List.getElem?_drop]
  refine iteI (fun hlt => ?_) fun hge => ?_
  · obtain ⟨w4, a4, hrk⟩ := hr.rowI hlt
    simp only [pwA, if_true, if_false, eq_self, nm_eq, reduceCtorEq, ↓reduceIte, Nat.reduceEqDiff, Nat.reduceLeDiff, Nat.reduceBEq, Nat.reduceAdd, Nat.reduceLT, Nat.reduceSub, Nat.reduceMul, Int.reduceEq, Int.reduceLT, Int.reduceLE, Int.reduceNeg, Int.reduceToNat, List.reduceReplicate, Int.ofNat_le, List.getElem?_drop, hlt, hrk, List.getElem?_drop]
    refine toInt64S_T ⟨_, _, rfl⟩ (sz.r _ (List.getElem_mem hlt)) fun r t2 hr' ho' ht' => ?_
    have hlen : i + 1 ≤ (rows ++ List.replicate (xs.length - i) (PV.fz true .nils 0 [])).length := by simp; omega
    simp only [pwA, if_true, if_false, eq_self, nm_eq, reduceCtorEq, ↓reduceIte, Nat.reduceEqDiff, Nat.reduceLeDiff, Nat.reduceBEq, Nat.reduceAdd, Nat.reduceLT, Nat.reduceSub, Nat.reduceMul, Int.reduceEq, Int.reduceLT, Int.reduceLE, Int.reduceNeg, Int.reduceToNat, List.reduceReplicate, Int.ofNat_le, List.getElem?_drop, hlt, hlen, hr'.cells, hr'.one, wrapS hlt (by omega : xs.length ≤ 4611686018427387904)]
    refine ⟨_, by omega, i + 1, by omega, rfl, rfl, rows ++ [r], t2, by simp [hrl], ?_, hro.snoc ho' htt ht', Nat.le_trans htt ht', ?_⟩
    · rw [List.take_succ_eq_append_getElem hlt]; exact hra.snoc hr'
    · rw [rows_set hrl hlt]; rfl
  · have hie : i = xs.length := by omega
    subst hie
    rw [List.take_length] at hra
    rw [Nat.sub_self, List.replicate_zero, List.append_nil]
    exact Gh.own ((keep_new σ _).up htt) (by simp only [pwA, if_true, if_false, eq_self, nm_eq, reduceCtorEq, ↓reduceIte, Nat.reduceEqDiff, Nat.reduceLeDiff, Nat.reduceBEq, Nat.reduceAdd, Nat.reduceLT, Nat.reduceSub, Nat.reduceMul, Int.reduceEq, Int.reduceLT, Int.reduceLE, Int.reduceNeg, Int.reduceToNat, List.reduceReplicate, Int.ofNat_le, List.getElem?_drop]) (Nat.le_refl _) (hra.bI 0) (by simp [capOK]) hro fun o t h1 h2 => hk _ t ⟨_, _, _, rfl, hra⟩ h1 h2
theorem toInt64SSS_T {v : PV} {xs : List (List (List Int))} (hI : FIII v xs) (sz : SzM xs) (hk : ∀ v t, FIII v xs → Own σ.top t v → σ.top ≤ t → K v (σ.up t)) : PCalls Try.prog 57 [v] σ K := by
  obtain ⟨w, a, rs, rfl, hr⟩ := hI
  have hb := sz.l
  refine PCalls.gh ?_
  refine pcalls_of_vp mix Try.func57 cf57 rfl ?_
  dsimp only [if57, qI, eI, nI, qD, eD]
  simp only [pwA, if_true, if_false, eq_self, nm_eq, reduceCtorEq, ↓reduceIte, Nat.reduceEqDiff, Nat.reduceLeDiff, Nat.reduceBEq, Nat.reduceAdd, Nat.reduceLT, Nat.reduceSub, Nat.reduceMul, Int.reduceEq, Int.reduceLT, Int.reduceLE, Int.reduceNeg, Int.reduceToNat, List.reduceReplicate, Int.ofNat_le, List.getElem?_drop, mk24 (n := xs.length) (by omega), mkL (n := xs.length) (by omega)]
  refine vp_loop (fun m vs h' => ∃ i : Nat, i ≤ xs.length ∧ m = xs.length - i ∧ vs = [.fz w a xs.length rs, .sl σ.next 0 xs.length (.known xs.length), .int .i64 i] ∧ ∃ rows t, rows.length = i ∧ All2 FII rows (xs.take i) ∧ Owns σ.top t rows ∧ σ.top ≤ t ∧ h' = (σ.new (rows ++ List.replicate (xs.length - i) (.fz true .nils 0 []))).up t) xs.length ?_ ?_
  · exact ⟨0, by omega, by omega, rfl, [], σ.top, rfl, by simpa using All2.nil _, Owns.nil _ _, Nat.le_refl _, by simp [PHeap.up, PHeap.new]⟩
  rintro m vs h' ⟨i, hi, rfl, rfl, rows, t, hrl, hra, hro, htt, rfl⟩
  simp only [pwA, if_true, if_false, eq_self, nm_eq, reduceCtorEq, ↓reduceIte, Nat.reduceEqDiff, Nat.reduceLeDiff, Nat.reduceBEq, Nat.reduceAdd, Nat.reduceLT, Nat.reduceSub, Nat.reduceMul, Int.reduceEq, Int.reduceLT, Int.reduceLE, Int.reduceNeg, Int.reduceToNat, List.reduceReplicate, Int.ofNat_le, List.getElem?_drop]
  refine iteI (fun hlt => ?_) fun hge => ?_
  · obtain ⟨w4, a4, rk, hrk, hrs⟩ := hr.rowL hlt
    simp only [pwA, if_true, if_false, eq_self, nm_eq, reduceCtorEq, ↓reduceIte, Nat.reduceEqDiff, Nat.reduceLeDiff, Nat.reduceBEq, Nat.reduceAdd, Nat.reduceLT, Nat.reduceSub, Nat.reduceMul, Int.reduceEq, Int.reduceLT, Int.reduceLE, Int.reduceNeg, Int.reduceToNat, List.reduceReplicate, Int.ofNat_le, List.getElem?_drop, hlt, hrk, List.getElem?_drop]
    refine toInt64SS_T ⟨_, _, _, rfl, hrs⟩ (sz.r _ (List.getElem_mem hlt)) fun r t2 hr' ho' ht' => ?_
    have hlen : i + 1 ≤ (rows ++ List.replicate (xs.length - i) (PV.fz true .nils 0 [])).length := by simp; omega
    simp only [pwA, if_true, if_false, eq_self, nm_eq, reduceCtorEq, ↓reduceIte, Nat.reduceEqDiff, Nat.reduceLeDiff, Nat.reduceBEq, Nat.reduceAdd, Nat.reduceLT, Nat.reduceSub, Nat.reduceMul, Int.reduceEq, Int.reduceLT, Int.reduceLE, Int.reduceNeg, Int.reduceToNat, List.reduceReplicate, Int.ofNat_le, List.getElem?_drop, hlt, hlen, hr'.cells, hr'.one, wrapS hlt (by omega : xs.length ≤ 4611686018427387904)]
    refine ⟨_, by omega, i + 1, by omega, rfl, rfl, rows ++ [r], t2, by simp [hrl], ?_, hro.snoc ho' htt ht', Nat.le_trans htt ht', ?_⟩
    · rw [List.take_succ_eq_append_getElem hlt]; exact hra.snoc hr'
    · rw [rows_set hrl hlt]; rfl
  · have hie : i = xs.length := by omega
    subst hie
    rw [List.take_length] at hra
    rw [Nat.sub_self, List.replicate_zero, List.append_nil]
    exact Gh.own ((keep_new σ _).up htt) (by simp only [pwA, if_true, if_false, eq_self, nm_eq, reduceCtorEq, ↓reduceIte, Nat.reduceEqDiff, Nat.reduceLeDiff, Nat.reduceBEq, Nat.reduceAdd, Nat.reduceLT, Nat.reduceSub, Nat.reduceMul, Int.reduceEq, Int.reduceLT, Int.reduceLE, Int.reduceNeg, Int.reduceToNat, List.reduceReplicate, Int.ofNat_le, List.getElem?_drop]) (Nat.le_refl _) (hra.bL 0) (by simp [capOK]) hro fun o t h1 h2 => hk _ t ⟨_, _, _, rfl, hra⟩ h1 h2
theorem toLieRing_T (hR : IsR vP vB W B) (sz : SzR W B) (hk : ∀ vP vB t, IsR vP vB W B → Own σ.top t (.agg [.int .i64 p, vP, vB]) → σ.top ≤ t → K (.agg [.int .i64 p, vP, vB]) (σ.up t)) : PCalls Try.prog 18 [.agg [.int .i64 p, vP, vB]] σ K := by
  have h1 := hR.P.one
  have h2 := hR.B.one
  refine PCalls.gh ?_
  refine pcalls_of_vp mix Try.func18 cf18 rfl ?_
  dsimp only [if18, qI, eI, nI, qD, eD]
  simp only [pwA, if_true, if_false, eq_self, nm_eq, reduceCtorEq, ↓reduceIte, Nat.reduceEqDiff, Nat.reduceLeDiff, Nat.reduceBEq, Nat.reduceAdd, Nat.reduceLT, Nat.reduceSub, Nat.reduceMul, Int.reduceEq, Int.reduceLT, Int.reduceLE, Int.reduceNeg, Int.reduceToNat, List.reduceReplicate, Int.ofNat_le, List.getElem?_drop, h1, h2]
  refine toInt64SS_T hR.P sz.L fun v1 t1 hv1 ho1 ht1 => ?_
  simp only [pwA, if_true, if_false, eq_self, nm_eq, reduceCtorEq, ↓reduceIte, Nat.reduceEqDiff, Nat.reduceLeDiff, Nat.reduceBEq, Nat.reduceAdd, Nat.reduceLT, Nat.reduceSub, Nat.reduceMul, Int.reduceEq, Int.reduceLT, Int.reduceLE, Int.reduceNeg, Int.reduceToNat, List.reduceReplicate, Int.ofNat_le, List.getElem?_drop, hv1.cells, hv1.one]
  refine toInt64SSS_T hR.B sz.M fun v2 t2 hv2 ho2 ht2 => ?_
  simp only [pwA, if_true, if_false, eq_self, nm_eq, reduceCtorEq, ↓reduceIte, Nat.reduceEqDiff, Nat.reduceLeDiff, Nat.reduceBEq, Nat.reduceAdd, Nat.reduceLT, Nat.reduceSub, Nat.reduceMul, Int.reduceEq, Int.reduceLT, Int.reduceLE, Int.reduceNeg, Int.reduceToNat, List.reduceReplicate, Int.ofNat_le, List.getElem?_drop, hv2.cells, hv2.one, hv1.one]
  have hoo := (((Owns.nil σ.top σ.top).snoc (Own.int _ _ .i64 p) (Nat.le_refl _) (Nat.le_refl _)).snoc ho1 (Nat.le_refl _) ht1).snoc ho2 ht1 ht2
  exact Gh.fin0T (t := t2) (v := .agg [.int .i64 p, v1, v2]) (Keep.up (((keep_new σ _).new _).new _) (Nat.le_trans ht1 ht2)) (Nat.le_refl _) ⟨trivial, hv1.bel _, hv2.bel _, trivial⟩ fun _ => hk v1 v2 t2 ⟨hv1, hv2⟩ hoo.agg (Nat.le_trans ht1 ht2)
end
end Go.Proofs
set_option linter.unusedSimpArgs false
set_option linter.unusedVariables false
namespace Go.Proofs
open Go.Ab Go.Lie
variable {σ : PHeap} {K : PV → PHeap → Prop} {p p' : Int} {n : Nat} {W : List (List Int)} {B : List (List (List Int))} {vP vB vL vU vV : PV} {s : Nat}
/-- A result of some numbers that may be nil or lie in a new slot becomes a value of its own. -/
theorem PCalls.fzITx {P : Program} {f : FuncId} {args : List PV} {D : List Int → Prop} (c : ∀ K' : PV → PHeap → Prop, (∀ z, D z → ResI σ K' z) → PCalls P f args σ K') (k : ∀ z v t, D z → FI v z → Own σ.top t v → σ.top ≤ t → K v (σ.up t)) : PCalls P f args σ K :=
  PCalls.gh (c _ fun z hz => ⟨fun h0 => by subst h0; exact Gh.ret (k _ _ σ.top hz ⟨true, .nils, rfl⟩ (Own.empty _ _ _ _ _) (Nat.le_refl _)), fun cap hc => Gh.own (keep_new σ _) (by simp [PHeap.new]) (Nat.le_refl _) (pis_bel _ _) hc.ok (Owns.pis _ _ _) fun o t h1 h2 => k _ _ t hz ⟨true, _, rfl⟩ h1 h2⟩)
theorem divideLie_res {l : Nat} {w : Bool} {av : AV} {k : Int} {x : List Int} (hs : PtrR σ s p vP vB) (hP : FII vP W) (o : OkW p n W) (hpow : ipow p n ≤ 729) (hx : El p n x) (hl : l = x.length)
    (hk : ∀ z, DivL p n W k x z → ResI σ K z) : PCalls Try.prog 71 [.ptr s 0, .fz w av l (pis x), .int .i64 k] σ K := by
  have hn6 := o.le
  have hpr := o.pr
  have hxl := hx.1
  have hp0 : σ.rd1 s 0 = some (.int .i64 p) := by rw [obj_rd1 hs.obj]; rfl
  subst hl
  refine pcalls_of_vp mix Try.func71 cf71 rfl ?_
  dsimp only [if71, qI, eI, nI, qD, eD]
  simp only [pwA, if_true, if_false, eq_self, nm_eq, reduceCtorEq, ↓reduceIte, Nat.reduceEqDiff, Nat.reduceLeDiff, Nat.reduceBEq, Nat.reduceAdd, Nat.reduceLT, Nat.reduceSub, Nat.reduceMul, Int.reduceEq, Int.reduceLT, Int.reduceLE, Int.reduceNeg, Int.reduceToNat, List.reduceReplicate, Int.ofNat_le, List.getElem?_drop]
  refine isZero_ok rfl (by omega) ?_
  by_cases hz : isZ x
  · simp only [pwA, if_true, if_false, eq_self, nm_eq, reduceCtorEq, ↓reduceIte, Nat.reduceEqDiff, Nat.reduceLeDiff, Nat.reduceBEq, Nat.reduceAdd, Nat.reduceLT, Nat.reduceSub, Nat.reduceMul, Int.reduceEq, Int.reduceLT, Int.reduceLE, Int.reduceNeg, Int.reduceToNat, List.reduceReplicate, Int.ofNat_le, List.getElem?_drop, hz, decide_true]
    have hd : DivL p n W k x x := ⟨hx, fun _ => rfl, fun _ => by
      refine Eqv.of_eq fun j => ?_
      rw [isZ_at hz, Int.mul_zero]⟩
    refine Clone_ok rfl (by omega) ⟨fun h0 => ?_, fun cap hc => ?_⟩
    · simp only [pwA, if_true, if_false, eq_self, nm_eq, reduceCtorEq, ↓reduceIte, Nat.reduceEqDiff, Nat.reduceLeDiff, Nat.reduceBEq, Nat.reduceAdd, Nat.reduceLT, Nat.reduceSub, Nat.reduceMul, Int.reduceEq, Int.reduceLT, Int.reduceLE, Int.reduceNeg, Int.reduceToNat, List.reduceReplicate, Int.ofNat_le, List.getElem?_drop]
      exact (hk x hd).1 h0
    · simp only [pwA, if_true, if_false, eq_self, nm_eq, reduceCtorEq, ↓reduceIte, Nat.reduceEqDiff, Nat.reduceLeDiff, Nat.reduceBEq, Nat.reduceAdd, Nat.reduceLT, Nat.reduceSub, Nat.reduceMul, Int.reduceEq, Int.reduceLT, Int.reduceLE, Int.reduceNeg, Int.reduceToNat, List.reduceReplicate, Int.ofNat_le, List.getElem?_drop]
      exact (hk x hd).2 cap hc
  · have hn : 0 < n := by
      rcases Nat.eq_zero_or_pos n with h | h
      · exact absurd (by rw [List.eq_nil_of_length_eq_zero (hxl.trans h)]; intro y hy; cases hy) hz
      · exact h
    have hm1 : 2 ≤ ipow p n := by
      obtain ⟨n', rfl⟩ : ∃ n', n = n' + 1 := ⟨n - 1, by omega⟩
      have h1 : ∀ k : Nat, 1 ≤ ipow p k := fun k => by
        induction k with
        | zero => simp [ipow]
        | succ k ih =>
          have := Int.mul_le_mul_of_nonneg_left (show (1 : Int) ≤ p by have := hpr.1; omega) (show 0 ≤ ipow p k by omega)
          rw [ipow]; omega
      have := Int.mul_le_mul_of_nonneg_left (show (2 : Int) ≤ p from hpr.1) (show 0 ≤ ipow p n' by have := h1 n'; omega)
      have := h1 n'
      rw [ipow]; omega
    simp only [pwA, if_true, if_false, eq_self, nm_eq, reduceCtorEq, ↓reduceIte, Nat.reduceEqDiff, Nat.reduceLeDiff, Nat.reduceBEq, Nat.reduceAdd, Nat.reduceLT, Nat.reduceSub, Nat.reduceMul, Int.reduceEq, Int.reduceLT, Int.reduceLE, Int.reduceNeg, Int.reduceToNat, List.reduceReplicate, Int.ofNat_le, List.getElem?_drop, hz, decide_false, hp0, hxl]
    refine integerPower_ok hpr hn6 ?_
    simp only [pwA, if_true, if_false, eq_self, nm_eq, reduceCtorEq, ↓reduceIte, Nat.reduceEqDiff, Nat.reduceLeDiff, Nat.reduceBEq, Nat.reduceAdd, Nat.reduceLT, Nat.reduceSub, Nat.reduceMul, Int.reduceEq, Int.reduceLT, Int.reduceLE, Int.reduceNeg, Int.reduceToNat, List.reduceReplicate, Int.ofNat_le, List.getElem?_drop]
    refine residue_ok (by omega) (by omega) ?_
    simp only [pwA, if_true, if_false, eq_self, nm_eq, reduceCtorEq, ↓reduceIte, Nat.reduceEqDiff, Nat.reduceLeDiff, Nat.reduceBEq, Nat.reduceAdd, Nat.reduceLT, Nat.reduceSub, Nat.reduceMul, Int.reduceEq, Int.reduceLT, Int.reduceLE, Int.reduceNeg, Int.reduceToNat, List.reduceReplicate, Int.ofNat_le, List.getElem?_drop]
    refine inverseG_ok (Int.emod_nonneg _ (by omega)) (Int.emod_lt_of_pos _ (by omega)) (by omega) fun y yb h1 h2 h3 => ?_
    simp only [pwA, if_true, if_false, eq_self, nm_eq, reduceCtorEq, ↓reduceIte, Nat.reduceEqDiff, Nat.reduceLeDiff, Nat.reduceBEq, Nat.reduceAdd, Nat.reduceLT, Nat.reduceSub, Nat.reduceMul, Int.reduceEq, Int.reduceLT, Int.reduceLE, Int.reduceNeg, Int.reduceToNat, List.reduceReplicate, Int.ofNat_le, List.getElem?_drop]
    have hd : DivL p n W k x (lmul p W y x) := DivL.mk' o hx hz (m := ipow p n) (by
      rw [ipow_pw]
      exact kill_all o fun j hj => hx.beyond hj) fun hc => by
        obtain ⟨z, w', hzw⟩ := cop_inv hc hn
        rw [← ipow_pw] at hzw
        have em := Int.mul_ediv_add_emod k (ipow p n)
        obtain ⟨t, ht⟩ := h3 ⟨z, w' - k / ipow p n * z, by grind⟩
        exact ⟨t + k / ipow p n * y, by grind⟩
    refine timesLie_ok hs hP o hx hxl.symm (by omega) ⟨fun h0 => ?_, fun cap hc => ?_⟩
    · simp only [pwA, if_true, if_false, eq_self, nm_eq, reduceCtorEq, ↓reduceIte, Nat.reduceEqDiff, Nat.reduceLeDiff, Nat.reduceBEq, Nat.reduceAdd, Nat.reduceLT, Nat.reduceSub, Nat.reduceMul, Int.reduceEq, Int.reduceLT, Int.reduceLE, Int.reduceNeg, Int.reduceToNat, List.reduceReplicate, Int.ofNat_le, List.getElem?_drop]
      exact (hk _ hd).1 h0
    · simp only [pwA, if_true, if_false, eq_self, nm_eq, reduceCtorEq, ↓reduceIte, Nat.reduceEqDiff, Nat.reduceLeDiff, Nat.reduceBEq, Nat.reduceAdd, Nat.reduceLT, Nat.reduceSub, Nat.reduceMul, Int.reduceEq, Int.reduceLT, Int.reduceLE, Int.reduceNeg, Int.reduceToNat, List.reduceReplicate, Int.ofNat_le, List.getElem?_drop]
      exact (hk _ hd).2 cap hc
theorem cop_of_mod {k : Int} (hp : isP p) (h : k % p ≠ 0) : Cop p k := by
  have hb := hp.bd
  have h1 := Int.emod_nonneg k (show p ≠ 0 by omega)
  have h2 := Int.emod_lt_of_pos k (show 0 < p by omega)
  obtain ⟨e, e1, e2, e3⟩ := inv_ex (p := p) (a := k % p) hp (by omega) h2
  have h4 := Int.mul_ediv_add_emod k p
  have h5 := Int.mul_ediv_add_emod (k % p * e) p
  rw [e3] at h5
  exact ⟨e, k % p * e / p + k / p * e, by grind⟩
theorem CodeL.zero {xs : List (List Int)} (h : CodeL p W B xs 0) : (isLie p W B ∧ Els p W.length xs) ∧ isLz p W.length W B := by
  rcases h with ⟨_, h⟩ | ⟨_, _, h⟩ | ⟨h1, h2, _⟩
  · omega
  · omega
  · exact ⟨h1, h2⟩
theorem two_row {v u : PV} {x y : List Int} {w : Bool} {a : AV} (hx : FI v x) (hy : FI u y) : FII (.fz w a 2 [v, u]) [x, y] := ⟨w, a, [v, u], rfl, by simpa using ((All2.nil _).snoc hx).snoc hy⟩
theorem SzL.two {x y : List Int} (h : x.length ≤ 1048576) (g : y.length ≤ 1048576) : SzL [x, y] := ⟨by simp, fun z hz => by simp at hz; rcases hz with rfl | rfl <;> assumption⟩
end Go.Proofs
set_option linter.unusedSimpArgs false
set_option linter.unusedVariables false
namespace Go.Proofs
open Go.Ab Go.Lie
variable {p : Int} {n : Nat} {W : List (List Int)} {B : List (List (List Int))} {c k : Nat} {f g : Vec}
/-- In the member k of the lower central series. -/
def Lw (p : Int) (n : Nat) (W : List (List Int)) (B : List (List (List Int))) (k : Nat) (f : Vec) : Prop := ∃ u, Low p n W B k u ∧ Gen p n W u f
/-- A ring of class c, without faults. -/
structure Rg (p : Int) (n : Nat) (W : List (List Int)) (B : List (List (List Int))) (c : Nat) : Prop where
  o : OkW p n W
  q : OkB p n B
  nf : NoFault p W B n
  cls : Cls p n W B c
theorem low_down : ∀ {m : Nat} {u : List (List Int)}, Low p n W B m u → ∀ k, k ≤ m → ∃ v, Low p n W B k v
  | 0, u, h, k, hk => by
    have : k = 0 := by omega
    subst this; exact ⟨u, h⟩
  | m + 1, u, h, k, hk => by
    by_cases e : k = m + 1
    · subst e; exact ⟨u, h⟩
    · cases h with
      | succ h hc => exact low_down h k (by omega)
theorem Rg.low (r : Rg p n W B c) (k : Nat) : ∃ u, Low p n W B k u := by
  rcases Nat.le_total k c with x | x
  · exact low_down r.cls.1 k x
  · obtain ⟨u, ⟨h, _⟩ | h⟩ := cls_low r.o r.q r.cls k
    · exact ⟨u, h⟩
    · exact ⟨[], by omega⟩
theorem Rg.sub (r : Rg p n W B c) (k : Nat) : IsSub p n W (Lw p n W B k) := by
  obtain ⟨u, hu⟩ := r.low k
  have hs := gen_sub (p := p) (n := n) (W := W) u
  have e : ∀ {f : Vec}, Lw p n W B k f → Gen p n W u f := fun {f} ⟨v, hv, hg⟩ => by rw [hu.unique r.o hv]; exact hg
  exact ⟨⟨u, hu, hs.zero⟩, fun f g a b => ⟨u, hu, hs.add _ _ (e a) (e b)⟩, fun k f a => ⟨u, hu, hs.mul _ _ (e a)⟩, fun f g a b => ⟨u, hu, hs.eqv _ _ a (e b)⟩⟩
theorem Rg.all (r : Rg p n W B c) {x : List Int} (hx : El p n x) : Lw p n W B 0 (at_ x) := ⟨_, .zero, gen_units r.o hx⟩
theorem Rg.brk (r : Rg p n W B c) (hf : Lw p n W B k f) (g : Vec) : Lw p n W B (k + 1) (brv B n f g) := by
  obtain ⟨u, hu, hg⟩ := hf
  obtain ⟨v, hv⟩ := r.low (k + 1)
  cases hv with
  | succ h hc =>
    rw [h.unique r.o hu] at hc
    exact ⟨v, .succ hu hc, low_gen r.o r.q r.nf hc hg g⟩
theorem Rg.brk2 (r : Rg p n W B c) (hg : Lw p n W B k g) (f : Vec) : Lw p n W B (k + 1) (brv B n f g) :=
  (r.sub _).eqv _ _ (Eqv.of_eq fun t => brv_anti f g t) ((r.sub _).mul (-1) _ (r.brk hg f))
theorem Rg.top (r : Rg p n W B c) (hk : c ≤ k) (hf : Lw p n W B k f) : Eqv p n W f fun _ => 0 := by
  obtain ⟨u, hu, hg⟩ := hf
  obtain ⟨v, ⟨hv, h0⟩ | h⟩ := cls_low r.o r.q r.cls k
  · rw [hu.unique r.o hv, h0 hk] at hg
    exact gen_nil hg
  · omega
theorem Rg.zero (r : Rg p n W B c) (hk : c ≤ k) {z : List Int} (hz : El p n z) (hf : Lw p n W B k (at_ z)) : isZ z := zero_of_eqv r.o hz (r.top hk hf)
theorem Rg.bL (r : Rg p n W B c) {x y : List Int} (hf : Lw p n W B k (at_ x)) : Lw p n W B (k + 1) (at_ (br p W B n x y)) := (r.sub _).eqv _ _ (br_eqv r.o r.q x y) (r.brk hf _)
theorem Rg.bR (r : Rg p n W B c) {x y : List Int} (hf : Lw p n W B k (at_ y)) : Lw p n W B (k + 1) (at_ (br p W B n x y)) := (r.sub _).eqv _ _ (br_eqv r.o r.q x y) (r.brk2 hf _)
theorem Rg.addL (r : Rg p n W B c) {x y : List Int} (hx : El p n x) (hy : El p n y) (h1 : Lw p n W B k (at_ x)) (h2 : Lw p n W B k (at_ y)) : Lw p n W B k (at_ (ladd p W x y)) := (r.sub _).eqv _ _ (ladd_eqv r.o hx hy) ((r.sub _).add _ _ h1 h2)
theorem Rg.mulL (r : Rg p n W B c) {x : List Int} (hx : El p n x) (m : Int) (h1 : Lw p n W B k (at_ x)) : Lw p n W B k (at_ (lmul p W m x)) := (r.sub _).eqv _ _ (lmul_eqv r.o hx m) ((r.sub _).mul m _ h1)
/-- The third term of a product, before it is divided. -/
def third3 (p : Int) (W : List (List Int)) (B : List (List (List Int))) (n : Nat) (x y : List Int) : List Int := ladd p W (br p W B n x (br p W B n x y)) (br p W B n y (lmul p W (-1) (br p W B n x y)))
theorem third_el (o : OkW p n W) (q : OkB p n B) {x y : List Int} : El p n (third3 p W B n x y) := lmix_el o (br_el o q) (br_el o q)
theorem Rg.thd (r : Rg p n W B c) {x y : List Int} (hf : Lw p n W B k (at_ (br p W B n x y))) : Lw p n W B (k + 1) (at_ (third3 p W B n x y)) :=
  r.addL (br_el r.o r.q) (br_el r.o r.q) (r.bR hf) (r.bR (r.mulL (br_el r.o r.q) (-1) hf))
theorem cop_two {p : Int} (hp : isP p) (h : p ≠ 2) : Cop p 2 ∧ Cop p (-2) := by
  rcases hp with rfl | rfl | rfl | rfl
  · exact absurd rfl h
  · exact ⟨⟨2, 1, by decide⟩, ⟨1, -1, by decide⟩⟩
  · exact ⟨⟨3, 1, by decide⟩, ⟨2, -1, by decide⟩⟩
  · exact ⟨⟨4, 1, by decide⟩, ⟨3, -1, by decide⟩⟩
theorem cop_twelve {p : Int} (hp : isP p) (h : p ≠ 2) (h3 : p ≠ 3) : Cop p 12 ∧ Cop p (-12) := by
  rcases hp with rfl | rfl | rfl | rfl
  · exact absurd rfl h
  · exact absurd rfl h3
  · exact ⟨⟨3, 7, by decide⟩, ⟨2, -5, by decide⟩⟩
  · exact ⟨⟨3, 5, by decide⟩, ⟨4, -7, by decide⟩⟩
/-- What is a bracket may be divided by 2. -/
theorem Rg.two (r : Rg p n W B c) (hp : isP p) (hc : (c : Int) < p) {z : List Int} (hz : El p n z) (h : Lw p n W B 1 (at_ z)) : isZ z ∨ (Cop p 2 ∧ Cop p (-2)) := by
  by_cases h2 : p = 2
  · exact .inl (r.zero (by omega) hz h)
  · exact .inr (cop_two hp h2)
/-- What is a bracket of brackets may be divided by 12. -/
theorem Rg.twelve (r : Rg p n W B c) (hp : isP p) (hc : (c : Int) < p) {z : List Int} (hz : El p n z) (h : Lw p n W B 2 (at_ z)) : isZ z ∨ (Cop p 12 ∧ Cop p (-12)) := by
  by_cases h2 : p = 2
  · exact .inl (r.zero (by omega) hz h)
  · by_cases h3 : p = 3
    · exact .inl (r.zero (by omega) hz h)
    · exact .inr (cop_twelve hp h2 h3)
/-- x divided by k. -/
noncomputable def dv (p : Int) (n : Nat) (W : List (List Int)) (k : Int) (x : List Int) : List Int := Classical.epsilon (DivL p n W k x)
theorem dv_eq (o : OkW p n W) {k : Int} {x z : List Int} (hx : El p n x) (h : DivL p n W k x z) (hk : isZ x ∨ Cop p k) : z = dv p n W k x :=
  h.unique o hx (Classical.epsilon_spec ⟨z, h⟩) hk
theorem div_ex (o : OkW p n W) {k : Int} {x : List Int} (hx : El p n x) : ∃ z, DivL p n W k x z := by
  by_cases hz : isZ x
  · exact ⟨x, hx, fun _ => rfl, fun _ => Eqv.of_eq fun j => by rw [isZ_at hz, Int.mul_zero]⟩
  · by_cases hc : Cop p k
    · have hn : 0 < n := by
        rcases Nat.eq_zero_or_pos n with h | h
        · exact absurd (by rw [List.eq_nil_of_length_eq_zero (hx.1.trans h)]; intro y hy; cases hy) hz
        · exact h
      obtain ⟨y, w, hy⟩ := cop_inv hc hn
      exact ⟨_, DivL.mk' o hx hz (y := y) (kill_all o fun j hj => hx.beyond hj) fun _ => ⟨w, hy⟩⟩
    · exact ⟨x, hx, fun h => absurd h hz, fun h => absurd h hc⟩
theorem dv_spec (o : OkW p n W) {k : Int} {x : List Int} (hx : El p n x) : DivL p n W k x (dv p n W k x) := Classical.epsilon_spec (div_ex o hx)
theorem dv_el (o : OkW p n W) {k : Int} {x : List Int} (hx : El p n x) : El p n (dv p n W k x) := (dv_spec o hx).el
theorem Rg.brD (r : Rg p n W B c) {x y : List Int} (hx : El p n x) : Lw p n W B 1 (at_ (br p W B n x y)) := r.bL (r.all hx)
theorem Rg.of_lie (hl : isLie p W B) (hz : isLz p W.length W B) : ∃ c, Rg p W.length W B c ∧ (c : Int) < p := by
  obtain ⟨c, hc, hp⟩ := hz
  exact ⟨c, ⟨hl.1.w, hl.1.b, hl.2, hc⟩, hp⟩
end Go.Proofs
set_option linter.unusedSimpArgs false
set_option linter.unusedVariables false
namespace Go.Proofs
open Go.Ab Go.Lie
variable {σ : PHeap} {K : PV → PHeap → Prop} {p : Int} {n c : Nat} {W : List (List Int)} {B : List (List (List Int))} {vP vB vL : PV} {s : Nat} {x y : List Int} {vx vy : PV}
/-- What products need of a ring. -/
structure Lz (p : Int) (n : Nat) (W : List (List Int)) (B : List (List (List Int))) (c : Nat) : Prop where
  r : Rg p n W B c
  hp : isP p
  hc : (c : Int) < p
  pow : ipow p n ≤ 729
theorem Lz.of (hl : isLie p W B) (hz : isLz p W.length W B) : ∃ c, Lz p W.length W B c := by
  obtain ⟨c, r, hc⟩ := Rg.of_lie hl hz
  exact ⟨c, r, hl.1.1, hc, hl.1.2.2.2.1⟩
theorem Lz.d2 (z : Lz p n W B c) (hx : El p n x) : isZ (br p W B n x y) ∨ Cop p 2 := (z.r.two z.hp z.hc (br_el z.r.o z.r.q) (z.r.brD hx)).imp id (·.1)
theorem Lz.d12 (z : Lz p n W B c) (hx : El p n x) : isZ (third3 p W B n x y) ∨ Cop p 12 := (z.r.twelve z.hp z.hc (third_el z.r.o z.r.q) (z.r.thd (z.r.brD hx))).imp id (·.1)
theorem bchTerms_T (z : Lz p n W B c) (hs : PtrR σ s p vP vB) (hR : IsR vP vB W B) (hx : El p n x) (hy : El p n y) (hvx : FI vx x) (hvy : FI vy y)
    (hk : ∀ a v1 v2 v3 t, FI v1 (ladd p W x y) → FI v2 (dv p n W 2 (br p W B n x y)) → FI v3 (dv p n W 12 (third3 p W B n x y)) → Own σ.top t (.fz true a 3 [v1, v2, v3]) → σ.top ≤ t → K (.fz true a 3 [v1, v2, v3]) (σ.up t)) :
    PCalls Try.prog 81 [.ptr s 0, vx, vy] σ K := by
  have o := z.r.o
  have q := z.r.q
  have hxl := hx.1
  have hyl := hy.1
  obtain ⟨wx, ax, rfl⟩ := hvx
  obtain ⟨wy, ay, rfl⟩ := hvy
  refine PCalls.gh ?_
  have bel := br_el o q (a := x) (b := y)
  refine pcalls_of_vp mix Try.func81 cf81 rfl ?_
  dsimp only [if81, qI, eI, nI, qD, eD]
  simp only [pwA, if_true, if_false, eq_self, nm_eq, reduceCtorEq, ↓reduceIte, Nat.reduceEqDiff, Nat.reduceLeDiff, Nat.reduceBEq, Nat.reduceAdd, Nat.reduceLT, Nat.reduceSub, Nat.reduceMul, Int.reduceEq, Int.reduceLT, Int.reduceLE, Int.reduceNeg, Int.reduceToNat, List.reduceReplicate, Int.ofNat_le, List.getElem?_drop]
  refine bracket_fz hs hR o q hx hy rfl rfl fun v1 => ?_
  simp only [pwA, if_true, if_false, eq_self, nm_eq, reduceCtorEq, ↓reduceIte, Nat.reduceEqDiff, Nat.reduceLeDiff, Nat.reduceBEq, Nat.reduceAdd, Nat.reduceLT, Nat.reduceSub, Nat.reduceMul, Int.reduceEq, Int.reduceLT, Int.reduceLE, Int.reduceNeg, Int.reduceToNat, List.reduceReplicate, Int.ofNat_le, List.getElem?_drop]
  refine bracket_fz hs hR o q hx bel rfl bel.1.symm fun v2 => ?_
  simp only [pwA, if_true, if_false, eq_self, nm_eq, reduceCtorEq, ↓reduceIte, Nat.reduceEqDiff, Nat.reduceLeDiff, Nat.reduceBEq, Nat.reduceAdd, Nat.reduceLT, Nat.reduceSub, Nat.reduceMul, Int.reduceEq, Int.reduceLT, Int.reduceLE, Int.reduceNeg, Int.reduceToNat, List.reduceReplicate, Int.ofNat_le, List.getElem?_drop]
  refine timesLie_fz hs hR.P o bel bel.1.symm (by decide) fun v3 => ?_
  have m1 : El p n (lmul p W (-1) (br p W B n x y)) := lmix_el o bel bel
  simp only [pwA, if_true, if_false, eq_self, nm_eq, reduceCtorEq, ↓reduceIte, Nat.reduceEqDiff, Nat.reduceLeDiff, Nat.reduceBEq, Nat.reduceAdd, Nat.reduceLT, Nat.reduceSub, Nat.reduceMul, Int.reduceEq, Int.reduceLT, Int.reduceLE, Int.reduceNeg, Int.reduceToNat, List.reduceReplicate, Int.ofNat_le, List.getElem?_drop]
  refine bracket_fz hs hR o q hy m1 rfl m1.1.symm fun v4 => ?_
  simp only [pwA, if_true, if_false, eq_self, nm_eq, reduceCtorEq, ↓reduceIte, Nat.reduceEqDiff, Nat.reduceLeDiff, Nat.reduceBEq, Nat.reduceAdd, Nat.reduceLT, Nat.reduceSub, Nat.reduceMul, Int.reduceEq, Int.reduceLT, Int.reduceLE, Int.reduceNeg, Int.reduceToNat, List.reduceReplicate, Int.ofNat_le, List.getElem?_drop]
  have e2 : El p n (br p W B n x (br p W B n x y)) := br_el o q
  have e4 : El p n (br p W B n y (lmul p W (-1) (br p W B n x y))) := br_el o q
  refine addLie_fz hs hR.P o e2 e4 e2.1.symm e4.1.symm fun v5 => ?_
  simp only [pwA, if_true, if_false, eq_self, nm_eq, reduceCtorEq, ↓reduceIte, Nat.reduceEqDiff, Nat.reduceLeDiff, Nat.reduceBEq, Nat.reduceAdd, Nat.reduceLT, Nat.reduceSub, Nat.reduceMul, Int.reduceEq, Int.reduceLT, Int.reduceLE, Int.reduceNeg, Int.reduceToNat, List.reduceReplicate, Int.ofNat_le, List.getElem?_drop]
  refine PCalls.fzIT (fun K' => addLie_ok hs hR.P o hx hy rfl rfl) fun w1 t1 f1 o1 ht1 => ?_
  have hs1 : PtrR (σ.up t1) s p vP vB := ⟨hs.obj, hs.lt⟩
  simp only [pwA, if_true, if_false, eq_self, nm_eq, reduceCtorEq, ↓reduceIte, Nat.reduceEqDiff, Nat.reduceLeDiff, Nat.reduceBEq, Nat.reduceAdd, Nat.reduceLT, Nat.reduceSub, Nat.reduceMul, Int.reduceEq, Int.reduceLT, Int.reduceLE, Int.reduceNeg, Int.reduceToNat, List.reduceReplicate, Int.ofNat_le, List.getElem?_drop]
  refine PCalls.fzITx (fun K' => divideLie_res hs1 hR.P o z.pow bel bel.1.symm) fun z2 w2 t2 d2 f2 o2 ht2 => ?_
  have hs2 : PtrR (σ.up t2) s p vP vB := ⟨hs.obj, hs.lt⟩
  simp only [pwA, if_true, if_false, eq_self, nm_eq, reduceCtorEq, ↓reduceIte, Nat.reduceEqDiff, Nat.reduceLeDiff, Nat.reduceBEq, Nat.reduceAdd, Nat.reduceLT, Nat.reduceSub, Nat.reduceMul, Int.reduceEq, Int.reduceLT, Int.reduceLE, Int.reduceNeg, Int.reduceToNat, List.reduceReplicate, Int.ofNat_le, List.getElem?_drop]
  have te := third_el o q (x := x) (y := y)
  refine PCalls.fzITx (fun K' => divideLie_res hs2 hR.P o z.pow (x := third3 p W B n x y) te te.1.symm) fun z3 w3 t3 d3 f3 o3 ht3 => ?_
  rw [dv_eq o bel d2 (z.d2 hx)] at f2
  rw [dv_eq o te d3 (z.d12 hx)] at f3
  simp only [ptop_up] at o2 ht2 o3 ht3
  simp only [pwA, if_true, if_false, eq_self, nm_eq, reduceCtorEq, ↓reduceIte, Nat.reduceEqDiff, Nat.reduceLeDiff, Nat.reduceBEq, Nat.reduceAdd, Nat.reduceLT, Nat.reduceSub, Nat.reduceMul, Int.reduceEq, Int.reduceLT, Int.reduceLE, Int.reduceNeg, Int.reduceToNat, List.reduceReplicate, Int.ofNat_le, List.getElem?_drop, f1.cells, f1.one, f2.cells, f2.one, f3.cells, f3.one]
  have hoo := (((Owns.nil σ.top σ.top).snoc o1 (Nat.le_refl _) ht1).snoc o2 ht1 ht2).snoc o3 (Nat.le_trans ht1 ht2) ht3
  exact Gh.own (cs := [w1, w2, w3]) ((Keep.refl σ).new _ |>.up (by simp only [ptop_new]; omega)) (by simp only [pwA, if_true, if_false, eq_self, nm_eq, reduceCtorEq, ↓reduceIte, Nat.reduceEqDiff, Nat.reduceLeDiff, Nat.reduceBEq, Nat.reduceAdd, Nat.reduceLT, Nat.reduceSub, Nat.reduceMul, Int.reduceEq, Int.reduceLT, Int.reduceLE, Int.reduceNeg, Int.reduceToNat, List.reduceReplicate, Int.ofNat_le, List.getElem?_drop]) (Nat.le_refl _) ⟨f1.bel 0, f2.bel 0, f3.bel 0, trivial⟩ (by simp [capOK]) (hoo.mono (Nat.le_refl _) (Nat.le_refl _)) fun o4 t4 h1 h2 => hk _ w1 w2 w3 t4 f1 f2 f3 h1 h2
theorem l33Terms_fz (z : Lz p n W B c) (hR : IsR vP vB W B) (hx : El p n x) (hy : El p n y) (hvx : FI vx x) (hvy : FI vy y)
    (hk : ∀ a v1 v2 v3, FI v1 (ladd p W x y) → FI v2 (dv p n W 2 (br p W B n x y)) → FI v3 (dv p n W 12 (third3 p W B n x y)) → K (.fz true a 3 [v1, v2, v3]) σ) :
    PCalls Try.prog 80 [.agg [.int .i64 p, vP, vB], vx, vy] σ K := by
  have o := z.r.o
  have q := z.r.q
  have hxl := hx.1
  have hyl := hy.1
  have h1 := hR.P.one
  have h2 := hR.B.one
  obtain ⟨wx, ax, rfl⟩ := hvx
  obtain ⟨wy, ay, rfl⟩ := hvy
  refine PCalls.gh ?_
  have bel := br_el o q (a := x) (b := y)
  refine pcalls_of_vp mix Try.func80 cf80 rfl ?_
  dsimp only [if80, qI, eI, nI, qD, eD]
  simp only [pwA, if_true, if_false, eq_self, nm_eq, reduceCtorEq, ↓reduceIte, Nat.reduceEqDiff, Nat.reduceLeDiff, Nat.reduceBEq, Nat.reduceAdd, Nat.reduceLT, Nat.reduceSub, Nat.reduceMul, Int.reduceEq, Int.reduceLT, Int.reduceLE, Int.reduceNeg, Int.reduceToNat, List.reduceReplicate, Int.ofNat_le, List.getElem?_drop, h1, h2]
  refine l31Bracket_ok hR o q hx hy rfl rfl fun v1 => ?_
  simp only [pwA, if_true, if_false, eq_self, nm_eq, reduceCtorEq, ↓reduceIte, Nat.reduceEqDiff, Nat.reduceLeDiff, Nat.reduceBEq, Nat.reduceAdd, Nat.reduceLT, Nat.reduceSub, Nat.reduceMul, Int.reduceEq, Int.reduceLT, Int.reduceLE, Int.reduceNeg, Int.reduceToNat, List.reduceReplicate, Int.ofNat_le, List.getElem?_drop]
  refine l31Bracket_ok hR o q hx bel rfl bel.1.symm fun v2 => ?_
  simp only [pwA, if_true, if_false, eq_self, nm_eq, reduceCtorEq, ↓reduceIte, Nat.reduceEqDiff, Nat.reduceLeDiff, Nat.reduceBEq, Nat.reduceAdd, Nat.reduceLT, Nat.reduceSub, Nat.reduceMul, Int.reduceEq, Int.reduceLT, Int.reduceLE, Int.reduceNeg, Int.reduceToNat, List.reduceReplicate, Int.ofNat_le, List.getElem?_drop]
  refine l31Bracket_ok hR o q hy bel rfl bel.1.symm fun v3 => ?_
  simp only [pwA, if_true, if_false, eq_self, nm_eq, reduceCtorEq, ↓reduceIte, Nat.reduceEqDiff, Nat.reduceLeDiff, Nat.reduceBEq, Nat.reduceAdd, Nat.reduceLT, Nat.reduceSub, Nat.reduceMul, Int.reduceEq, Int.reduceLT, Int.reduceLE, Int.reduceNeg, Int.reduceToNat, List.reduceReplicate, Int.ofNat_le, List.getElem?_drop]
  have e2 : El p n (br p W B n x (br p W B n x y)) := br_el o q
  have e3 : El p n (br p W B n y (br p W B n x y)) := br_el o q
  refine l31Mix_el hR o e2 e3 e2.1.symm e3.1.symm (by decide) (by decide) fun v4 => ?_
  have te := third_el o q (x := x) (y := y)
  have hth := third o q z.r.nf (x := x) (y := y) bel
  rw [← hth]
  simp only [pwA, if_true, if_false, eq_self, nm_eq, reduceCtorEq, ↓reduceIte, Nat.reduceEqDiff, Nat.reduceLeDiff, Nat.reduceBEq, Nat.reduceAdd, Nat.reduceLT, Nat.reduceSub, Nat.reduceMul, Int.reduceEq, Int.reduceLT, Int.reduceLE, Int.reduceNeg, Int.reduceToNat, List.reduceReplicate, Int.ofNat_le, List.getElem?_drop]
  refine l31Mix_el hR o hx hy rfl rfl (by decide) (by decide) fun v5 => ?_
  simp only [pwA, if_true, if_false, eq_self, nm_eq, reduceCtorEq, ↓reduceIte, Nat.reduceEqDiff, Nat.reduceLeDiff, Nat.reduceBEq, Nat.reduceAdd, Nat.reduceLT, Nat.reduceSub, Nat.reduceMul, Int.reduceEq, Int.reduceLT, Int.reduceLE, Int.reduceNeg, Int.reduceToNat, List.reduceReplicate, Int.ofNat_le, List.getElem?_drop]
  refine l33Part_ok hR o z.pow bel bel.1.symm fun w6 v6 z2 d2 => ?_
  simp only [pwA, if_true, if_false, eq_self, nm_eq, reduceCtorEq, ↓reduceIte, Nat.reduceEqDiff, Nat.reduceLeDiff, Nat.reduceBEq, Nat.reduceAdd, Nat.reduceLT, Nat.reduceSub, Nat.reduceMul, Int.reduceEq, Int.reduceLT, Int.reduceLE, Int.reduceNeg, Int.reduceToNat, List.reduceReplicate, Int.ofNat_le, List.getElem?_drop]
  refine l33Part_ok hR o z.pow (x := third3 p W B n x y) te te.1.symm fun w7 v7 z3 d3 => ?_
  have hz2 := dv_eq o bel d2 (z.d2 hx)
  have hz3 := dv_eq o te d3 (z.d12 hx)
  subst hz2
  subst hz3
  simp only [pwA, if_true, if_false, eq_self, nm_eq, reduceCtorEq, ↓reduceIte, Nat.reduceEqDiff, Nat.reduceLeDiff, Nat.reduceBEq, Nat.reduceAdd, Nat.reduceLT, Nat.reduceSub, Nat.reduceMul, Int.reduceEq, Int.reduceLT, Int.reduceLE, Int.reduceNeg, Int.reduceToNat, List.reduceReplicate, Int.ofNat_le, List.getElem?_drop]
  exact Gh.finF (s := σ.next + 1) (cs := [.fz true v5 n (pis (ladd p W x y)), .fz w6 v6 n (pis (dv p n W 2 (br p W B n x y))), .fz w7 v7 n (pis (dv p n W 12 (third3 p W B n x y)))]) (((keep_new σ _).new _)) (by simp only [pwA, if_true, if_false, eq_self, nm_eq, reduceCtorEq, ↓reduceIte, Nat.reduceEqDiff, Nat.reduceLeDiff, Nat.reduceBEq, Nat.reduceAdd, Nat.reduceLT, Nat.reduceSub, Nat.reduceMul, Int.reduceEq, Int.reduceLT, Int.reduceLE, Int.reduceNeg, Int.reduceToNat, List.reduceReplicate, Int.ofNat_le, List.getElem?_drop]) (by omega) ⟨trivial, trivial, trivial, trivial⟩ (by simp [capOK]) fun o4 => hk _ _ _ _ ⟨true, v5, by rw [show (ladd p W x y).length = n from (lmix_el o hx hy).1]⟩ ⟨w6, v6, by rw [d2.el.1]⟩ ⟨w7, v7, by rw [d3.el.1]⟩
end Go.Proofs
set_option linter.unusedSimpArgs false
set_option linter.unusedVariables false
namespace Go.Proofs
open Go.Ab Go.Lie
variable {σ : PHeap} {K : PV → PHeap → Prop} {p : Int} {n c : Nat} {W : List (List Int)} {B : List (List (List Int))} {vP vB vL : PV} {s : Nat} {x y : List Int} {vx vy : PV} {xs : List (List Int)}
theorem rows3 {v1 v2 v3 : PV} {x1 x2 x3 : List Int} {w : Bool} {a : AV} (h1 : FI v1 x1) (h2 : FI v2 x2) (h3 : FI v3 x3) : FII (.fz w a 3 [v1, v2, v3]) [x1, x2, x3] := ⟨w, a, _, rfl, by simpa using (((All2.nil _).snoc h1).snoc h2).snoc h3⟩
theorem els3 {x1 x2 x3 : List Int} (h1 : El p n x1) (h2 : El p n x2) (h3 : El p n x3) : Els p n [x1, x2, x3] := fun y hy => by simp at hy; rcases hy with rfl | rfl | rfl <;> assumption
end Go.Proofs
set_option linter.unusedSimpArgs false
set_option linter.unusedVariables false
namespace Go.Proofs
open Go.Ab Go.Lie
variable {σ : PHeap} {K : PV → PHeap → Prop} {p : Int} {n c m k : Nat} {W : List (List Int)} {B : List (List (List Int))} {vP vB vL : PV} {s : Nat} {x y u v : List Int} {vx vy : PV} {xs : List (List Int)}
/-- A code and a value. -/
def CodR (p : Int) (W : List (List Int)) (B : List (List (List Int))) (xs : List (List Int)) {α : Type} (nil val z : α) (c : Int) : Prop :=
  (∃ d, CodeL p W B xs d ∧ d ≠ 0 ∧ c = d ∧ z = nil) ∨ (CodeL p W B xs 0 ∧ c = 0 ∧ z = val)
theorem CodR.unique {α : Type} {nil val z z' : α} {c c' : Int} (h : CodR p W B xs nil val z c) (g : CodR p W B xs nil val z' c') : z = z' ∧ c = c' := by
  rcases h with ⟨d, h1, h2, h3, h4⟩ | ⟨h1, h3, h4⟩ <;> rcases g with ⟨d', g1, g2, g3, g4⟩ | ⟨g1, g3, g4⟩
  · have := h1.unique g1
    subst h4; subst g4; exact ⟨rfl, by omega⟩
  · exact absurd (h1.unique g1) h2
  · exact absurd (g1.unique h1) g2
  · subst h4; subst g4; exact ⟨rfl, by omega⟩
end Go.Proofs
set_option linter.unusedSimpArgs false
set_option linter.unusedVariables false
namespace Go.Proofs
open Go.Ab Go.Lie
variable {σ : PHeap} {K : PV → PHeap → Prop} {p : Int} {n c m k : Nat} {W : List (List Int)} {B : List (List (List Int))} {vP vB vL : PV} {s : Nat} {x y u v : List Int} {vx vy : PV} {xs : List (List Int)}
theorem totR_bd (sz : SzR W B) : totR W B ≤ 1153000000000000000 := by
  have h1 := totL_bd (m := 1048576) (len := List.length) sz.w
  have h2 : ∀ q ∈ B, totL List.length q ≤ 1099511627776 := fun q hq => by
    have h3 := totL_bd (m := 1048576) (len := List.length) (sz.c q hq)
    have h4 := sz.b q hq
    omega
  have h3 := totL_bd (m := 1099511627776) (len := totL List.length) h2
  have h4 := sz.Wl
  have h5 := sz.Bl
  unfold totR
  omega
theorem totII_bd (sz : SzL xs) : totL List.length xs ≤ 1099511627776 := by
  have h3 := totL_bd (m := 1048576) (len := List.length) sz.r
  have h4 := sz.l
  omega
theorem el2 (h : Els p n [x, y]) : El p n x ∧ El p n y := ⟨h x (by simp), h y (by simp)⟩
end Go.Proofs
set_option linter.unusedSimpArgs false
set_option linter.unusedVariables false
namespace Go.Proofs
open Go.Ab Go.Lie
variable {σ : PHeap} {K : PV → PHeap → Prop} {p : Int} {n c m k : Nat} {W : List (List Int)} {B : List (List (List Int))} {vP vB vL : PV} {s : Nat} {x y u v : List Int} {vx vy : PV} {xs : List (List Int)}
/-- A copy of a list of lists. -/
theorem l01Own2_ok (hL : FII vL xs) (sz : SzL xs) (hk : ∀ v, FII v xs → K v σ) : PCalls Try.prog 79 [vL] σ K := by
  have hb := sz.l
  obtain ⟨wl, al, rl, rfl, hrl⟩ := hL
  refine PCalls.gh ?_
  refine pcalls_of_vp mix Try.func79 cf79 rfl ?_
  dsimp only [if79, qI, eI, nI, qD, eD]
  simp only [pwA, if_true, if_false, eq_self, nm_eq, reduceCtorEq, ↓reduceIte, Nat.reduceEqDiff, Nat.reduceLeDiff, Nat.reduceBEq, Nat.reduceAdd, Nat.reduceLT, Nat.reduceSub, Nat.reduceMul, Int.reduceEq, Int.reduceLT, Int.reduceLE, Int.reduceNeg, Int.reduceToNat, List.reduceReplicate, Int.ofNat_le, List.getElem?_drop]
  refine vp_loop (fun m vs h' => ∃ i v rows, i ≤ xs.length ∧ m = xs.length - i ∧ vs = [.fz wl al xs.length rl, v, .int .i64 (i : Nat)] ∧ Keep σ h' ∧ PSl σ.next 1 h' v i rows ∧ All2 FI rows (xs.take i)) xs.length ?_ ?_
  · exact ⟨0, _, [], by omega, by omega, rfl, keep_new σ _, PSl.new σ.next 1 rfl (Nat.le_refl _), by simpa using All2.nil _⟩
  · rintro m vs h' ⟨i, v, rows, hi, rfl, rfl, hkp, ha, hall⟩
    simp only [pwA, if_true, if_false, eq_self, nm_eq, reduceCtorEq, ↓reduceIte, Nat.reduceEqDiff, Nat.reduceLeDiff, Nat.reduceBEq, Nat.reduceAdd, Nat.reduceLT, Nat.reduceSub, Nat.reduceMul, Int.reduceEq, Int.reduceLT, Int.reduceLE, Int.reduceNeg, Int.reduceToNat, List.reduceReplicate, Int.ofNat_le, List.getElem?_drop]
    refine iteI (fun hlt => ?_) fun hge => ?_
    · obtain ⟨w4, a4, hrk⟩ := hrl.rowI hlt
      simp only [pwA, if_true, if_false, eq_self, nm_eq, reduceCtorEq, ↓reduceIte, Nat.reduceEqDiff, Nat.reduceLeDiff, Nat.reduceBEq, Nat.reduceAdd, Nat.reduceLT, Nat.reduceSub, Nat.reduceMul, Int.reduceEq, Int.reduceLT, Int.reduceLE, Int.reduceNeg, Int.reduceToNat, List.reduceReplicate, Int.ofNat_le, List.getElem?_drop, hlt, hrk, List.getElem?_drop]
      refine PCalls.fz (e := 1) (fun K' => l01Own_ok rfl (by have := sz.r _ (List.getElem_mem hlt); omega)) (pis_bel _ _) fun o cap => ?_
      simp only [pwA, if_true, if_false, eq_self, nm_eq, reduceCtorEq, ↓reduceIte, Nat.reduceEqDiff, Nat.reduceLeDiff, Nat.reduceBEq, Nat.reduceAdd, Nat.reduceLT, Nat.reduceSub, Nat.reduceMul, Int.reduceEq, Int.reduceLT, Int.reduceLE, Int.reduceNeg, Int.reduceToNat, List.reduceReplicate, Int.ofNat_le, List.getElem?_drop]
      refine PSl.push (bytes := 24) (σb := σ) hkp ha (by omega) (by omega) fun v2 h2 k2 a2 => ?_
      simp only [pwA, if_true, if_false, eq_self, nm_eq, reduceCtorEq, ↓reduceIte, Nat.reduceEqDiff, Nat.reduceLeDiff, Nat.reduceBEq, Nat.reduceAdd, Nat.reduceLT, Nat.reduceSub, Nat.reduceMul, Int.reduceEq, Int.reduceLT, Int.reduceLE, Int.reduceNeg, Int.reduceToNat, List.reduceReplicate, Int.ofNat_le, List.getElem?_drop, wrapS hlt (by omega : xs.length ≤ 4611686018427387904)]
      refine ⟨_, by omega, i + 1, v2, _, by omega, rfl, rfl, k2, a2, ?_⟩
      rw [List.take_succ_eq_append_getElem hlt]
      exact hall.snoc ⟨_, _, rfl⟩
    · have hie : i = xs.length := by omega
      subst hie
      rw [List.take_length] at hall
      exact ha.fin hkp (hall.bI 0) fun o cap => hk _ ⟨_, _, _, rfl, hall⟩
/-- The terms of a product. -/
noncomputable def terms (p : Int) (n : Nat) (W : List (List Int)) (B : List (List (List Int))) (x y : List Int) : List (List Int) := [ladd p W x y, dv p n W 2 (br p W B n x y), dv p n W 12 (third3 p W B n x y)]
theorem terms_el (o : OkW p n W) (q : OkB p n B) (hx : El p n x) (hy : El p n y) : Els p n (terms p n W B x y) := els3 (lmix_el o hx hy) (dv_el o (br_el o q)) (dv_el o (third_el o q))
theorem szL_els (o : OkW p n W) {zs : List (List Int)} (h : Els p n zs) (hl : zs.length ≤ 1048576) : SzL zs := ⟨hl, fun x hx => by have := (h x hx).1; have := o.le; omega⟩
theorem CodR.bdL {val z : List (List Int)} {c : Int} (h : CodR p W B xs [] val z c) (hv : (isLie p W B ∧ Els p W.length xs) ∧ isLz p W.length W B → Els p W.length val ∧ val.length ≤ 1048576) : SzL z := by
  rcases h with ⟨d, h1, h2, h3, rfl⟩ | ⟨h1, h3, rfl⟩
  · exact ⟨by simp, fun x hx => by cases hx⟩
  · obtain ⟨a, b⟩ := hv h1.zero
    exact szL_els h1.zero.1.1.1.w a b
theorem terms_bd {z : List (List Int)} {c : Int} (h : CodR p W B [x, y] [] (terms p W.length W B x y) z c) : SzL z := h.bdL fun hh => ⟨terms_el hh.1.1.1.w hh.1.1.1.b (el2 hh.1.2).1 (el2 hh.1.2).2, by simp [terms]⟩
theorem BchTerms_T (hR : IsR vP vB W B) (szr : SzR W B) (hx : FI vx x) (szx : x.length ≤ 1048576) (hy : FI vy y) (szy : y.length ≤ 1048576)
    (hk : ∀ v z c t, CodR p W B [x, y] [] (terms p W.length W B x y) z c → FII v z → Own σ.top t v → σ.top ≤ t → K (.tup [v, .int .i64 c]) (σ.up t)) : PCalls Try.prog 41 [.agg [.int .i64 p, vP, vB], vx, vy] σ K := by
  have h1 := hR.P.one
  have h2 := hR.B.one
  refine PCalls.gh ?_
  refine pcalls_of_vp mix Try.func41 cf41 rfl ?_
  dsimp only [if41, qI, eI, nI, qD, eD]
  simp only [pwA, if_true, if_false, eq_self, nm_eq, reduceCtorEq, ↓reduceIte, Nat.reduceEqDiff, Nat.reduceLeDiff, Nat.reduceBEq, Nat.reduceAdd, Nat.reduceLT, Nat.reduceSub, Nat.reduceMul, Int.reduceEq, Int.reduceLT, Int.reduceLE, Int.reduceNeg, Int.reduceToNat, List.reduceReplicate, Int.ofNat_le, List.getElem?_drop, h1, h2, hx.one, hx.cells, hy.one, hy.cells]
  have hkp : Keep σ (((σ.new [.int .i64 p, vP, vB]).new [vx, vy]).kill (σ.next + 1)) := ((keep_new σ _).new _).kill (by omega)
  have hs : PtrR (((σ.new [.int .i64 p, vP, vB]).new [vx, vy]).kill (σ.next + 1)) σ.next p vP vB := ⟨by simp only [pwA, if_true, if_false, eq_self, nm_eq, reduceCtorEq, ↓reduceIte, Nat.reduceEqDiff, Nat.reduceLeDiff, Nat.reduceBEq, Nat.reduceAdd, Nat.reduceLT, Nat.reduceSub, Nat.reduceMul, Int.reduceEq, Int.reduceLT, Int.reduceLE, Int.reduceNeg, Int.reduceToNat, List.reduceReplicate, Int.ofNat_le, List.getElem?_drop], by simp only [pwA, if_true, if_false, eq_self, nm_eq, reduceCtorEq, ↓reduceIte, Nat.reduceEqDiff, Nat.reduceLeDiff, Nat.reduceBEq, Nat.reduceAdd, Nat.reduceLT, Nat.reduceSub, Nat.reduceMul, Int.reduceEq, Int.reduceLT, Int.reduceLE, Int.reduceNeg, Int.reduceToNat, List.reduceReplicate, Int.ofNat_le, List.getElem?_drop]; omega⟩
  refine PCalls.frz (s := σ.next + 1) (cs := [vx, vy]) (by simp only [pwA, if_true, if_false, eq_self, nm_eq, reduceCtorEq, ↓reduceIte, Nat.reduceEqDiff, Nat.reduceLeDiff, Nat.reduceBEq, Nat.reduceAdd, Nat.reduceLT, Nat.reduceSub, Nat.reduceMul, Int.reduceEq, Int.reduceLT, Int.reduceLE, Int.reduceNeg, Int.reduceToNat, List.reduceReplicate, Int.ofNat_le, List.getElem?_drop]) ⟨hx.bel 0, hy.bel 0, trivial⟩ fun o => ?_
  simp only [sbs, sb, capOK, and_self, if_true, decide_true, Nat.le_refl, hx.sb, hy.sb]
  refine lazardCode_ok (xs := [x, y]) hs hR szr (two_row hx hy) (SzL.two szx szy) fun c hc => ?_
  by_cases hc0 : c = 0
  rotate_left
  · simp only [pwA, if_true, if_false, eq_self, nm_eq, reduceCtorEq, ↓reduceIte, Nat.reduceEqDiff, Nat.reduceLeDiff, Nat.reduceBEq, Nat.reduceAdd, Nat.reduceLT, Nat.reduceSub, Nat.reduceMul, Int.reduceEq, Int.reduceLT, Int.reduceLE, Int.reduceNeg, Int.reduceToNat, List.reduceReplicate, Int.ofNat_le, List.getElem?_drop, hc0]
    exact Gh.fin0T (t := σ.top) hkp hkp.top ⟨trivial, trivial, trivial⟩ fun _ => hk _ [] _ σ.top (.inl ⟨c, hc, hc0, rfl, rfl⟩) ⟨_, _, [], rfl, All2.nil _⟩ (Own.empty _ _ _ _ _) (Nat.le_refl _)
  subst hc0
  obtain ⟨⟨hl, he⟩, hz⟩ := hc.zero
  obtain ⟨cc, lz⟩ := Lz.of hl hz
  have hx' := he x (by simp)
  have hy' := he y (by simp)
  simp only [pwA, if_true, if_false, eq_self, nm_eq, reduceCtorEq, ↓reduceIte, Nat.reduceEqDiff, Nat.reduceLeDiff, Nat.reduceBEq, Nat.reduceAdd, Nat.reduceLT, Nat.reduceSub, Nat.reduceMul, Int.reduceEq, Int.reduceLT, Int.reduceLE, Int.reduceNeg, Int.reduceToNat, List.reduceReplicate, Int.ofNat_le, List.getElem?_drop]
  refine bchTerms_T lz hs hR hx' hy' hx hy fun a v1 v2 v3 t f1 f2 f3 ho ht => ?_
  simp only [pwA, if_true, if_false, eq_self, nm_eq, reduceCtorEq, ↓reduceIte, Nat.reduceEqDiff, Nat.reduceLeDiff, Nat.reduceBEq, Nat.reduceAdd, Nat.reduceLT, Nat.reduceSub, Nat.reduceMul, Int.reduceEq, Int.reduceLT, Int.reduceLE, Int.reduceNeg, Int.reduceToNat, List.reduceReplicate, Int.ofNat_le, List.getElem?_drop]
  exact Gh.fin0T (t := t) (hkp.up ht) (Nat.le_refl _) ⟨trivial, trivial, trivial⟩ fun _ => hk _ _ _ t (.inr ⟨hc, rfl, rfl⟩) (rows3 f1 f2 f3) ho ht
theorem l33BchTerms_ok (hR : IsR vP vB W B) (szr : SzR W B) (hx : FI vx x) (szx : x.length ≤ 1048576) (hy : FI vy y) (szy : y.length ≤ 1048576)
    (hk : ∀ v z c, CodR p W B [x, y] [] (terms p W.length W B x y) z c → FII v z → K (.tup [v, .int .i64 c]) σ) : PCalls Try.prog 40 [.agg [.int .i64 p, vP, vB], vx, vy] σ K := by
  have h1 := hR.P.one
  have h2 := hR.B.one
  refine PCalls.gh ?_
  refine pcalls_of_vp mix Try.func40 cf40 rfl ?_
  dsimp only [if40, qI, eI, nI, qD, eD]
  simp only [pwA, if_true, if_false, eq_self, nm_eq, reduceCtorEq, ↓reduceIte, Nat.reduceEqDiff, Nat.reduceLeDiff, Nat.reduceBEq, Nat.reduceAdd, Nat.reduceLT, Nat.reduceSub, Nat.reduceMul, Int.reduceEq, Int.reduceLT, Int.reduceLE, Int.reduceNeg, Int.reduceToNat, List.reduceReplicate, Int.ofNat_le, List.getElem?_drop, h1, h2, hx.one, hx.cells, hy.one, hy.cells]
  have hkp : Keep σ (((σ.new [.int .i64 p, vP, vB]).new [vx, vy]).kill (σ.next + 1)) := ((keep_new σ _).new _).kill (by omega)
  refine PCalls.frz (s := σ.next + 1) (cs := [vx, vy]) (by simp only [pwA, if_true, if_false, eq_self, nm_eq, reduceCtorEq, ↓reduceIte, Nat.reduceEqDiff, Nat.reduceLeDiff, Nat.reduceBEq, Nat.reduceAdd, Nat.reduceLT, Nat.reduceSub, Nat.reduceMul, Int.reduceEq, Int.reduceLT, Int.reduceLE, Int.reduceNeg, Int.reduceToNat, List.reduceReplicate, Int.ofNat_le, List.getElem?_drop]) ⟨hx.bel 0, hy.bel 0, trivial⟩ fun o => ?_
  simp only [sbs, sb, capOK, and_self, if_true, decide_true, Nat.le_refl, hR.P.sb, hR.B.sb, hx.sb, hy.sb]
  refine l33Code_ok (xs := [x, y]) hR szr (two_row hx hy) (SzL.two szx szy) fun c hc => ?_
  by_cases hc0 : c = 0
  rotate_left
  · simp only [pwA, if_true, if_false, eq_self, nm_eq, reduceCtorEq, ↓reduceIte, Nat.reduceEqDiff, Nat.reduceLeDiff, Nat.reduceBEq, Nat.reduceAdd, Nat.reduceLT, Nat.reduceSub, Nat.reduceMul, Int.reduceEq, Int.reduceLT, Int.reduceLE, Int.reduceNeg, Int.reduceToNat, List.reduceReplicate, Int.ofNat_le, List.getElem?_drop, hc0]
    exact Gh.fin0 hkp ⟨trivial, trivial, trivial⟩ (hk _ [] _ (.inl ⟨c, hc, hc0, rfl, rfl⟩) ⟨_, _, [], rfl, All2.nil _⟩)
  subst hc0
  obtain ⟨⟨hl, he⟩, hz⟩ := hc.zero
  obtain ⟨cc, lz⟩ := Lz.of hl hz
  have hx' := he x (by simp)
  have hy' := he y (by simp)
  simp only [pwA, if_true, if_false, eq_self, nm_eq, reduceCtorEq, ↓reduceIte, Nat.reduceEqDiff, Nat.reduceLeDiff, Nat.reduceBEq, Nat.reduceAdd, Nat.reduceLT, Nat.reduceSub, Nat.reduceMul, Int.reduceEq, Int.reduceLT, Int.reduceLE, Int.reduceNeg, Int.reduceToNat, List.reduceReplicate, Int.ofNat_le, List.getElem?_drop]
  refine l33Terms_fz lz hR hx' hy' hx hy fun a v1 v2 v3 f1 f2 f3 => ?_
  simp only [pwA, if_true, if_false, eq_self, nm_eq, reduceCtorEq, ↓reduceIte, Nat.reduceEqDiff, Nat.reduceLeDiff, Nat.reduceBEq, Nat.reduceAdd, Nat.reduceLT, Nat.reduceSub, Nat.reduceMul, Int.reduceEq, Int.reduceLT, Int.reduceLE, Int.reduceNeg, Int.reduceToNat, List.reduceReplicate, Int.ofNat_le, List.getElem?_drop]
  have te := terms_el lz.r.o lz.r.q hx' hy'
  refine l01Own2_ok (xs := terms p W.length W B x y) (rows3 f1 f2 f3) (szL_els lz.r.o te (by simp [terms])) fun v hv => ?_
  simp only [pwA, if_true, if_false, eq_self, nm_eq, reduceCtorEq, ↓reduceIte, Nat.reduceEqDiff, Nat.reduceLeDiff, Nat.reduceBEq, Nat.reduceAdd, Nat.reduceLT, Nat.reduceSub, Nat.reduceMul, Int.reduceEq, Int.reduceLT, Int.reduceLE, Int.reduceNeg, Int.reduceToNat, List.reduceReplicate, Int.ofNat_le, List.getElem?_drop]
  exact Gh.fin0 hkp ⟨hv.bel _, trivial, trivial⟩ (hk _ _ _ (.inr ⟨hc, rfl, rfl⟩) hv)
/-- Brackets with y, again and again. -/
def adj (p : Int) (n : Nat) (W : List (List Int)) (B : List (List (List Int))) (y x : List Int) : Nat → List Int
  | 0 => x
  | j + 1 => br p W B n (adj p n W B y x j) y
def fact : Nat → Int
  | 0 => 1
  | j + 1 => fact j * (j + 1 : Nat)
noncomputable def cterm (p : Int) (n : Nat) (W : List (List Int)) (B : List (List (List Int))) (y x : List Int) (j : Nat) : List Int := dv p n W (fact j) (adj p n W B y x j)
/-- These are the terms. -/
def IsTerms (p : Int) (n : Nat) (W : List (List Int)) (B : List (List (List Int))) (x y : List Int) (z : List (List Int)) : Prop :=
  ∃ m, z = (List.range m).map (cterm p n W B y x) ∧ isZ (adj p n W B y x m) ∧ ∀ j, j < m → ¬ isZ (adj p n W B y x j)
theorem IsTerms.unique {z z' : List (List Int)} (h : IsTerms p n W B x y z) (g : IsTerms p n W B x y z') : z = z' := by
  obtain ⟨m, rfl, h1, h2⟩ := h
  obtain ⟨m', rfl, g1, g2⟩ := g
  have : m = m' := by
    rcases Nat.lt_trichotomy m m' with e | e | e
    · exact absurd h1 (g2 m e)
    · exact e
    · exact absurd g1 (h2 m' e)
  rw [this]
noncomputable def cterms (p : Int) (n : Nat) (W : List (List Int)) (B : List (List (List Int))) (x y : List Int) : List (List Int) := Classical.epsilon (IsTerms p n W B x y)
theorem IsTerms.eq {z : List (List Int)} (h : IsTerms p n W B x y z) : z = cterms p n W B x y := h.unique (Classical.epsilon_spec ⟨z, h⟩)
theorem adj_el (o : OkW p n W) (q : OkB p n B) (hx : El p n x) : ∀ j, El p n (adj p n W B y x j)
  | 0 => hx
  | j + 1 => br_el o q
theorem adj_lw (r : Rg p n W B c) (hx : El p n x) : ∀ j, Lw p n W B j (at_ (adj p n W B y x j))
  | 0 => r.all hx
  | j + 1 => r.bL (adj_lw r hx j)
theorem adj_lt (z : Lz p n W B c) (hx : El p n x) {j : Nat} (h : ¬ isZ (adj p n W B y x j)) : j < c := by
  rcases Nat.lt_or_ge j c with e | e
  · exact e
  · exact absurd (z.r.zero e (adj_el z.r.o z.r.q hx j) (adj_lw z.r hx j)) h
theorem cop_fact {p : Int} (hp : isP p) {j : Nat} (h : (j : Int) < p) : Cop p (fact j) ∧ 1 ≤ fact j ∧ fact j ≤ 720 := by
  have e : j = 0 ∨ j = 1 ∨ j = 2 ∨ j = 3 ∨ j = 4 ∨ j = 5 ∨ j = 6 := by have := hp.bd; omega
  rcases e with rfl | rfl | rfl | rfl | rfl | rfl | rfl <;> refine ⟨cop_of_mod hp ?_, by decide, by decide⟩ <;> rcases hp with rfl | rfl | rfl | rfl <;> first | decide | omega
end Go.Proofs
set_option linter.unusedSimpArgs false
set_option linter.unusedVariables false
namespace Go.Proofs
open Go.Ab Go.Lie
variable {σ : PHeap} {K : PV → PHeap → Prop} {p : Int} {n c m k : Nat} {W : List (List Int)} {B : List (List (List Int))} {vP vB vL : PV} {s : Nat} {x y u v : List Int} {vx vy : PV} {xs : List (List Int)}
/-- A new slot, as the first of two results, is frozen. -/
theorem Gh.own2 {σ0 σ1 : PHeap} {s l : Nat} {cap : Cap} {cs : List PV} {kk : IntKind} {r : Int} (hk : Keep σ0 σ1) (hs : σ1.obj s = some cs) (h0 : σ0.next ≤ s) (hb : Bels 0 cs) (hcap : capOK cap l = true) (ho : Owns σ0.top σ1.top cs)
    (k : ∀ o t, Own σ0.top t (.fz true (.sl o 0 l cap) l cs) → σ0.top ≤ t → K (.tup [.fz true (.sl o 0 l cap) l cs, .int kk r]) (σ0.up t)) : Gh σ0 K (.tup [.sl s 0 l cap, .int kk r]) σ1 :=
  Gh.freeze hs h0 hb fun o h1 hc _ => by
    simp only [sb, sbs]
    rw [if_pos ⟨trivial, trivial, hcap⟩]
    exact Gh.fin0T (t := max σ1.top (o + 1)) ((hk.kill h0).up (by simp only [PHeap.kill]; omega)) (Nat.le_refl _) ⟨trivial, trivial, trivial⟩ fun w => k o _ ((ho.mono (Nat.le_refl _) (by omega)).fz h1 (by omega) fun hm => hc (eads_addrs hm)) (by have := hk.top; omega)
theorem PAcc.own2 {σ0 h : PHeap} {b e n : Nat} {v : PV} {cs : List PV} {kk : IntKind} {r : Int} (hk : Keep σ0 h) (hb0 : σ0.next ≤ b) (a : PAcc b e h v n cs) (hb : Bels 0 cs) (ho : Owns σ0.top h.top cs)
    (k : ∀ a t, Own σ0.top t (.fz true a n cs) → σ0.top ≤ t → K (.tup [.fz true a n cs, .int kk r]) (σ0.up t)) : Gh σ0 K (.tup [v, .int kk r]) h := by
  rcases a with ⟨rfl, rfl, rfl⟩ | ⟨s, cap, rfl, hc, q2, q3, q4, q5⟩
  · exact Gh.fin0T hk hk.top ⟨trivial, trivial, trivial⟩ fun _ => k _ σ0.top (Own.empty _ _ _ _ _) (Nat.le_refl _)
  · exact Gh.own2 hk q2 (by omega) hb hc.ok ho fun o t h1 h2 => k _ t h1 h2
theorem bracket_FI (o : OkW p n W) (q : OkB p n B) (hs : PtrR σ s p vP vB) (hR : IsR vP vB W B) (hx : El p n x) (hy : El p n y) (hvx : FI vx x) (hvy : FI vy y) (hk : ∀ v, FI v (br p W B n x y) → K v σ) : PCalls Try.prog 78 [.ptr s 0, vx, vy] σ K := by
  obtain ⟨wx, ax, rfl⟩ := hvx
  obtain ⟨wy, ay, rfl⟩ := hvy
  exact bracket_fz hs hR o q hx hy rfl rfl fun v => hk _ ⟨_, _, by rw [(br_el o q).1]⟩
theorem l31Bracket_FI (o : OkW p n W) (q : OkB p n B) (hR : IsR vP vB W B) (hx : El p n x) (hy : El p n y) (hvx : FI vx x) (hvy : FI vy y) (hk : ∀ v, FI v (br p W B n x y) → K v σ) : PCalls Try.prog 76 [.agg [.int .i64 p, vP, vB], vx, vy] σ K := by
  obtain ⟨wx, ax, rfl⟩ := hvx
  obtain ⟨wy, ay, rfl⟩ := hvy
  exact l31Bracket_ok hR o q hx hy rfl rfl fun v => hk _ ⟨_, _, by rw [show (norm p W (bsum B x y n)).length = n from (br_el o q).1]⟩
theorem map_range_succ {α : Type} (f : Nat → α) (j : Nat) : (List.range (j + 1)).map f = (List.range j).map f ++ [f j] := by rw [List.range_succ, List.map_append]; rfl
theorem ConjugateTerms_T (hR : IsR vP vB W B) (szr : SzR W B) (hx : FI vx x) (szx : x.length ≤ 1048576) (hy : FI vy y) (szy : y.length ≤ 1048576)
    (hk : ∀ v z c t, CodR p W B [x, y] [] (cterms p W.length W B x y) z c → FII v z → Own σ.top t v → σ.top ≤ t → K (.tup [v, .int .i64 c]) (σ.up t)) : PCalls Try.prog 37 [.agg [.int .i64 p, vP, vB], vx, vy] σ K := by
  have h1 := hR.P.one
  have h2 := hR.B.one
  refine PCalls.gh ?_
  refine pcalls_of_vp mix Try.func37 cf37 rfl ?_
  dsimp only [if37, qI, eI, nI, qD, eD]
  simp only [pwA, if_true, if_false, eq_self, nm_eq, reduceCtorEq, ↓reduceIte, Nat.reduceEqDiff, Nat.reduceLeDiff, Nat.reduceBEq, Nat.reduceAdd, Nat.reduceLT, Nat.reduceSub, Nat.reduceMul, Int.reduceEq, Int.reduceLT, Int.reduceLE, Int.reduceNeg, Int.reduceToNat, List.reduceReplicate, Int.ofNat_le, List.getElem?_drop, h1, h2, hx.one, hx.cells, hy.one, hy.cells]
  have hkp : Keep σ (((σ.new [.int .i64 p, vP, vB]).new [vx, vy]).kill (σ.next + 1)) := ((keep_new σ _).new _).kill (by omega)
  have hs : PtrR (((σ.new [.int .i64 p, vP, vB]).new [vx, vy]).kill (σ.next + 1)) σ.next p vP vB := ⟨by simp only [pwA, if_true, if_false, eq_self, nm_eq, reduceCtorEq, ↓reduceIte, Nat.reduceEqDiff, Nat.reduceLeDiff, Nat.reduceBEq, Nat.reduceAdd, Nat.reduceLT, Nat.reduceSub, Nat.reduceMul, Int.reduceEq, Int.reduceLT, Int.reduceLE, Int.reduceNeg, Int.reduceToNat, List.reduceReplicate, Int.ofNat_le, List.getElem?_drop], by simp only [pwA, if_true, if_false, eq_self, nm_eq, reduceCtorEq, ↓reduceIte, Nat.reduceEqDiff, Nat.reduceLeDiff, Nat.reduceBEq, Nat.reduceAdd, Nat.reduceLT, Nat.reduceSub, Nat.reduceMul, Int.reduceEq, Int.reduceLT, Int.reduceLE, Int.reduceNeg, Int.reduceToNat, List.reduceReplicate, Int.ofNat_le, List.getElem?_drop]; omega⟩
  refine PCalls.frz (s := σ.next + 1) (cs := [vx, vy]) (by simp only [pwA, if_true, if_false, eq_self, nm_eq, reduceCtorEq, ↓reduceIte, Nat.reduceEqDiff, Nat.reduceLeDiff, Nat.reduceBEq, Nat.reduceAdd, Nat.reduceLT, Nat.reduceSub, Nat.reduceMul, Int.reduceEq, Int.reduceLT, Int.reduceLE, Int.reduceNeg, Int.reduceToNat, List.reduceReplicate, Int.ofNat_le, List.getElem?_drop]) ⟨hx.bel 0, hy.bel 0, trivial⟩ fun o => ?_
  simp only [sbs, sb, capOK, and_self, if_true, decide_true, Nat.le_refl, hx.sb, hy.sb]
  refine lazardCode_ok (xs := [x, y]) hs hR szr (two_row hx hy) (SzL.two szx szy) fun c hc => ?_
  by_cases hc0 : c = 0
  rotate_left
  · simp only [pwA, if_true, if_false, eq_self, nm_eq, reduceCtorEq, ↓reduceIte, Nat.reduceEqDiff, Nat.reduceLeDiff, Nat.reduceBEq, Nat.reduceAdd, Nat.reduceLT, Nat.reduceSub, Nat.reduceMul, Int.reduceEq, Int.reduceLT, Int.reduceLE, Int.reduceNeg, Int.reduceToNat, List.reduceReplicate, Int.ofNat_le, List.getElem?_drop, hc0]
    exact Gh.fin0T (t := σ.top) hkp hkp.top ⟨trivial, trivial, trivial⟩ fun _ => hk _ [] _ σ.top (.inl ⟨c, hc, hc0, rfl, rfl⟩) ⟨_, _, [], rfl, All2.nil _⟩ (Own.empty _ _ _ _ _) (Nat.le_refl _)
  subst hc0
  obtain ⟨⟨hl, he⟩, hz⟩ := hc.zero
  obtain ⟨cc, lz⟩ := Lz.of hl hz
  have ow := lz.r.o
  have q := lz.r.q
  have hn6 := ow.le
  have hx' := he x (by simp)
  have hy' := he y (by simp)
  have hcc : (cc : Int) < p := lz.hc
  have hpb := lz.hp.bd
  generalize hH : ((σ.new [.int .i64 p, vP, vB]).new [vx, vy]).kill (σ.next + 1) = H at *
  have hHn : σ.next ≤ H.next := hkp.next
  simp only [pwA, if_true, if_false, eq_self, nm_eq, reduceCtorEq, ↓reduceIte, Nat.reduceEqDiff, Nat.reduceLeDiff, Nat.reduceBEq, Nat.reduceAdd, Nat.reduceLT, Nat.reduceSub, Nat.reduceMul, Int.reduceEq, Int.reduceLT, Int.reduceLE, Int.reduceNeg, Int.reduceToNat, List.reduceReplicate, Int.ofNat_le, List.getElem?_drop]
  refine vp_loop (fun mm vs h' => ∃ (j : Nat) (v vo : PV) (rows : List PV), mm = cc - j ∧ j ≤ cc ∧ vs = [v, vy, .ptr σ.next 0, vo, .int .i64 (fact j), .int .i64 ((j + 1 : Nat) : Int)] ∧ FI v (adj p W.length W B y x j) ∧ Keep H h' ∧ PAcc H.next 1 h' vo j rows ∧ All2 FI rows ((List.range j).map (cterm p W.length W B y x)) ∧ Owns σ.top h'.top rows ∧ ∀ i, i < j → ¬ isZ (adj p W.length W B y x i)) cc ?_ ?_
  · exact ⟨0, vx, _, [], rfl, Nat.zero_le _, rfl, hx, Keep.refl H, PAcc.nil _ _ _, by simpa using All2.nil _, Owns.nil _ _, fun i hi => by omega⟩
  · rintro mm vs h' ⟨j, v, vo, rows, rfl, hj, rfl, hv, hk1, ha, hall, hown, hnz⟩
    have hel := adj_el ow q hx' j (y := y)
    have hk0 := hkp.trans hk1
    simp only [pwA, if_true, if_false, eq_self, nm_eq, reduceCtorEq, ↓reduceIte, Nat.reduceEqDiff, Nat.reduceLeDiff, Nat.reduceBEq, Nat.reduceAdd, Nat.reduceLT, Nat.reduceSub, Nat.reduceMul, Int.reduceEq, Int.reduceLT, Int.reduceLE, Int.reduceNeg, Int.reduceToNat, List.reduceReplicate, Int.ofNat_le, List.getElem?_drop]
    obtain ⟨wv, av, rfl⟩ := hv
    refine isZero_ok rfl (by have := hel.1; omega) ?_
    by_cases hzz : isZ (adj p W.length W B y x j)
    · simp only [pwA, if_true, if_false, eq_self, nm_eq, reduceCtorEq, ↓reduceIte, Nat.reduceEqDiff, Nat.reduceLeDiff, Nat.reduceBEq, Nat.reduceAdd, Nat.reduceLT, Nat.reduceSub, Nat.reduceMul, Int.reduceEq, Int.reduceLT, Int.reduceLE, Int.reduceNeg, Int.reduceToNat, List.reduceReplicate, Int.ofNat_le, List.getElem?_drop, hzz]
      exact PAcc.own2 hk0 hHn ha (hall.bI 0) hown fun a t h3 h4 => hk _ _ _ t (.inr ⟨hc, rfl, IsTerms.eq ⟨j, rfl, hzz, hnz⟩⟩) ⟨true, a, rows, by rw [List.length_map, List.length_range], hall⟩ h3 h4
    · have hjc := adj_lt lz hx' hzz
      obtain ⟨cf1, cf2, cf3⟩ := cop_fact lz.hp (show (j : Int) < p by omega)
      simp only [pwA, if_true, if_false, eq_self, nm_eq, reduceCtorEq, ↓reduceIte, Nat.reduceEqDiff, Nat.reduceLeDiff, Nat.reduceBEq, Nat.reduceAdd, Nat.reduceLT, Nat.reduceSub, Nat.reduceMul, Int.reduceEq, Int.reduceLT, Int.reduceLE, Int.reduceNeg, Int.reduceToNat, List.reduceReplicate, Int.ofNat_le, List.getElem?_drop, hzz]
      refine PCalls.fzITx (fun K' => divideLie_res (hs.keep hk1) hR.P ow lz.pow hel rfl) fun z vz t hd fz oz ht => ?_
      rw [dv_eq ow hel hd (.inr cf1)] at fz
      have fz' : FI vz (cterm p W.length W B y x j) := fz
      simp only [pwA, if_true, if_false, eq_self, nm_eq, reduceCtorEq, ↓reduceIte, Nat.reduceEqDiff, Nat.reduceLeDiff, Nat.reduceBEq, Nat.reduceAdd, Nat.reduceLT, Nat.reduceSub, Nat.reduceMul, Int.reduceEq, Int.reduceLT, Int.reduceLE, Int.reduceNeg, Int.reduceToNat, List.reduceReplicate, Int.ofNat_le, List.getElem?_drop, fz'.one, fz'.cells]
      have hkt : Keep (H.up t) (h'.up t) := ⟨hk1.next, Nat.le_refl _, hk1.obj⟩
      have at' : PAcc (H.up t).next 1 (h'.up t) vo j rows := ha
      refine PAcc.push (bytes := 24) (σb := H.up t) (h := h'.up t) (n := j) (x := vz) hkt at' (by omega) (by omega) fun v2 h2 k2 a2 => ?_
      have hk2 : Keep H h2 := ⟨k2.next, Nat.le_trans hk1.top (Nat.le_trans ht k2.top), k2.obj⟩
      simp only [pwA, if_true, if_false, eq_self, nm_eq, reduceCtorEq, ↓reduceIte, Nat.reduceEqDiff, Nat.reduceLeDiff, Nat.reduceBEq, Nat.reduceAdd, Nat.reduceLT, Nat.reduceSub, Nat.reduceMul, Int.reduceEq, Int.reduceLT, Int.reduceLE, Int.reduceNeg, Int.reduceToNat, List.reduceReplicate, Int.ofNat_le, List.getElem?_drop]
      refine bracket_FI ow q (hs.keep hk2) hR hel hy' ⟨_, _, rfl⟩ hy fun v3 f3 => ?_
      have hfb : fact j * ((j + 1 : Nat) : Int) = fact (j + 1) := rfl
      have hjb : ((j + 1 : Nat) : Int) ≤ 7 := by omega
      have hfs : 0 ≤ fact j * ((j + 1 : Nat) : Int) ∧ fact j * ((j + 1 : Nat) : Int) ≤ 5040 := by
        have a1 := Int.mul_le_mul cf3 hjb (by omega) (by omega)
        have a2 := Int.mul_nonneg (show 0 ≤ fact j by omega) (show 0 ≤ ((j + 1 : Nat) : Int) by omega)
        omega
      have hw2 : IntKind.i64.wrap (((j + 1 : Nat) : Int) + 1) = ((j + 1 + 1 : Nat) : Int) := by rw [wrap64 (by omega) (by omega)]; omega
      have hw3 : IntKind.i64.wrap (fact j * ((j + 1 : Nat) : Int)) = fact (j + 1) := wrap64 (n := fact j * ((j + 1 : Nat) : Int)) (by omega) (by omega)
      simp only [pwA, if_true, if_false, eq_self, nm_eq, reduceCtorEq, ↓reduceIte, Nat.reduceEqDiff, Nat.reduceLeDiff, Nat.reduceBEq, Nat.reduceAdd, Nat.reduceLT, Nat.reduceSub, Nat.reduceMul, Int.reduceEq, Int.reduceLT, Int.reduceLE, Int.reduceNeg, Int.reduceToNat, List.reduceReplicate, Int.ofNat_le, List.getElem?_drop, hw3, hw2]
      refine ⟨_, ?_, j + 1, v3, v2, _, rfl, by omega, rfl, f3, hk2, .inr a2, ?_, ?_, fun i hi => ?_⟩
      · omega
      · rw [map_range_succ]; exact hall.snoc fz'
      · exact hown.snoc (hi := h2.top) (oz.mono (Nat.le_refl _) k2.top) (hk0.top) (Nat.le_trans ht k2.top)
      · by_cases e : i = j
        · subst e; exact hzz
        · exact hnz i (by omega)
end Go.Proofs
set_option linter.unusedSimpArgs false
set_option linter.unusedVariables false
namespace Go.Proofs
open Go.Ab Go.Lie
variable {σ : PHeap} {K : PV → PHeap → Prop} {p : Int} {n c m k : Nat} {W : List (List Int)} {B : List (List (List Int))} {vP vB vL : PV} {s : Nat} {x y u v : List Int} {vx vy : PV} {xs : List (List Int)}
theorem l33Conjugates_ok (hR : IsR vP vB W B) (szr : SzR W B) (hx : FI vx x) (szx : x.length ≤ 1048576) (hy : FI vy y) (szy : y.length ≤ 1048576)
    (hk : ∀ v z c, CodR p W B [x, y] [] (cterms p W.length W B x y) z c → FII v z → K (.tup [v, .int .i64 c]) σ) : PCalls Try.prog 36 [.agg [.int .i64 p, vP, vB], vx, vy] σ K := by
  have h1 := hR.P.one
  have h2 := hR.B.one
  refine PCalls.gh ?_
  refine pcalls_of_vp mix Try.func36 cf36 rfl ?_
  dsimp only [if36, qI, eI, nI, qD, eD]
  simp only [pwA, if_true, if_false, eq_self, nm_eq, reduceCtorEq, ↓reduceIte, Nat.reduceEqDiff, Nat.reduceLeDiff, Nat.reduceBEq, Nat.reduceAdd, Nat.reduceLT, Nat.reduceSub, Nat.reduceMul, Int.reduceEq, Int.reduceLT, Int.reduceLE, Int.reduceNeg, Int.reduceToNat, List.reduceReplicate, Int.ofNat_le, List.getElem?_drop, h1, h2, hx.one, hx.cells, hy.one, hy.cells]
  have hkp : Keep σ (((σ.new [.int .i64 p, vP, vB]).new [vx, vy]).kill (σ.next + 1)) := ((keep_new σ _).new _).kill (by omega)
  have hs : PtrR (((σ.new [.int .i64 p, vP, vB]).new [vx, vy]).kill (σ.next + 1)) σ.next p vP vB := ⟨by simp only [pwA, if_true, if_false, eq_self, nm_eq, reduceCtorEq, ↓reduceIte, Nat.reduceEqDiff, Nat.reduceLeDiff, Nat.reduceBEq, Nat.reduceAdd, Nat.reduceLT, Nat.reduceSub, Nat.reduceMul, Int.reduceEq, Int.reduceLT, Int.reduceLE, Int.reduceNeg, Int.reduceToNat, List.reduceReplicate, Int.ofNat_le, List.getElem?_drop], by simp only [pwA, if_true, if_false, eq_self, nm_eq, reduceCtorEq, ↓reduceIte, Nat.reduceEqDiff, Nat.reduceLeDiff, Nat.reduceBEq, Nat.reduceAdd, Nat.reduceLT, Nat.reduceSub, Nat.reduceMul, Int.reduceEq, Int.reduceLT, Int.reduceLE, Int.reduceNeg, Int.reduceToNat, List.reduceReplicate, Int.ofNat_le, List.getElem?_drop]; omega⟩
  refine PCalls.frz (s := σ.next + 1) (cs := [vx, vy]) (by simp only [pwA, if_true, if_false, eq_self, nm_eq, reduceCtorEq, ↓reduceIte, Nat.reduceEqDiff, Nat.reduceLeDiff, Nat.reduceBEq, Nat.reduceAdd, Nat.reduceLT, Nat.reduceSub, Nat.reduceMul, Int.reduceEq, Int.reduceLT, Int.reduceLE, Int.reduceNeg, Int.reduceToNat, List.reduceReplicate, Int.ofNat_le, List.getElem?_drop]) ⟨hx.bel 0, hy.bel 0, trivial⟩ fun o => ?_
  simp only [sbs, sb, capOK, and_self, if_true, decide_true, Nat.le_refl, hR.P.sb, hR.B.sb, hx.sb, hy.sb]
  refine l33Code_ok (xs := [x, y]) hR szr (two_row hx hy) (SzL.two szx szy) fun c hc => ?_
  by_cases hc0 : c = 0
  rotate_left
  · simp only [pwA, if_true, if_false, eq_self, nm_eq, reduceCtorEq, ↓reduceIte, Nat.reduceEqDiff, Nat.reduceLeDiff, Nat.reduceBEq, Nat.reduceAdd, Nat.reduceLT, Nat.reduceSub, Nat.reduceMul, Int.reduceEq, Int.reduceLT, Int.reduceLE, Int.reduceNeg, Int.reduceToNat, List.reduceReplicate, Int.ofNat_le, List.getElem?_drop, hc0]
    exact Gh.fin0 hkp ⟨trivial, trivial, trivial⟩ (hk _ [] _ (.inl ⟨c, hc, hc0, rfl, rfl⟩) ⟨_, _, [], rfl, All2.nil _⟩)
  subst hc0
  obtain ⟨⟨hl, he⟩, hz⟩ := hc.zero
  obtain ⟨cc, lz⟩ := Lz.of hl hz
  have ow := lz.r.o
  have q := lz.r.q
  have hn6 := ow.le
  have hx' := he x (by simp)
  have hy' := he y (by simp)
  have hcc : (cc : Int) < p := lz.hc
  have hpb := lz.hp.bd
  generalize hH : ((σ.new [.int .i64 p, vP, vB]).new [vx, vy]).kill (σ.next + 1) = H at *
  have hHn : σ.next ≤ H.next := hkp.next
  simp only [pwA, if_true, if_false, eq_self, nm_eq, reduceCtorEq, ↓reduceIte, Nat.reduceEqDiff, Nat.reduceLeDiff, Nat.reduceBEq, Nat.reduceAdd, Nat.reduceLT, Nat.reduceSub, Nat.reduceMul, Int.reduceEq, Int.reduceLT, Int.reduceLE, Int.reduceNeg, Int.reduceToNat, List.reduceReplicate, Int.ofNat_le, List.getElem?_drop]
  obtain ⟨wx, ax, rfl⟩ := hx
  refine PCalls.fz (l := x.length) (e := 1) (fun K' => l01Own_ok rfl (by omega)) (pis_bel _ _) fun o1 cap1 => ?_
  simp only [pwA, if_true, if_false, eq_self, nm_eq, reduceCtorEq, ↓reduceIte, Nat.reduceEqDiff, Nat.reduceLeDiff, Nat.reduceBEq, Nat.reduceAdd, Nat.reduceLT, Nat.reduceSub, Nat.reduceMul, Int.reduceEq, Int.reduceLT, Int.reduceLE, Int.reduceNeg, Int.reduceToNat, List.reduceReplicate, Int.ofNat_le, List.getElem?_drop]
  refine vp_loop (fun mm vs h' => ∃ (j : Nat) (v vo : PV) (rows : List PV), mm = cc - j ∧ j ≤ cc ∧ vs = [vy, .ptr σ.next 0, vo, v, .int .i64 (fact j)] ∧ FI v (adj p W.length W B y x j) ∧ Keep H h' ∧ PSl H.next 1 h' vo j rows ∧ All2 FI rows ((List.range j).map (cterm p W.length W B y x)) ∧ ∀ i, i < j → ¬ isZ (adj p W.length W B y x i)) cc ?_ ?_
  · exact ⟨0, _, _, [], rfl, Nat.zero_le _, rfl, ⟨true, _, rfl⟩, keep_new H _, PSl.new _ 1 rfl (Nat.le_refl _), by simpa using All2.nil _, fun i hi => by omega⟩
  · rintro mm vs h' ⟨j, v, vo, rows, rfl, hj, rfl, hv, hk1, ha, hall, hnz⟩
    have hel := adj_el ow q hx' j (y := y)
    have hk0 := hkp.trans hk1
    have hrd : h'.rd σ.next 0 3 = some [.int .i64 p, vP, vB] := by
      have := (hs.keep hk1).obj
      rw [obj_rd this]; rfl
    simp only [pwA, if_true, if_false, eq_self, nm_eq, reduceCtorEq, ↓reduceIte, Nat.reduceEqDiff, Nat.reduceLeDiff, Nat.reduceBEq, Nat.reduceAdd, Nat.reduceLT, Nat.reduceSub, Nat.reduceMul, Int.reduceEq, Int.reduceLT, Int.reduceLE, Int.reduceNeg, Int.reduceToNat, List.reduceReplicate, Int.ofNat_le, List.getElem?_drop]
    obtain ⟨wv, av, rfl⟩ := hv
    refine l01Zero_ok rfl (by have := hel.1; omega) ?_
    by_cases hzz : isZ (adj p W.length W B y x j)
    · simp only [pwA, if_true, if_false, eq_self, nm_eq, reduceCtorEq, ↓reduceIte, Nat.reduceEqDiff, Nat.reduceLeDiff, Nat.reduceBEq, Nat.reduceAdd, Nat.reduceLT, Nat.reduceSub, Nat.reduceMul, Int.reduceEq, Int.reduceLT, Int.reduceLE, Int.reduceNeg, Int.reduceToNat, List.reduceReplicate, Int.ofNat_le, List.getElem?_drop, hzz]
      obtain ⟨s', cap, rfl, hc', q2, q3, q4, q5⟩ := ha
      exact Gh.freeze q2 (by omega) (hall.bI 0) fun o2 g1 g2 _ => by
        simp only [sb, sbs]
        rw [if_pos ⟨trivial, trivial, hc'.ok⟩]
        exact Gh.fin0 ((hk0.kill (by omega)).up (by simp only [PHeap.kill]; omega)) ⟨trivial, trivial, trivial⟩ (hk _ _ _ (.inr ⟨hc, rfl, IsTerms.eq ⟨j, rfl, hzz, hnz⟩⟩) ⟨true, _, rows, by rw [List.length_map, List.length_range], hall⟩)
    · have hjc := adj_lt lz hx' hzz
      obtain ⟨cf1, cf2, cf3⟩ := cop_fact lz.hp (show (j : Int) < p by omega)
      simp only [pwA, if_true, if_false, eq_self, nm_eq, reduceCtorEq, ↓reduceIte, Nat.reduceEqDiff, Nat.reduceLeDiff, Nat.reduceBEq, Nat.reduceAdd, Nat.reduceLT, Nat.reduceSub, Nat.reduceMul, Int.reduceEq, Int.reduceLT, Int.reduceLE, Int.reduceNeg, Int.reduceToNat, List.reduceReplicate, Int.ofNat_le, List.getElem?_drop, hzz, hrd]
      refine l33Part_ok hR ow lz.pow hel rfl fun w1 v1 z hd => ?_
      rw [dv_eq ow hel hd (.inr cf1)]
      have hcl : (cterm p W.length W B y x j).length = W.length := (dv_el ow hel).1
      simp only [pwA, if_true, if_false, eq_self, nm_eq, reduceCtorEq, ↓reduceIte, Nat.reduceEqDiff, Nat.reduceLeDiff, Nat.reduceBEq, Nat.reduceAdd, Nat.reduceLT, Nat.reduceSub, Nat.reduceMul, Int.reduceEq, Int.reduceLT, Int.reduceLE, Int.reduceNeg, Int.reduceToNat, List.reduceReplicate, Int.ofNat_le, List.getElem?_drop]
      refine PCalls.fz (l := W.length) (e := 1) (cs := pis (cterm p W.length W B y x j)) (fun K' => by
        have := @l01Own_ok h' K' w1 v1 (cterm p W.length W B y x j) W.length hcl.symm (by omega)
        rw [hcl] at this
        exact this) (pis_bel _ _) fun o3 cap3 => ?_
      simp only [pwA, if_true, if_false, eq_self, nm_eq, reduceCtorEq, ↓reduceIte, Nat.reduceEqDiff, Nat.reduceLeDiff, Nat.reduceBEq, Nat.reduceAdd, Nat.reduceLT, Nat.reduceSub, Nat.reduceMul, Int.reduceEq, Int.reduceLT, Int.reduceLE, Int.reduceNeg, Int.reduceToNat, List.reduceReplicate, Int.ofNat_le, List.getElem?_drop]
      refine PSl.push (bytes := 24) (σb := H) hk1 ha (by omega) (by omega) fun v2 h2 k2 a2 => ?_
      have hrd2 : h2.rd σ.next 0 3 = some [.int .i64 p, vP, vB] := by
        have := (hs.keep k2).obj
        rw [obj_rd this]; rfl
      simp only [pwA, if_true, if_false, eq_self, nm_eq, reduceCtorEq, ↓reduceIte, Nat.reduceEqDiff, Nat.reduceLeDiff, Nat.reduceBEq, Nat.reduceAdd, Nat.reduceLT, Nat.reduceSub, Nat.reduceMul, Int.reduceEq, Int.reduceLT, Int.reduceLE, Int.reduceNeg, Int.reduceToNat, List.reduceReplicate, Int.ofNat_le, List.getElem?_drop, hrd2]
      refine l31Bracket_FI ow q hR hel hy' ⟨_, _, rfl⟩ hy fun v3 f3 => ?_
      have hjb : ((j + 1 : Nat) : Int) ≤ 7 := by omega
      have hfs : 0 ≤ fact j * ((j + 1 : Nat) : Int) ∧ fact j * ((j + 1 : Nat) : Int) ≤ 5040 := by
        have a1 := Int.mul_le_mul cf3 hjb (by omega) (by omega)
        have a2 := Int.mul_nonneg (show 0 ≤ fact j by omega) (show 0 ≤ ((j + 1 : Nat) : Int) by omega)
        omega
      have hw3 : IntKind.i64.wrap (fact j * ((j + 1 : Nat) : Int)) = fact (j + 1) := wrap64 (n := fact j * ((j + 1 : Nat) : Int)) (by omega) (by omega)
      simp only [pwA, if_true, if_false, eq_self, nm_eq, reduceCtorEq, ↓reduceIte, Nat.reduceEqDiff, Nat.reduceLeDiff, Nat.reduceBEq, Nat.reduceAdd, Nat.reduceLT, Nat.reduceSub, Nat.reduceMul, Int.reduceEq, Int.reduceLT, Int.reduceLE, Int.reduceNeg, Int.reduceToNat, List.reduceReplicate, Int.ofNat_le, List.getElem?_drop, hw3, a2.pLen]
      refine ⟨_, ?_, j + 1, v3, v2, _, rfl, by omega, rfl, f3, k2, a2, ?_, fun i hi => ?_⟩
      · omega
      · rw [map_range_succ]; exact hall.snoc ⟨true, _, by rw [hcl]⟩
      · by_cases e : i = j
        · subst e; exact hzz
        · exact hnz i (by omega)
theorem least_z (P : Nat → Prop) : ∀ k, P k → ∃ m, P m ∧ ∀ j, j < m → ¬ P j := by
  intro k
  induction k using Nat.strongRecOn with
  | ind k ih =>
    intro h
    by_cases e : ∃ j, j < k ∧ P j
    · obtain ⟨j, hj, hp⟩ := e
      exact ih j hj hp
    · exact ⟨k, h, fun j hj hp => e ⟨j, hj, hp⟩⟩
theorem terms_ex (lz : Lz p n W B c) (hx : El p n x) : ∃ w, IsTerms p n W B x y w := by
  obtain ⟨m, h1, h2⟩ := least_z (fun j => isZ (adj p n W B y x j)) c (lz.r.zero (Nat.le_refl c) (adj_el lz.r.o lz.r.q hx c) (adj_lw lz.r hx c))
  exact ⟨_, m, rfl, h1, h2⟩
theorem cterms_bd {z : List (List Int)} {c : Int} (h : CodR p W B [x, y] [] (cterms p W.length W B x y) z c) : SzL z := h.bdL fun hh => by
  obtain ⟨cc, lz⟩ := Lz.of hh.1.1 hh.2
  have hx := (el2 hh.1.2).1
  obtain ⟨w, hw⟩ := terms_ex lz hx (y := y)
  rw [← hw.eq]
  obtain ⟨m, rfl, h1, h2⟩ := hw
  refine ⟨fun e hm => ?_, ?_⟩
  · obtain ⟨j, _, rfl⟩ := List.mem_map.1 hm
    exact dv_el lz.r.o (adj_el lz.r.o lz.r.q hx j)
  · rw [List.length_map, List.length_range]
    have := lz.hc
    have := lz.hp.bd
    rcases Nat.eq_zero_or_pos m with e | e
    · omega
    · have := adj_lt lz hx (h2 (m - 1) (by omega)); omega
end Go.Proofs
