/- Layer 4: products of matrices. -/
import Derived.Test.YticohgbemoeobaaWT03
set_option linter.unusedSimpArgs false
set_option linter.unusedVariables false
namespace Go.Proofs
open Go.Ab
variable {h : AHeap} {K : AV → AHeap → Prop}

theorem addMul_length {p k : Int} {xs ys : List Int} (hl : xs.length ≤ ys.length) : (addMul p k xs ys).length = xs.length := by
  unfold addMul; rw [List.length_zipWith]; omega
theorem addMul_small {p k : Int} {xs ys : List Int} (hp : 0 < p) (hp2 : p ≤ 1073741824) : small (addMul p k xs ys) := by
  intro x hx
  unfold addMul at hx
  obtain ⟨i, hi, rfl⟩ := List.getElem_of_mem hx
  rw [List.getElem_zipWith]
  have h1 := Int.emod_nonneg (xs[i]'(by rw [List.length_zipWith] at hi; omega) + k * ys[i]'(by rw [List.length_zipWith] at hi; omega)) (show p ≠ 0 by omega)
  have h2 := Int.emod_lt_of_pos (xs[i]'(by rw [List.length_zipWith] at hi; omega) + k * ys[i]'(by rw [List.length_zipWith] at hi; omega)) hp
  omega

/-- A vector times the rows of a matrix, added to what there is. -/
def vtimes (p : Int) : List Int → List (List Int) → List Int → List Int
  | x :: v, r :: rows, acc => vtimes p v rows (addMul p x acc r)
  | _, _, acc => acc

theorem vtimes_snoc (p : Int) : ∀ (v : List Int) (rows : List (List Int)) (acc : List Int) (i : Nat) (hv : i < v.length) (hr : i < rows.length),
    vtimes p (v.take (i + 1)) (rows.take (i + 1)) acc = addMul p v[i] (vtimes p (v.take i) (rows.take i) acc) rows[i]
  | [], _, _, _, hv, _ => by simp at hv
  | _ :: _, [], _, _, _, hr => by simp at hr
  | x :: v, r :: rows, acc, 0, _, _ => by simp [vtimes]
  | x :: v, r :: rows, acc, i + 1, hv, hr => by
    simp only [List.take_succ_cons, vtimes, List.getElem_cons_succ]
    exact vtimes_snoc p v rows _ i (by simpa using hv) (by simpa using hr)

theorem vtimes_inv {p : Int} (hp : 0 < p) (hp2 : p ≤ 1073741824) (n : Nat) : ∀ (v : List Int) (rows : List (List Int)) (acc : List Int), (∀ r ∈ rows, r.length = n) → acc.length = n → small acc →
    (vtimes p v rows acc).length = n ∧ small (vtimes p v rows acc)
  | [], _, _, _, h1, h2 => by simp [vtimes, h1, h2]
  | _ :: _, [], _, _, h1, h2 => by simp [vtimes, h1, h2]
  | x :: v, r :: rows, acc, hr, h1, h2 => by
    simp only [vtimes]
    refine vtimes_inv hp hp2 n v rows _ (fun r hr' => hr r (by simp [hr'])) ?_ (addMul_small hp hp2)
    rw [addMul_length (by have := hr r (by simp); omega), h1]

theorem small_rep (n : Nat) : small (List.replicate n 0) := by
  intro x hx
  rw [List.mem_replicate] at hx
  omega

theorem vtimes_take {p : Int} : ∀ (v : List Int) (rows : List (List Int)) (acc : List Int), vtimes p v (rows.take v.length) acc = vtimes p v rows acc
  | [], _, _ => by simp [vtimes]
  | _ :: _, [], _ => by simp [vtimes]
  | x :: v, r :: rows, acc => by simp only [List.length_cons, List.take_succ_cons, vtimes]; exact vtimes_take v rows _

theorem addMultiple_okN {o m : Nat} {cap : Cap} {xs ys : List Int} {u : AV} {k p : Int} (hm : xs.length = m) (ho : h.obj o = some ⟨true, ints xs⟩) (hI : IsI h u ys) (hne : ∀ o2 off n c, u = .sl o2 off n c → o2 ≠ o) (hl : xs.length ≤ ys.length) (hlb : xs.length ≤ 4294967296)
    (hp : 0 < p) (hp2 : p ≤ 1073741824) (hk1 : -1073741824 ≤ k) (hk2 : k ≤ 1073741824) (hxb : small xs) (hyb : small ys) (hK : K (.tup []) (h.set o (ints (addMul p k xs ys)))) :
    ACalls Try.prog 107 [.sl o 0 m cap, u, .int .i64 k, .int .i64 p] h K := by
  subst hm
  exact addMultiple_ok ho hI hne hl hlb hp hp2 hk1 hk2 hxb hyb hK

theorem vectorTimes_ok {v rv : AV} {xs : List Int} {rows : List (List Int)} {p : Int} {n : Nat} (hI : IsI h v xs) (hJ : IsII h rv rows) (hn : n ≤ 8) (hl : xs.length ≤ rows.length) (hlb : rows.length ≤ 4294967296) (hr : ∀ r ∈ rows, r.length = n)
    (hp : 0 < p) (hp2 : p ≤ 1073741824) (hxs : small xs) (hrs : ∀ r ∈ rows, small r) (hk : ∀ v' h' fp, OwnI h' v' (vtimes p xs rows (List.replicate n 0)) fp → (∀ o ∈ fp, h.next ≤ o) → Ext h h' → K v' h') :
    ACalls Try.prog 88 [v, .agg [.int .i64 p, .int .i64 n, rv]] h K := by
  refine ACalls.wf fun hw => ?_
  refine acalls_of_vc mix Try.func88 cf88 rfl ?_
  simp only [↓reduceIte, vc_skip, vc_region, vc_draw, vc_seq, vc_cond, vc_block, vc_exit, vc_ret, RV_nil, RV_q, RV_e, DV_nil, DV_q, DV_e, gq_none, gq_some, ge_none, ge_some, condK_true, condK_false, condK_dec, condK_ndec, guardK_bool, guardO_bool, ev_t, ev_c, mk_cons, put_some, put_none, qv_mv, qv_pick, qv_bin, qv_un, qv_conv, qv_nilCheck, qv_build, qv_field, qv_fieldAddr, qv_indexAddr, qv_indexStr, qv_extract, qv_len, qv_lenStr, qv_cap, qv_slice, qv_sliceStr, qv_maxmin, qv_makeFunc, qv_load, qv_rev, eff_alloc, eff_box, eff_buildSl, eff_store, aStore_ptr, eff_makeSl, aMake_int, eff_append, eff_copy, eff_call, eff_callV, aCallV_clo, abin_add, abin_sub, abin_mul, abin_quo, abin_rem, abin_eql, abin_neq, abin_lss, abin_leq, abin_gtr, abin_geq, abin_beql, abin_bneq, abin_nn, abin_sn, abin_ns, abin_nnx, abin_snx, abin_nsx, abin_str, aun_neg, aun_not, aPick_true, aPick_false, aConv_int, aNil_ptr, aNil_clo, aField_agg, aField_one, aFieldAddr_ptr, Int.toNat_natCast, rd1_new, rd_new, new_next, Nat.left_eq_add, Nat.add_eq_left, Nat.succ_ne_self, Nat.one_ne_zero, Nat.add_left_cancel_iff, Nat.add_assoc, List.getElem?_cons_zero, List.getElem?_cons_succ, List.take_succ_cons, List.take_zero, List.drop_succ_cons, List.drop_zero, List.take_nil, List.drop_nil, Nat.reduceLeDiff, Nat.le_refl, afill_nil, afill_cons, zeros_zero, zeros_one1, zeros_single, Nat.lt_add_one, Int.reduceEq, Int.reduceLT, Int.reduceLE, Int.reduceNeg, aExtract_tup, aLen_sl, aLen_nils, aLenStr_str, aMaxmin_int, ldv_one, ldv_agg, news_nil, news_cons, RecOK_nil, RecOK_none, RecOK_cons, recOf, wantedI, rvals_nil, rvals_tmp, rvals_cell, retQ_normal, retQ_ret, packR_one, packR_nil, packR_two, optK_some, optK_none, optK_bind, optK_map, List.map_cons, List.map_nil, Nat.reduceEqDiff, if_true, if_false, ite_true, ite_false, List.nil_append, List.cons_append, Option.map_some, Option.map_none, reduceCtorEq, decide_true, decide_false, Bool.not_true, Bool.not_false, cells_int, cells_bool, cells_str, cells_nilp, cells_ptr, cells_nils, cells_sl, cells_nilf, cells_clo, cells_agg, List.all_cons, List.all_nil, one_int, one_bool, one_str, one_nilp, one_ptr, one_nils, one_sl, one_nilf, one_clo, List.length_cons, List.length_nil, Bool.and_true, Bool.true_and, Bool.and_self, true_and, and_true, Bool.true_eq_false, Bool.false_eq_true, List.contains_cons, List.contains_nil, Bool.or_false, Bool.or_true, Bool.true_or, Bool.false_or, eq_self, Nat.reduceBEq, Nat.reduceAdd, Nat.mul_one, Nat.zero_add, Nat.add_zero, if88, hJ.one, hI.len]
  refine ⟨⟨by omega, by omega, by omega, by omega⟩, ?_⟩
  have hx1 := Ext.new hw ⟨true, [.int .i64 p, .int .i64 n, rv]⟩
  refine vc_loop (fun m vs h' => ∃ i : Nat, i ≤ xs.length ∧ m = xs.length - i ∧ vs = [.ptr h.next 0, .sl (h.next + 1) 0 n (.known n), v, .int .i64 xs.length, .int .i64 i] ∧
    h' = (h.new ⟨true, [.int .i64 p, .int .i64 n, rv]⟩).new ⟨true, ints (vtimes p (xs.take i) (rows.take i) (List.replicate n 0))⟩) xs.length ?_ ?_
  · exact ⟨0, by omega, by omega, rfl, by simp [vtimes, ints]⟩
  · rintro m vs h' ⟨i, hi, rfl, rfl, rfl⟩
    have hx2 := hx1.trans (Ext.new hx1.wf ⟨true, ints (vtimes p (xs.take i) (rows.take i) (List.replicate n 0))⟩)
    have hinv := vtimes_inv hp hp2 n (xs.take i) (rows.take i) (List.replicate n 0) (fun r hr' => hr r (List.mem_of_mem_take hr')) (by simp) (small_rep n)
    simp only [↓reduceIte, vc_skip, vc_region, vc_draw, vc_seq, vc_cond, vc_block, vc_exit, vc_ret, RV_nil, RV_q, RV_e, DV_nil, DV_q, DV_e, gq_none, gq_some, ge_none, ge_some, condK_true, condK_false, condK_dec, condK_ndec, guardK_bool, guardO_bool, ev_t, ev_c, mk_cons, put_some, put_none, qv_mv, qv_pick, qv_bin, qv_un, qv_conv, qv_nilCheck, qv_build, qv_field, qv_fieldAddr, qv_indexAddr, qv_indexStr, qv_extract, qv_len, qv_lenStr, qv_cap, qv_slice, qv_sliceStr, qv_maxmin, qv_makeFunc, qv_load, qv_rev, eff_alloc, eff_box, eff_buildSl, eff_store, aStore_ptr, eff_makeSl, aMake_int, eff_append, eff_copy, eff_call, eff_callV, aCallV_clo, abin_add, abin_sub, abin_mul, abin_quo, abin_rem, abin_eql, abin_neq, abin_lss, abin_leq, abin_gtr, abin_geq, abin_beql, abin_bneq, abin_nn, abin_sn, abin_ns, abin_nnx, abin_snx, abin_nsx, abin_str, aun_neg, aun_not, aPick_true, aPick_false, aConv_int, aNil_ptr, aNil_clo, aField_agg, aField_one, aFieldAddr_ptr, Int.toNat_natCast, rd1_new, rd_new, new_next, Nat.left_eq_add, Nat.add_eq_left, Nat.succ_ne_self, Nat.one_ne_zero, Nat.add_left_cancel_iff, Nat.add_assoc, List.getElem?_cons_zero, List.getElem?_cons_succ, List.take_succ_cons, List.take_zero, List.drop_succ_cons, List.drop_zero, List.take_nil, List.drop_nil, Nat.reduceLeDiff, Nat.le_refl, afill_nil, afill_cons, zeros_zero, zeros_one1, zeros_single, Nat.lt_add_one, Int.reduceEq, Int.reduceLT, Int.reduceLE, Int.reduceNeg, aExtract_tup, aLen_sl, aLen_nils, aLenStr_str, aMaxmin_int, ldv_one, ldv_agg, news_nil, news_cons, RecOK_nil, RecOK_none, RecOK_cons, recOf, wantedI, rvals_nil, rvals_tmp, rvals_cell, retQ_normal, retQ_ret, packR_one, packR_nil, packR_two, optK_some, optK_none, optK_bind, optK_map, List.map_cons, List.map_nil, Nat.reduceEqDiff, if_true, if_false, ite_true, ite_false, List.nil_append, List.cons_append, Option.map_some, Option.map_none, reduceCtorEq, decide_true, decide_false, Bool.not_true, Bool.not_false, cells_int, cells_bool, cells_str, cells_nilp, cells_ptr, cells_nils, cells_sl, cells_nilf, cells_clo, cells_agg, List.all_cons, List.all_nil, one_int, one_bool, one_str, one_nilp, one_ptr, one_nils, one_sl, one_nilf, one_clo, List.length_cons, List.length_nil, Bool.and_true, Bool.true_and, Bool.and_self, true_and, and_true, Bool.true_eq_false, Bool.false_eq_true, List.contains_cons, List.contains_nil, Bool.or_false, Bool.or_true, Bool.true_or, Bool.false_or, eq_self, Nat.reduceBEq, Nat.reduceAdd, Nat.mul_one, Nat.zero_add, Nat.add_zero]
    split
    · have hlt : i < xs.length := by omega
      have hlr : i < rows.length := by omega
      obtain ⟨q, e1, e2⟩ := (hI.mono hw hx2).idx hlt .i64
      obtain ⟨q', u, e1', e2', e3', e4'⟩ := hJ.row hw hx2 hlr .i64
      simp only [↓reduceIte, vc_skip, vc_region, vc_draw, vc_seq, vc_cond, vc_block, vc_exit, vc_ret, RV_nil, RV_q, RV_e, DV_nil, DV_q, DV_e, gq_none, gq_some, ge_none, ge_some, condK_true, condK_false, condK_dec, condK_ndec, guardK_bool, guardO_bool, ev_t, ev_c, mk_cons, put_some, put_none, qv_mv, qv_pick, qv_bin, qv_un, qv_conv, qv_nilCheck, qv_build, qv_field, qv_fieldAddr, qv_indexAddr, qv_indexStr, qv_extract, qv_len, qv_lenStr, qv_cap, qv_slice, qv_sliceStr, qv_maxmin, qv_makeFunc, qv_load, qv_rev, eff_alloc, eff_box, eff_buildSl, eff_store, aStore_ptr, eff_makeSl, aMake_int, eff_append, eff_copy, eff_call, eff_callV, aCallV_clo, abin_add, abin_sub, abin_mul, abin_quo, abin_rem, abin_eql, abin_neq, abin_lss, abin_leq, abin_gtr, abin_geq, abin_beql, abin_bneq, abin_nn, abin_sn, abin_ns, abin_nnx, abin_snx, abin_nsx, abin_str, aun_neg, aun_not, aPick_true, aPick_false, aConv_int, aNil_ptr, aNil_clo, aField_agg, aField_one, aFieldAddr_ptr, Int.toNat_natCast, rd1_new, rd_new, new_next, Nat.left_eq_add, Nat.add_eq_left, Nat.succ_ne_self, Nat.one_ne_zero, Nat.add_left_cancel_iff, Nat.add_assoc, List.getElem?_cons_zero, List.getElem?_cons_succ, List.take_succ_cons, List.take_zero, List.drop_succ_cons, List.drop_zero, List.take_nil, List.drop_nil, Nat.reduceLeDiff, Nat.le_refl, afill_nil, afill_cons, zeros_zero, zeros_one1, zeros_single, Nat.lt_add_one, Int.reduceEq, Int.reduceLT, Int.reduceLE, Int.reduceNeg, aExtract_tup, aLen_sl, aLen_nils, aLenStr_str, aMaxmin_int, ldv_one, ldv_agg, news_nil, news_cons, RecOK_nil, RecOK_none, RecOK_cons, recOf, wantedI, rvals_nil, rvals_tmp, rvals_cell, retQ_normal, retQ_ret, packR_one, packR_nil, packR_two, optK_some, optK_none, optK_bind, optK_map, List.map_cons, List.map_nil, Nat.reduceEqDiff, if_true, if_false, ite_true, ite_false, List.nil_append, List.cons_append, Option.map_some, Option.map_none, reduceCtorEq, decide_true, decide_false, Bool.not_true, Bool.not_false, cells_int, cells_bool, cells_str, cells_nilp, cells_ptr, cells_nils, cells_sl, cells_nilf, cells_clo, cells_agg, List.all_cons, List.all_nil, one_int, one_bool, one_str, one_nilp, one_ptr, one_nils, one_sl, one_nilf, one_clo, List.length_cons, List.length_nil, Bool.and_true, Bool.true_and, Bool.and_self, true_and, and_true, Bool.true_eq_false, Bool.false_eq_true, List.contains_cons, List.contains_nil, Bool.or_false, Bool.or_true, Bool.true_or, Bool.false_or, eq_self, Nat.reduceBEq, Nat.reduceAdd, Nat.mul_one, Nat.zero_add, Nat.add_zero, e1, e2, e1', e2', wrapS hlt (by omega : xs.length ≤ 4611686018427387904)]
      have hxi := hxs _ (List.getElem_mem hlt)
      have hri := hr _ (List.getElem_mem hlr)
      have ho : ((h.new ⟨true, [.int .i64 p, .int .i64 n, rv]⟩).new ⟨true, ints (vtimes p (xs.take i) (rows.take i) (List.replicate n 0))⟩).obj (h.next + 1) = some ⟨true, ints (vtimes p (xs.take i) (rows.take i) (List.replicate n 0))⟩ := new_obj_eq _
      refine addMultiple_okN hinv.1 ho e3' (fun o2 off m c hu => by have := e4' o2 off m c hu; omega) (by omega) (by omega) hp hp2 (by omega) (by omega) hinv.2 (hrs _ (List.getElem_mem hlr)) ?_
      refine ⟨_, by omega, i + 1, by omega, rfl, rfl, ?_⟩
      rw [vtimes_snoc _ _ _ _ _ hlt hlr]
      exact new_set _ _ _
    · have hie : i = xs.length := by omega
      subst hie
      rw [List.take_length, vtimes_take]
      rw [List.take_length, vtimes_take] at hinv hx2
      exact hk _ _ [h.next + 1] (.inr ⟨_, _, by rw [hinv.1]; rfl, new_obj_eq _, rfl⟩) (by intro o ho; rw [List.mem_singleton] at ho; omega) hx2

end Go.Proofs
