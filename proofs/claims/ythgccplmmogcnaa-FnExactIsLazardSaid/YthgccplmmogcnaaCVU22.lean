/- The whole ring and the brackets of two lists, both sides. -/
import Derived.Test.YthgccplmmogcnaaCVU20
set_option linter.unusedSimpArgs false
set_option linter.unusedVariables false
namespace Go.Proofs
open Go.Ab Go.Lie
variable {σ : PHeap} {K : PV → PHeap → Prop} {p p' : Int} {n : Nat} {W : List (List Int)} {B : List (List (List Int))} {vP vB vL vU vV : PV} {s : Nat}

def units (n : Nat) : List (List Int) := (List.range n).map (unitL n)
theorem units_length : (units n).length = n := by simp [units]
theorem units_get {i : Nat} (h : i < n) : (units n)[i]? = some (unitL n i) := by simp [units, h]
theorem units_els (hp : okp p) : Els p n (units n) := fun v hv => by
  obtain ⟨i, hi, rfl⟩ := List.mem_map.1 hv
  exact unit_el hp (List.mem_range.1 hi)
theorem units_take {i : Nat} (h : i < n) : (units n).take (i + 1) = (units n).take i ++ [unitL n i] := by
  have hl : i < (units n).length := by rw [units_length]; exact h
  have e := units_get h
  rw [List.getElem?_eq_getElem hl] at e
  rw [List.take_succ_eq_append_getElem hl, Option.some.inj e]
/-- All brackets of two lists. -/
def brL (p : Int) (W : List (List Int)) (B : List (List (List Int))) (n : Nat) (u v : List (List Int)) : List (List Int) := u.flatMap fun x => v.map fun y => br p W B n x y
theorem brL_length (u v : List (List Int)) : (brL p W B n u v).length = u.length * v.length := by
  induction u with
  | nil => simp [brL]
  | cons x u ih =>
    have : (brL p W B n (x :: u) v) = v.map (fun y => br p W B n x y) ++ brL p W B n u v := rfl
    rw [this, List.length_append, List.length_map, ih, List.length_cons, Nat.add_mul, Nat.one_mul, Nat.add_comm]
theorem brL_snoc (u v : List (List Int)) (x : List Int) : brL p W B n (u ++ [x]) v = brL p W B n u v ++ v.map fun y => br p W B n x y := by
  simp [brL, List.flatMap_append]
theorem brL_els (o : OkW p n W) (q : OkB p n B) (u v : List (List Int)) : Els p n (brL p W B n u v) := fun z hz => by
  obtain ⟨x, hx, h⟩ := List.mem_flatMap.1 hz
  obtain ⟨y, hy, rfl⟩ := List.mem_map.1 h
  exact br_el o q

theorem wholeLie_ok (hs : PtrR σ s p vP vB) (hP : FII vP W) (hWn : W.length = n) (hn : n ≤ 1048576) (hk : ∀ v, FII v (units n) → K v σ) : PCalls Try.prog 131 [.ptr s 0] σ K := by
  obtain ⟨wp, ap, rp, rfl, hrp⟩ := hP
  have hP1 : σ.rd1 s 1 = some (.fz wp ap W.length rp) := by rw [obj_rd1 hs.obj]; rfl
  refine PCalls.gh ?_
  refine pcalls_of_vp mix Try.func131 cf131 rfl ?_
  dsimp only [if131, qI, eI, nI, qD, eD]
  simp only [pw0, pw1, pw2, pw3, pw4, pw5, pw6, pw7, pw8, pw9, if_true, if_false, eq_self, nm_eq, reduceCtorEq, ↓reduceIte, Nat.reduceEqDiff, Nat.reduceLeDiff, Nat.reduceBEq, Nat.reduceAdd, Nat.reduceLT, Nat.reduceSub, Nat.reduceMul, Int.reduceEq, Int.reduceLT, Int.reduceLE, Int.reduceNeg, Int.reduceToNat, List.reduceReplicate, Int.ofNat_le, List.getElem?_drop, hP1, hWn]
  refine vp_loop (fun m vs h' => ∃ (i : Nat) (v : PV) (rows : List PV), i ≤ n ∧ m = n - i ∧ vs = [.ptr s 0, v, .int .i64 n, .int .i64 i] ∧ Keep σ h' ∧ PAcc σ.next 1 h' v i rows ∧ All2 FI rows ((units n).take i)) n ?_ ?_
  · exact ⟨0, _, [], by omega, by omega, rfl, Keep.refl σ, PAcc.nil _ _ _, by rw [List.take_zero]; exact All2.nil _⟩
  rintro m vs h' ⟨i, v, rows, hi, rfl, rfl, hkp, ha, hrows⟩
  simp only [pw0, pw1, pw2, pw3, pw4, pw5, pw6, pw7, pw8, pw9, if_true, if_false, eq_self, nm_eq, reduceCtorEq, ↓reduceIte, Nat.reduceEqDiff, Nat.reduceLeDiff, Nat.reduceBEq, Nat.reduceAdd, Nat.reduceLT, Nat.reduceSub, Nat.reduceMul, Int.reduceEq, Int.reduceLT, Int.reduceLE, Int.reduceNeg, Int.reduceToNat, List.reduceReplicate, Int.ofNat_le, List.getElem?_drop]
  have hs' := hs.keep hkp
  have hP2 : h'.rd1 s 1 = some (.fz wp ap W.length rp) := by rw [obj_rd1 hs'.obj]; rfl
  refine iteI (fun hlt => ?_) fun hge => ?_
  · simp only [pw0, pw1, pw2, pw3, pw4, pw5, pw6, pw7, pw8, pw9, if_true, if_false, eq_self, nm_eq, reduceCtorEq, ↓reduceIte, Nat.reduceEqDiff, Nat.reduceLeDiff, Nat.reduceBEq, Nat.reduceAdd, Nat.reduceLT, Nat.reduceSub, Nat.reduceMul, Int.reduceEq, Int.reduceLT, Int.reduceLE, Int.reduceNeg, Int.reduceToNat, List.reduceReplicate, Int.ofNat_le, List.getElem?_drop, hP2, hWn]
    refine unitVector_fz hn hlt fun a1 => ?_
    simp only [pw0, pw1, pw2, pw3, pw4, pw5, pw6, pw7, pw8, pw9, if_true, if_false, eq_self, nm_eq, reduceCtorEq, ↓reduceIte, Nat.reduceEqDiff, Nat.reduceLeDiff, Nat.reduceBEq, Nat.reduceAdd, Nat.reduceLT, Nat.reduceSub, Nat.reduceMul, Int.reduceEq, Int.reduceLT, Int.reduceLE, Int.reduceNeg, Int.reduceToNat, List.reduceReplicate, Int.ofNat_le, List.getElem?_drop]
    refine PAcc.push (bytes := 24) hkp ha (by omega) (by omega) fun v' h2 k2 a2 => ?_
    simp only [pw0, pw1, pw2, pw3, pw4, pw5, pw6, pw7, pw8, pw9, if_true, if_false, eq_self, nm_eq, reduceCtorEq, ↓reduceIte, Nat.reduceEqDiff, Nat.reduceLeDiff, Nat.reduceBEq, Nat.reduceAdd, Nat.reduceLT, Nat.reduceSub, Nat.reduceMul, Int.reduceEq, Int.reduceLT, Int.reduceLE, Int.reduceNeg, Int.reduceToNat, List.reduceReplicate, Int.ofNat_le, List.getElem?_drop, wrapS hlt (by omega : n ≤ 4611686018427387904)]
    refine ⟨_, by omega, i + 1, v', _, by omega, rfl, rfl, k2, a2.acc, ?_⟩
    rw [units_take hlt]
    exact hrows.snoc ⟨true, a1, by rw [unitL_length]⟩
  · have hie : i = n := by omega
    subst hie
    rw [List.take_of_length_le (by rw [units_length]; exact Nat.le_refl _)] at hrows
    exact ha.fin hkp (hrows.bI 0) fun a => hk _ ⟨true, a, rows, by rw [units_length], hrows⟩

theorem brackets_ok {u v : List (List Int)} (hs : PtrR σ s p vP vB) (hR : IsR vP vB W B) (o : OkW p n W) (q : OkB p n B) (hU : FII vU u) (hV : FII vV v) (eu : Els p n u) (ev : Els p n v) (hul : u.length ≤ 6) (hvl : v.length ≤ 6)
    (hk : ∀ z, FII z (brL p W B n u v) → K z σ) : PCalls Try.prog 133 [.ptr s 0, vU, vV] σ K := by
  obtain ⟨wu, au, ru, rfl, hru⟩ := hU
  obtain ⟨wv, av, rv, rfl, hrv⟩ := hV
  have bnd : ∀ (i j : Nat), i < u.length → j ≤ v.length → (brL p W B n (u.take i) v ++ (v.take j).map fun y => br p W B n (u.getD i []) y).length ≤ 42 := fun i j hi hj => by
    rw [List.length_append, brL_length, List.length_map, List.length_take, List.length_take]
    have : min i u.length * v.length ≤ 6 * 6 := Nat.mul_le_mul (by omega) hvl
    omega
  refine PCalls.gh ?_
  refine pcalls_of_vp mix Try.func133 cf133 rfl ?_
  dsimp only [if133, qI, eI, nI, qD, eD]
  simp only [pw0, pw1, pw2, pw3, pw4, pw5, pw6, pw7, pw8, pw9, if_true, if_false, eq_self, nm_eq, reduceCtorEq, ↓reduceIte, Nat.reduceEqDiff, Nat.reduceLeDiff, Nat.reduceBEq, Nat.reduceAdd, Nat.reduceLT, Nat.reduceSub, Nat.reduceMul, Int.reduceEq, Int.reduceLT, Int.reduceLE, Int.reduceNeg, Int.reduceToNat, List.reduceReplicate, Int.ofNat_le, List.getElem?_drop]
  refine vp_loop (fun m vs h' => ∃ (i : Nat) (z : PV) (rows : List PV), i ≤ u.length ∧ m = u.length - i ∧ vs = [.ptr s 0, .fz wv av v.length rv, z, .fz wu au u.length ru, .int .i64 u.length, .int .i64 i] ∧ Keep σ h' ∧ PAcc σ.next 1 h' z (brL p W B n (u.take i) v).length rows ∧ All2 FI rows (brL p W B n (u.take i) v)) u.length ?_ ?_
  · exact ⟨0, _, [], by omega, by omega, rfl, Keep.refl σ, PAcc.nil _ _ _, by rw [List.take_zero]; exact All2.nil _⟩
  rintro m vs h' ⟨i, z, rows, hi, rfl, rfl, hkp, ha, hrows⟩
  simp only [pw0, pw1, pw2, pw3, pw4, pw5, pw6, pw7, pw8, pw9, if_true, if_false, eq_self, nm_eq, reduceCtorEq, ↓reduceIte, Nat.reduceEqDiff, Nat.reduceLeDiff, Nat.reduceBEq, Nat.reduceAdd, Nat.reduceLT, Nat.reduceSub, Nat.reduceMul, Int.reduceEq, Int.reduceLT, Int.reduceLE, Int.reduceNeg, Int.reduceToNat, List.reduceReplicate, Int.ofNat_le, List.getElem?_drop]
  refine iteI (fun hlt => ?_) fun hge => ?_
  · obtain ⟨w4, a4, hr⟩ := hru.rowI hlt
    have hui := eu _ (List.getElem_mem hlt)
    have hgd : u.getD i [] = u[i] := by simp [List.getD_eq_getElem?_getD, hlt]
    simp only [pw0, pw1, pw2, pw3, pw4, pw5, pw6, pw7, pw8, pw9, if_true, if_false, eq_self, nm_eq, reduceCtorEq, ↓reduceIte, Nat.reduceEqDiff, Nat.reduceLeDiff, Nat.reduceBEq, Nat.reduceAdd, Nat.reduceLT, Nat.reduceSub, Nat.reduceMul, Int.reduceEq, Int.reduceLT, Int.reduceLE, Int.reduceNeg, Int.reduceToNat, List.reduceReplicate, Int.ofNat_le, List.getElem?_drop, hlt, hr, List.getElem?_drop]
    refine vp_loop (fun m vs h' => ∃ (j : Nat) (z : PV) (rows : List PV), j ≤ v.length ∧ m = v.length - j ∧ vs = [.ptr s 0, .fz wv av v.length rv, z, .fz w4 a4 u[i].length (pis u[i]), .fz wu au u.length ru, .int .i64 u.length, .int .i64 i, .fz wv av v.length rv, .int .i64 v.length, .int .i64 j] ∧ Keep σ h' ∧
      PAcc σ.next 1 h' z (brL p W B n (u.take i) v ++ (v.take j).map fun y => br p W B n (u.getD i []) y).length rows ∧ All2 FI rows (brL p W B n (u.take i) v ++ (v.take j).map fun y => br p W B n (u.getD i []) y)) v.length ?_ ?_
    · exact ⟨0, z, rows, by omega, by omega, rfl, hkp, by simpa using ha, by simpa using hrows⟩
    clear hkp ha hrows z rows
    rintro m vs h' ⟨j, z, rows, hj, rfl, rfl, hkp, ha, hrows⟩
    simp only [pw0, pw1, pw2, pw3, pw4, pw5, pw6, pw7, pw8, pw9, if_true, if_false, eq_self, nm_eq, reduceCtorEq, ↓reduceIte, Nat.reduceEqDiff, Nat.reduceLeDiff, Nat.reduceBEq, Nat.reduceAdd, Nat.reduceLT, Nat.reduceSub, Nat.reduceMul, Int.reduceEq, Int.reduceLT, Int.reduceLE, Int.reduceNeg, Int.reduceToNat, List.reduceReplicate, Int.ofNat_le, List.getElem?_drop]
    refine iteI (fun hlj => ?_) fun hgj => ?_
    · obtain ⟨w5, a5, hr5⟩ := hrv.rowI hlj
      have hvj := ev _ (List.getElem_mem hlj)
      simp only [pw0, pw1, pw2, pw3, pw4, pw5, pw6, pw7, pw8, pw9, if_true, if_false, eq_self, nm_eq, reduceCtorEq, ↓reduceIte, Nat.reduceEqDiff, Nat.reduceLeDiff, Nat.reduceBEq, Nat.reduceAdd, Nat.reduceLT, Nat.reduceSub, Nat.reduceMul, Int.reduceEq, Int.reduceLT, Int.reduceLE, Int.reduceNeg, Int.reduceToNat, List.reduceReplicate, Int.ofNat_le, List.getElem?_drop, hlj, hr5, List.getElem?_drop]
      refine bracket_fz (hs.keep hkp) hR o q hui hvj rfl rfl fun a6 => ?_
      have hb := bnd i j hlt hj
      simp only [pw0, pw1, pw2, pw3, pw4, pw5, pw6, pw7, pw8, pw9, if_true, if_false, eq_self, nm_eq, reduceCtorEq, ↓reduceIte, Nat.reduceEqDiff, Nat.reduceLeDiff, Nat.reduceBEq, Nat.reduceAdd, Nat.reduceLT, Nat.reduceSub, Nat.reduceMul, Int.reduceEq, Int.reduceLT, Int.reduceLE, Int.reduceNeg, Int.reduceToNat, List.reduceReplicate, Int.ofNat_le, List.getElem?_drop]
      refine PAcc.push (bytes := 24) hkp ha (by omega) (by omega) fun v' h2 k2 a2 => ?_
      simp only [pw0, pw1, pw2, pw3, pw4, pw5, pw6, pw7, pw8, pw9, if_true, if_false, eq_self, nm_eq, reduceCtorEq, ↓reduceIte, Nat.reduceEqDiff, Nat.reduceLeDiff, Nat.reduceBEq, Nat.reduceAdd, Nat.reduceLT, Nat.reduceSub, Nat.reduceMul, Int.reduceEq, Int.reduceLT, Int.reduceLE, Int.reduceNeg, Int.reduceToNat, List.reduceReplicate, Int.ofNat_le, List.getElem?_drop, wrapS hlj (by omega : v.length ≤ 4611686018427387904)]
      have e : (brL p W B n (u.take i) v ++ (v.take (j + 1)).map fun y => br p W B n (u.getD i []) y) = (brL p W B n (u.take i) v ++ (v.take j).map fun y => br p W B n (u.getD i []) y) ++ [br p W B n u[i] v[j]] := by
        rw [List.take_succ_eq_append_getElem hlj, List.map_append, List.append_assoc, hgd]; rfl
      refine ⟨_, by omega, j + 1, v', rows ++ [.fz true a6 n (pis (br p W B n u[i] v[j]))], by omega, rfl, rfl, k2, ?_, ?_⟩
      · rw [e, List.length_append]
        exact a2.acc
      · rw [e]
        exact hrows.snoc ⟨true, a6, by rw [(br_el o q).1]⟩
    · have hje : j = v.length := by omega
      subst hje
      have e : (brL p W B n (u.take i) v ++ (v.take v.length).map fun y => br p W B n (u.getD i []) y) = brL p W B n (u.take (i + 1)) v := by
        rw [List.take_length, List.take_succ_eq_append_getElem hlt, brL_snoc, hgd]
      rw [e] at ha hrows
      simp only [pw0, pw1, pw2, pw3, pw4, pw5, pw6, pw7, pw8, pw9, if_true, if_false, eq_self, nm_eq, reduceCtorEq, ↓reduceIte, Nat.reduceEqDiff, Nat.reduceLeDiff, Nat.reduceBEq, Nat.reduceAdd, Nat.reduceLT, Nat.reduceSub, Nat.reduceMul, Int.reduceEq, Int.reduceLT, Int.reduceLE, Int.reduceNeg, Int.reduceToNat, List.reduceReplicate, Int.ofNat_le, List.getElem?_drop, wrapS hlt (by omega : u.length ≤ 4611686018427387904)]
      exact ⟨_, by omega, i + 1, z, rows, by omega, rfl, rfl, hkp, ha, hrows⟩
  · have hie : i = u.length := by omega
    subst hie
    rw [List.take_length] at ha hrows
    exact ha.fin hkp (hrows.bI 0) fun a => hk _ ⟨true, a, rows, rfl, hrows⟩
end Go.Proofs
