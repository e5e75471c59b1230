/- Inverses modulo a number, the program's side, in general. -/
import Derived.Test.YtpcjbkbcaiphmaaGreatAP29
open Nat renaming reduceLeDiff → nQ7, reduceEqDiff → nQ10, reduceBEq → nQ11, reduceAdd → nQ12, reduceLT → nQ16, reduceSub → nQ17, reduceMul → nQ18
open Int renaming reduceEq → iQ2, reduceLT → iQ3, reduceLE → iQ4, reduceNeg → iQ5, reduceToNat → iQ6, ofNat_le → iQ7
open List renaming reduceReplicate → lQ19, getElem?_drop → lQ20
set_option linter.unusedSimpArgs false
set_option linter.unusedVariables false
namespace Go.Proofs
open Go.Ab Go.Lie
variable {σ : PHeap} {K : PV → PHeap → Prop} {p p' : Int} {n : Nat} {W : List (List Int)} {B : List (List (List Int))} {vP vB vL vU vV : PV} {s : Nat}
theorem l32Brackets_ok {u v : List (List Int)} (hR : IsR vP vB W B) (o : OkW p n W) (q : OkB p n B) (hp : isP p) (hU : FII vU u) (hV : FII vV v) (eu : Els p n u) (ev : Els p n v) (hul : u.length ≤ 6) (hvl : v.length ≤ 6)
    (hk : ∀ z out, Canon p n W (brL p W B n u v) out → FII z out → K z σ) : PCalls Tryz.prog 160 [.agg [.int .i64 p, vP, vB], vU, vV] σ K := by
  have h1 := hR.P.one
  have h2 := hR.B.one
  obtain ⟨wu, au, ru, rfl, hru⟩ := hU
  obtain ⟨wv, av, rv, rfl, hrv⟩ := hV
  have bnd : ∀ (i j : Nat), i < u.length → j ≤ v.length → (brL p W B n (u.take i) v ++ (v.take j).map fun y => br p W B n (u.getD i []) y).length ≤ 42 := fun i j hi hj => by
    rw [List.length_append, brL_length, List.length_map, List.length_take, List.length_take]
    have : min i u.length * v.length ≤ 6 * 6 := Nat.mul_le_mul (by omega) hvl
    omega
  refine PCalls.gh ?_
  refine pcalls_of_vp mix Tryz.func160 cf160 rfl ?_
  dsimp only [if160, qI, eI, nI, qD, eD]
  simp only [pwA, if_true, if_false, eq_self, nm_eq, reduceCtorEq, ↓reduceIte, nQ10, nQ7, nQ11, nQ12, nQ16, nQ17, nQ18, iQ2, iQ3, iQ4, iQ5, iQ6, lQ19, iQ7, lQ20, h1, h2]
  generalize hH : σ.new [.int .i64 p, vP, vB] = H
  have hHn : H.next = σ.next + 1 := by rw [← hH]; simp only [pwA, if_true, if_false, eq_self, nm_eq, reduceCtorEq, ↓reduceIte, nQ10, nQ7, nQ11, nQ12, nQ16, nQ17, nQ18, iQ2, iQ3, iQ4, iQ5, iQ6, lQ19, iQ7, lQ20]
  have hHk : Keep σ H := by rw [← hH]; exact keep_new σ _
  have hob : H.obj σ.next = some [.int .i64 p, vP, vB] := by rw [← hH]; simp only [pwA, if_true, if_false, eq_self, nm_eq, reduceCtorEq, ↓reduceIte, nQ10, nQ7, nQ11, nQ12, nQ16, nQ17, nQ18, iQ2, iQ3, iQ4, iQ5, iQ6, lQ19, iQ7, lQ20]
  refine vp_loop (fun m vs h' => ∃ (i : Nat) (z : PV) (rows : List PV), i ≤ u.length ∧ m = u.length - i ∧ vs = [.fz wu au u.length ru, .fz wv av v.length rv, .ptr σ.next 0, z, .int .i64 i] ∧ Keep H h' ∧ PSl H.next 1 h' z (brL p W B n (u.take i) v).length rows ∧ All2 FI rows (brL p W B n (u.take i) v)) u.length ?_ ?_
  · refine ⟨0, _, [], by omega, by omega, rfl, keep_new H _, ?_, by rw [List.take_zero]; exact All2.nil _⟩
    rw [← hHn]
    exact PSl.new H.next 1 rfl (Nat.le_refl _)
  rintro m vs h' ⟨i, z, rows, hi, rfl, rfl, hkp, ha, hrows⟩
  simp only [pwA, if_true, if_false, eq_self, nm_eq, reduceCtorEq, ↓reduceIte, nQ10, nQ7, nQ11, nQ12, nQ16, nQ17, nQ18, iQ2, iQ3, iQ4, iQ5, iQ6, lQ19, iQ7, lQ20]
  refine iteI (fun hlt => ?_) fun hge => ?_
  · obtain ⟨w4, a4, hr⟩ := hru.rowI hlt
    have hui := eu _ (List.getElem_mem hlt)
    have hgd : u.getD i [] = u[i] := by simp [List.getD_eq_getElem?_getD, hlt]
    refine vp_loop (fun m vs h' => ∃ (j : Nat) (z : PV) (rows : List PV), j ≤ v.length ∧ m = v.length - j ∧ vs = [.fz wu au u.length ru, .fz wv av v.length rv, .ptr σ.next 0, z, .int .i64 i, .int .i64 j] ∧ Keep H h' ∧
      PSl H.next 1 h' z (brL p W B n (u.take i) v ++ (v.take j).map fun y => br p W B n (u.getD i []) y).length rows ∧ All2 FI rows (brL p W B n (u.take i) v ++ (v.take j).map fun y => br p W B n (u.getD i []) y)) v.length ?_ ?_
    · exact ⟨0, z, rows, by omega, by omega, rfl, hkp, by simpa using ha, by simpa using hrows⟩
    clear hkp ha hrows z rows
    rintro m vs h' ⟨j, z, rows, hj, rfl, rfl, hkp, ha, hrows⟩
    have hob' : h'.obj σ.next = some [.int .i64 p, vP, vB] := by rw [hkp.obj _ (by omega)]; exact hob
    have hr3 : h'.rd σ.next 0 3 = some [.int .i64 p, vP, vB] := by rw [obj_rd hob']; rfl
    simp only [pwA, if_true, if_false, eq_self, nm_eq, reduceCtorEq, ↓reduceIte, nQ10, nQ7, nQ11, nQ12, nQ16, nQ17, nQ18, iQ2, iQ3, iQ4, iQ5, iQ6, lQ19, iQ7, lQ20]
    refine iteI (fun hlj => ?_) fun hgj => ?_
    · obtain ⟨w5, a5, hr5⟩ := hrv.rowI hlj
      have hvj := ev _ (List.getElem_mem hlj)
      simp only [pwA, if_true, if_false, eq_self, nm_eq, reduceCtorEq, ↓reduceIte, nQ10, nQ7, nQ11, nQ12, nQ16, nQ17, nQ18, iQ2, iQ3, iQ4, iQ5, iQ6, lQ19, iQ7, lQ20, hlj, hr5, hlt, hr, hr3]
      refine l31Bracket_ok hR o q hui hvj rfl rfl fun a6 => ?_
      have hb := bnd i j hlt hj
      simp only [pwA, if_true, if_false, eq_self, nm_eq, reduceCtorEq, ↓reduceIte, nQ10, nQ7, nQ11, nQ12, nQ16, nQ17, nQ18, iQ2, iQ3, iQ4, iQ5, iQ6, lQ19, iQ7, lQ20]
      refine PSl.push (bytes := 24) hkp ha (by omega) (by omega) fun v' h2 k2 a2 => ?_
      simp only [pwA, if_true, if_false, eq_self, nm_eq, reduceCtorEq, ↓reduceIte, nQ10, nQ7, nQ11, nQ12, nQ16, nQ17, nQ18, iQ2, iQ3, iQ4, iQ5, iQ6, lQ19, iQ7, lQ20, wrapS hlj (by omega : v.length ≤ 4611686018427387904)]
      have e : (brL p W B n (u.take i) v ++ (v.take (j + 1)).map fun y => br p W B n (u.getD i []) y) = (brL p W B n (u.take i) v ++ (v.take j).map fun y => br p W B n (u.getD i []) y) ++ [br p W B n u[i] v[j]] := by
        rw [List.take_succ_eq_append_getElem hlj, List.map_append, List.append_assoc, hgd]; rfl
      refine ⟨_, by omega, j + 1, v', rows ++ [.fz true a6 n (pis (br p W B n u[i] v[j]))], by omega, rfl, rfl, k2, ?_, ?_⟩
      · rw [e, List.length_append]
        exact a2
      · rw [e]
        exact hrows.snoc ⟨true, a6, by rw [(br_el o q).1]⟩
    · have hje : j = v.length := by omega
      subst hje
      have e : (brL p W B n (u.take i) v ++ (v.take v.length).map fun y => br p W B n (u.getD i []) y) = brL p W B n (u.take (i + 1)) v := by
        rw [List.take_length, List.take_succ_eq_append_getElem hlt, brL_snoc, hgd]
      rw [e] at ha hrows
      simp only [pwA, if_true, if_false, eq_self, nm_eq, reduceCtorEq, ↓reduceIte, nQ10, nQ7, nQ11, nQ12, nQ16, nQ17, nQ18, iQ2, iQ3, iQ4, iQ5, iQ6, lQ19, iQ7, lQ20, wrapS hlt (by omega : u.length ≤ 4611686018427387904)]
      exact ⟨_, by omega, i + 1, z, rows, by omega, rfl, rfl, hkp, ha, hrows⟩
  · have hie : i = u.length := by omega
    subst hie
    rw [List.take_length] at ha hrows
    obtain ⟨s', cap, rfl, hc, q2, q3, q4, q5⟩ := ha
    have hob' : h'.obj σ.next = some [.int .i64 p, vP, vB] := by rw [hkp.obj _ (by omega)]; exact hob
    have hr3 : h'.rd σ.next 0 3 = some [.int .i64 p, vP, vB] := by rw [obj_rd hob']; rfl
    simp only [pwA, if_true, if_false, eq_self, nm_eq, reduceCtorEq, ↓reduceIte, nQ10, nQ7, nQ11, nQ12, nQ16, nQ17, nQ18, iQ2, iQ3, iQ4, iQ5, iQ6, lQ19, iQ7, lQ20, hr3]
    refine PCalls.frz q2 (hrows.bI 0) fun o1 => ?_
    have hl : (brL p W B n u v).length ≤ 1048576 := by
      rw [brL_length]
      have : u.length * v.length ≤ 6 * 6 := Nat.mul_le_mul hul hvl
      omega
    obtain ⟨⟨wp, ap, rp, rfl, hrp⟩, wb, ab, rb, rfl, hrb⟩ := hR
    simp only [sbs, sb, hc.ok, and_self, if_true]
    refine l32Span_ok ⟨⟨wp, ap, rp, rfl, hrp⟩, wb, ab, rb, rfl, hrb⟩ o hp ⟨true, _, rows, rfl, hrows⟩ (brL_els o q _ _) hl fun z out hcan hz => ?_
    obtain ⟨wz, az, rz, rfl, hrz⟩ := hz
    simp only [pwA, if_true, if_false, eq_self, nm_eq, reduceCtorEq, ↓reduceIte, nQ10, nQ7, nQ11, nQ12, nQ16, nQ17, nQ18, iQ2, iQ3, iQ4, iQ5, iQ6, lQ19, iQ7, lQ20]
    exact Gh.fin0 ((hHk.trans hkp).kill (by omega)) trivial (hk _ out hcan ⟨wz, az, rz, rfl, hrz⟩)
theorem l32Lower_ok (hR : IsR vP vB W B) (o : OkW p n W) (q : OkB p n B) (hp : isP p) (hk : ∀ c a rows, Cls p n W B c → K (.fz true a (c + 1) rows) σ) : PCalls Tryz.prog 283 [.agg [.int .i64 p, vP, vB]] σ K := by
  have hn6 := o.le
  have h1 := hR.P.one
  have h2 := hR.B.one
  refine PCalls.gh ?_
  refine pcalls_of_vp mix Tryz.func283 cf283 rfl ?_
  dsimp only [if283, qI, eI, nI, qD, eD]
  simp only [pwA, if_true, if_false, eq_self, nm_eq, reduceCtorEq, ↓reduceIte, nQ10, nQ7, nQ11, nQ12, nQ16, nQ17, nQ18, iQ2, iQ3, iQ4, iQ5, iQ6, lQ19, iQ7, lQ20, h1, h2]
  generalize hH : σ.new [.int .i64 p, vP, vB] = H
  have hHn : H.next = σ.next + 1 := by rw [← hH]; simp only [pwA, if_true, if_false, eq_self, nm_eq, reduceCtorEq, ↓reduceIte, nQ10, nQ7, nQ11, nQ12, nQ16, nQ17, nQ18, iQ2, iQ3, iQ4, iQ5, iQ6, lQ19, iQ7, lQ20]
  have hHk : Keep σ H := by rw [← hH]; exact keep_new σ _
  have hob : H.obj σ.next = some [.int .i64 p, vP, vB] := by rw [← hH]; simp only [pwA, if_true, if_false, eq_self, nm_eq, reduceCtorEq, ↓reduceIte, nQ10, nQ7, nQ11, nQ12, nQ16, nQ17, nQ18, iQ2, iQ3, iQ4, iQ5, iQ6, lQ19, iQ7, lQ20]
  refine l32Whole_ok hR o.len (by omega) fun vV hV => ?_
  have hVV := hV
  obtain ⟨wv, av, rv, rfl, hrv⟩ := hV
  simp only [pwA, if_true, if_false, eq_self, nm_eq, reduceCtorEq, ↓reduceIte, nQ10, nQ7, nQ11, nQ12, nQ16, nQ17, nQ18, iQ2, iQ3, iQ4, iQ5, iQ6, lQ19, iQ7, lQ20]
  refine vp_loop (fun m vs h' => ∃ k u us rows v vU, m = n + 1 - k ∧ k ≤ n + 1 ∧ vs = [.ptr σ.next 0, vU, v] ∧ Keep H h' ∧ PSl H.next 1 h' v (k + 1) rows ∧ All2 FII rows us ∧ us.length = k + 1 ∧ FII vU u ∧ Low p n W B k u ∧ ∀ j u', j < k → Low p n W B j u' → u' ≠ []) (n + 1) ?_ ?_
  · refine ⟨0, units n, [units n], [_], _, _, by omega, by omega, rfl, keep_new H _, PSl.new _ 1 rfl (Nat.le_refl _), All2.nil _ |>.snoc hVV, rfl, hVV, .zero, fun j u' hj => by omega⟩
  rintro m vs h' ⟨k, u, us, rows, v, vU, rfl, hkn, rfl, hkp, ha, hall, hul, hFU, hlow, hbef⟩
  have hob' : h'.obj σ.next = some [.int .i64 p, vP, vB] := by rw [hkp.obj _ (by omega)]; exact hob
  have hr3 : h'.rd σ.next 0 3 = some [.int .i64 p, vP, vB] := by rw [obj_rd hob']; rfl
  obtain ⟨e1, e2⟩ := hlow.els o
  have hFF := hFU
  obtain ⟨wk, ak, rk, rfl, hrk⟩ := hFU
  by_cases hu : u = []
  · subst hu
    obtain ⟨s', cap, rfl, hc, q2, q3, q4, q5⟩ := ha
    simp only [pwA, if_true, if_false, eq_self, nm_eq, reduceCtorEq, ↓reduceIte, nQ10, nQ7, nQ11, nQ12, nQ16, nQ17, nQ18, iQ2, iQ3, iQ4, iQ5, iQ6, lQ19, iQ7, lQ20, List.length_nil]
    exact Gh.finF (hHk.trans hkp) q2 (by omega) (hall.bL 0) hc.ok fun o1 => hk k _ _ ⟨hlow, hbef⟩
  · have hkn' := hlow.le o q hu
    have hpos : (0 : Int) < (u.length : Int) := by
      have : 0 < u.length := List.length_pos_iff.2 hu
      omega
    simp only [pwA, if_true, if_false, eq_self, nm_eq, reduceCtorEq, ↓reduceIte, nQ10, nQ7, nQ11, nQ12, nQ16, nQ17, nQ18, iQ2, iQ3, iQ4, iQ5, iQ6, lQ19, iQ7, lQ20, hpos, hr3]
    refine l32Whole_ok hR o.len (by omega) fun vW hW => ?_
    have hWW := hW
    obtain ⟨ww, aw, rw', rfl, hrw⟩ := hW
    simp only [pwA, if_true, if_false, eq_self, nm_eq, reduceCtorEq, ↓reduceIte, nQ10, nQ7, nQ11, nQ12, nQ16, nQ17, nQ18, iQ2, iQ3, iQ4, iQ5, iQ6, lQ19, iQ7, lQ20, hr3]
    refine l32Brackets_ok hR o q hp hFF hWW e1 (units_els o.pr) (by omega) (by rw [units_length]; omega) fun z out hcan hz => ?_
    have hzz := hz
    obtain ⟨wz, az, rz, rfl, hrz⟩ := hz
    simp only [pwA, if_true, if_false, eq_self, nm_eq, reduceCtorEq, ↓reduceIte, nQ10, nQ7, nQ11, nQ12, nQ16, nQ17, nQ18, iQ2, iQ3, iQ4, iQ5, iQ6, lQ19, iQ7, lQ20, hr3]
    refine PSl.push (bytes := 24) hkp ha (by omega) (by omega) fun v2 h2 k2 a2 => ?_
    simp only [pwA, if_true, if_false, eq_self, nm_eq, reduceCtorEq, ↓reduceIte, nQ10, nQ7, nQ11, nQ12, nQ16, nQ17, nQ18, iQ2, iQ3, iQ4, iQ5, iQ6, lQ19, iQ7, lQ20]
    refine ⟨_, ?_, k + 1, out, us ++ [out], _, v2, _, rfl, by omega, rfl, k2, a2, hall.snoc hzz, by rw [List.length_append, hul]; rfl, hzz, .succ hlow hcan, fun j u' hj hl => ?_⟩
    · omega
    · by_cases x : j = k
      · subst x
        rw [hl.unique o hlow]; exact hu
      · exact hbef j u' (by omega) hl
end Go.Proofs
namespace Go.Proofs
open Go.Ab Go.Lie
variable {σ : PHeap} {K : PV → PHeap → Prop} {p p' : Int} {n : Nat} {W : List (List Int)} {B : List (List (List Int))} {vP vB vL vU vV : PV} {s : Nat}
theorem Cls.le (o : OkW p n W) (q : OkB p n B) {c : Nat} (hc : Cls p n W B c) : c ≤ n + 1 := by
  rcases Nat.lt_or_ge n c with x | x
  · obtain ⟨c', rfl⟩ : ∃ c', c = c' + 1 := ⟨c - 1, by omega⟩
    obtain ⟨h1, h2⟩ := hc
    cases h1 with
    | succ h hcan => exact Nat.succ_le_succ (h.le o q (h2 _ _ (Nat.lt_succ_self _) h))
  · omega
theorem l32Class_ok (hR : IsR vP vB W B) (o : OkW p n W) (q : OkB p n B) (hp : isP p) (hk : ∀ c : Nat, Cls p n W B c → K (.int .i64 c) σ) : PCalls Tryz.prog 244 [.agg [.int .i64 p, vP, vB]] σ K := by
  have hn6 := o.le
  have h1 := hR.P.one
  have h2 := hR.B.one
  refine PCalls.gh ?_
  refine pcalls_of_vp mix Tryz.func244 cf244 rfl ?_
  dsimp only [if244, qI, eI, nI, qD, eD]
  simp only [pwA, if_true, if_false, eq_self, nm_eq, reduceCtorEq, ↓reduceIte, nQ10, nQ7, nQ11, nQ12, nQ16, nQ17, nQ18, iQ2, iQ3, iQ4, iQ5, iQ6, lQ19, iQ7, lQ20, h1, h2]
  refine l32Lower_ok hR o q hp fun c a rows hc => ?_
  have hcn := hc.le o q
  have hw : IntKind.i64.wrap (((c + 1 : Nat) : Int) - 1) = (c : Int) := by rw [wrap64 (by omega) (by omega)]; omega
  simp only [pwA, if_true, if_false, eq_self, nm_eq, reduceCtorEq, ↓reduceIte, nQ10, nQ7, nQ11, nQ12, nQ16, nQ17, nQ18, iQ2, iQ3, iQ4, iQ5, iQ6, lQ19, iQ7, lQ20, hw]
  exact Gh.fin0 (keep_new σ _) trivial (hk c hc)
theorem l33Is_ok (hR : IsR vP vB W B) (o : OkW p n W) (q : OkB p n B) (hp : isP p) (hk : ∀ t : Bool, (t = true ↔ isLz p n W B) → K (.bool t) σ) : PCalls Tryz.prog 158 [.agg [.int .i64 p, vP, vB]] σ K := by
  have h1 := hR.P.one
  have h2 := hR.B.one
  refine PCalls.gh ?_
  refine pcalls_of_vp mix Tryz.func158 cf158 rfl ?_
  dsimp only [if158, qI, eI, nI, qD, eD]
  simp only [pwA, if_true, if_false, eq_self, nm_eq, reduceCtorEq, ↓reduceIte, nQ10, nQ7, nQ11, nQ12, nQ16, nQ17, nQ18, iQ2, iQ3, iQ4, iQ5, iQ6, lQ19, iQ7, lQ20, h1, h2]
  refine l32Class_ok hR o q hp fun c hc => ?_
  simp only [pwA, if_true, if_false, eq_self, nm_eq, reduceCtorEq, ↓reduceIte, nQ10, nQ7, nQ11, nQ12, nQ16, nQ17, nQ18, iQ2, iQ3, iQ4, iQ5, iQ6, lQ19, iQ7, lQ20, h1, h2]
  refine Gh.fin0 (keep_new σ _) trivial (hk _ ?_)
  rw [lz_iff hc, decide_eq_true_eq]
end Go.Proofs
namespace Go.Proofs
open Go.Ab Go.Lie
variable {σ : PHeap} {K : PV → PHeap → Prop}
structure EucI (m a r nx x y : Int) : Prop where
  cof : ∃ s u v : Int, (s = 1 ∨ s = -1) ∧ 0 ≤ u ∧ u ≤ m ∧ 0 ≤ v ∧ x = s * u ∧ y = -s * v ∧ r * v + nx * u = m
  pos : 0 < r ∧ r ≤ m ∧ 0 ≤ nx ∧ nx < r
  xa : ∃ t, x * a = r + t * m
  ya : ∃ t, y * a = nx + t * m
  dm : ∃ c d, m = c * r + d * nx
  da : ∃ c d, a = c * r + d * nx
theorem le_of_mul {a b m : Int} (ha : 1 ≤ a) (hb : 0 ≤ b) (h : a * b ≤ m) : b ≤ m := by
  have := Int.mul_le_mul_of_nonneg_right ha hb
  omega
theorem EucI.start {m a : Int} (h1 : 0 ≤ a) (h2 : a < m) : EucI m a m a 0 1 where
  cof := ⟨-1, 0, 1, .inr rfl, by omega, by omega, by omega, by omega, by omega, by omega⟩
  pos := by omega
  xa := ⟨-1, by omega⟩
  ya := ⟨0, by omega⟩
  dm := ⟨1, 0, by omega⟩
  da := ⟨0, 1, by omega⟩
theorem EucI.step {m a r nx x y : Int} (h : EucI m a r nx x y) (hn : nx ≠ 0) : EucI m a nx (r - r / nx * nx) y (x - r / nx * y) ∧
    (-m ≤ x ∧ x ≤ m ∧ -m ≤ y ∧ y ≤ m ∧ -m ≤ r / nx * y ∧ r / nx * y ≤ m ∧ 0 ≤ r / nx ∧ r / nx ≤ m ∧ 0 ≤ r / nx * nx ∧ r / nx * nx ≤ m ∧ -m ≤ x - r / nx * y ∧ x - r / nx * y ≤ m) := by
  obtain ⟨s, u, v, hs, hu, hum, hv, hx, hy, he⟩ := h.cof
  obtain ⟨p1, p2, p3, p5⟩ := h.pos
  obtain ⟨tx, hxa⟩ := h.xa
  obtain ⟨ty, hya⟩ := h.ya
  obtain ⟨cm, dm, hdm⟩ := h.dm
  obtain ⟨ca, da, hda⟩ := h.da
  have hq0 : 0 ≤ r / nx := Int.ediv_nonneg (by omega) p3
  have e1 := Int.emod_nonneg r hn
  have e2 := Int.emod_lt_of_pos r (show 0 < nx by omega)
  have e3 : r % nx = r - r / nx * nx := by have := Int.mul_ediv_add_emod r nx; rw [Int.mul_comm]; omega
  generalize r / nx = q at *
  rw [e3] at e1 e2
  have hqv : 0 ≤ q * v := Int.mul_nonneg hq0 hv
  have hqn : 0 ≤ q * nx := Int.mul_nonneg hq0 p3
  have k1 : nx * (u + q * v) + (r - q * nx) * v = m := by grind
  have k2 : 0 ≤ (r - q * nx) * v := Int.mul_nonneg e1 hv
  have k3 : u + q * v ≤ m := le_of_mul (a := nx) (by omega) (by omega) (by omega)
  have k4 : 0 ≤ nx * u := Int.mul_nonneg p3 hu
  have k5 : v ≤ m := le_of_mul (a := r) (by omega) hv (by omega)
  have k6 : q ≤ m := le_of_mul (a := nx) (by omega) hq0 (by rw [Int.mul_comm]; omega)
  refine ⟨⟨⟨-s, v, u + q * v, by omega, hv, k5, by omega, by grind, by grind, by omega⟩, by omega, ⟨ty, hya⟩, ⟨tx - q * ty, by grind⟩, ⟨dm + cm * q, cm, by grind⟩, ⟨da + ca * q, ca, by grind⟩⟩, ?_⟩
  have k7 : q * y = -s * (q * v) := by grind
  have k8 : x - q * y = s * (u + q * v) := by grind
  rcases hs with rfl | rfl <;> omega
theorem inverseG_ok {a m : Int} (ha : 0 ≤ a) (ham : a < m) (hm : m ≤ 1000000) (hk : ∀ (x : Int) (b : Bool), 0 ≤ x → x < m → ((∃ z w : Int, a * z = 1 + w * m) → ∃ t, a * x = 1 + t * m) → K (.tup [.int .i64 x, .bool b]) σ) : PCalls Tryz.prog 199 [.int .i64 a, .int .i64 m] σ K := by
  refine pcalls_of_vp mix Tryz.func199 cf199 rfl ?_
  dsimp only [if199, qI, eI, nI, qD, eD]
  simp only [pwA, if_true, if_false, eq_self, nm_eq, reduceCtorEq, ↓reduceIte, nQ10, nQ7, nQ11, nQ12, nQ16, nQ17, nQ18, iQ2, iQ3, iQ4, iQ5, iQ6, lQ19, iQ7, lQ20]
  refine vp_loop (fun k vs h' => ∃ r nx x y : Int, k = nx.toNat ∧ vs = [.int .i64 m, .int .i64 r, .int .i64 nx, .int .i64 x, .int .i64 y] ∧ σ = h' ∧ EucI m a r nx x y) a.toNat ?_ ?_
  · exact ⟨m, a, 0, 1, rfl, rfl, rfl, EucI.start ha ham⟩
  rintro k vs h' ⟨r, nx, x, y, rfl, rfl, rfl, hI⟩
  obtain ⟨p1, p2, p3, p5⟩ := hI.pos
  by_cases h0 : nx = 0
  · subst h0
    simp only [pwA, if_true, if_false, eq_self, nm_eq, reduceCtorEq, ↓reduceIte, nQ10, nQ7, nQ11, nQ12, nQ16, nQ17, nQ18, iQ2, iQ3, iQ4, iQ5, iQ6, lQ19, iQ7, lQ20]
    refine residue_ok (by omega) (by omega) ?_
    simp only [pwA, if_true, if_false, eq_self, nm_eq, reduceCtorEq, ↓reduceIte, nQ10, nQ7, nQ11, nQ12, nQ16, nQ17, nQ18, iQ2, iQ3, iQ4, iQ5, iQ6, lQ19, iQ7, lQ20]
    refine hk _ _ (Int.emod_nonneg _ (by omega)) (Int.emod_lt_of_pos _ (by omega)) fun ⟨z, w, hz⟩ => ?_
    obtain ⟨tx, hxa⟩ := hI.xa
    obtain ⟨cm, dm, hdm⟩ := hI.dm
    obtain ⟨ca, da, hda⟩ := hI.da
    have e : r * (ca * z - w * cm) = 1 := by grind
    have hr1 : r = 1 := by
      have hd : r ∣ 1 := ⟨_, e.symm⟩
      have := Int.le_of_dvd (by omega) hd
      omega
    have em := Int.mul_ediv_add_emod x m
    exact ⟨tx - a * (x / m), by grind⟩
  · obtain ⟨hI', b⟩ := hI.step h0
    have ht : r.tdiv nx = r / nx := Int.tdiv_eq_ediv_of_nonneg (by omega)
    obtain ⟨p1', p2', p3', p5'⟩ := hI'.pos
    simp only [pwA, if_true, if_false, eq_self, nm_eq, reduceCtorEq, ↓reduceIte, nQ10, nQ7, nQ11, nQ12, nQ16, nQ17, nQ18, iQ2, iQ3, iQ4, iQ5, iQ6, lQ19, iQ7, lQ20, h0, ht, wrap64 (n := r / nx) (by omega) (by omega), wrap64 (n := r / nx * nx) (by omega) (by omega), wrap64 (n := r / nx * y) (by omega) (by omega), wrap64 (n := r - r / nx * nx) (by omega) (by omega), wrap64 (n := x - r / nx * y) (by omega) (by omega)]
    exact ⟨_, by omega, _, _, _, _, rfl, rfl, hI'⟩
end Go.Proofs
