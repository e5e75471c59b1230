/- Lie rings: normal forms, sums, multiples, brackets. -/
import Derived.Test.YthgccplmmogcnaaCVU01
import Derived.Test.YthgccplmmogcnaaCVM01
set_option linter.unusedSimpArgs false
set_option linter.unusedVariables false
namespace Go.Proofs
open Go.Ab Go.Lie
variable {σ : PHeap} {K : PV → PHeap → Prop}

theorem addm_take {q : Int} {u r : List Int} {k : Nat} (hl : u.length = r.length) (hk : k < u.length) :
    ((addm q u r).take k ++ u.drop k).set k (u[k] + q * r[k]'(hl ▸ hk)) = (addm q u r).take (k + 1) ++ u.drop (k + 1) := by
  have hal := addm_length (q := q) (Nat.le_of_eq hl)
  apply List.ext_getElem?
  intro j
  rcases Nat.lt_trichotomy j k with x | x | x
  · rw [List.getElem?_set_ne (by omega), List.getElem?_append_left (by simp; omega), List.getElem?_append_left (by simp; omega), List.getElem?_take, List.getElem?_take, if_pos x, if_pos (by omega)]
  · subst x
    rw [List.getElem?_set_self (by simp; omega), List.getElem?_append_left (by simp; omega), List.getElem?_take, if_pos (by omega), addm_get hk (hl ▸ hk)]
  · rw [List.getElem?_set_ne (by omega), List.getElem?_append_right (by simp; omega), List.getElem?_append_right (by simp; omega), List.getElem?_drop, List.getElem?_drop, List.length_take, List.length_take]
    congr 1; omega
theorem addm_mid {q : Int} {u r : List Int} {k : Nat} (hl : u.length = r.length) (hk : k < u.length) : ((addm q u r).take k ++ u.drop k)[k]? = some u[k] := by
  have hal := addm_length (q := q) (Nat.le_of_eq hl)
  rw [List.getElem?_append_right (by rw [List.length_take]; omega), List.length_take, List.getElem?_drop]
  have : k + (k - min k (addm q u r).length) = k := by omega
  rw [this, List.getElem?_eq_getElem hk]
theorem addm_midlen {q : Int} {u r : List Int} {k : Nat} (hl : u.length = r.length) (hk : k ≤ u.length) : ((addm q u r).take k ++ u.drop k).length = u.length := by
  have hal := addm_length (q := q) (Nat.le_of_eq hl)
  simp; omega
theorem addm_all {q : Int} {u r : List Int} (hl : u.length = r.length) : (addm q u r).take u.length ++ u.drop u.length = addm q u r := by
  rw [List.drop_length, List.append_nil, List.take_of_length_le (by rw [addm_length (Nat.le_of_eq hl)]; exact Nat.le_refl _)]

abbrev big : Int := 1125899906842624

theorem normalLie_ok {s l : Nat} {w1 w : Bool} {a1 a : AV} {rP : List PV} {vB : PV} {p : Int} {n : Nat} {W : List (List Int)} {c : List Int} (hs : σ.obj s = some [.int .i64 p, .fz w1 a1 W.length rP, vB]) (hP : All2 FI rP W) (o : OkW p n W) (hc : c.length = n) (hb : bd big c)
    (hl : l = c.length) (hk : ResI σ K (norm p W c)) : PCalls Try.prog 117 [.ptr s 0, .fz w a l (pis c)] σ K := by
  subst hl
  refine PCalls.pwf fun hw => ?_
  have hsn := hw.lt hs
  have hne : ¬ s = σ.next := by omega
  have hW := o.len
  have hn6 := o.le
  have hbg : big = 1125899906842624 := rfl
  have hp := o.pr
  unfold okp at hp
  refine pcalls_of_vp mix Try.func117 cf117 rfl ?_
  dsimp only [if117, qI, eI, nI, qD, eD]
  simp only [pw0, pw1, pw2, pw3, pw4, pw5, pw6, pw7, pw8, pw9, if_true, if_false, eq_self, nm_eq, reduceCtorEq, ↓reduceIte, Nat.reduceEqDiff, Nat.reduceLeDiff, Nat.reduceBEq, Nat.reduceAdd, Nat.reduceLT, Nat.reduceSub, Nat.reduceMul, Int.reduceEq, Int.reduceLT, Int.reduceLE, Int.reduceNeg, Int.reduceToNat]
  refine Clone_ok rfl (by omega) ⟨fun h0 => ?_, fun cap hcap => ?_⟩
  · subst h0
    obtain rfl : n = 0 := by simpa using hc.symm
    obtain rfl : W = [] := List.eq_nil_of_length_eq_zero hW
    simp only [pw0, pw1, pw2, pw3, pw4, pw5, pw6, pw7, pw8, pw9, if_true, if_false, eq_self, nm_eq, reduceCtorEq, ↓reduceIte, Nat.reduceEqDiff, Nat.reduceLeDiff, Nat.reduceBEq, Nat.reduceAdd, Nat.reduceLT, Nat.reduceSub, Nat.reduceMul, Int.reduceEq, Int.reduceLT, Int.reduceLE, Int.reduceNeg, Int.reduceToNat, obj_rd1 hs, obj_rd hs]
    refine vp_loop (fun m vs h' => m = 0 ∧ vs = [.ptr s 0, .fz true .nils 0 [], .fz w1 a1 0 rP, .int .i64 (0 : Nat), .int .i64 (0 : Nat)] ∧ h' = σ) 0 ?_ ?_
    · exact ⟨rfl, rfl, rfl⟩
    · rintro m vs h' ⟨rfl, rfl, rfl⟩
      simp only [pw0, pw1, pw2, pw3, pw4, pw5, pw6, pw7, pw8, pw9, if_true, if_false, eq_self, nm_eq, reduceCtorEq, ↓reduceIte, Nat.reduceEqDiff, Nat.reduceLeDiff, Nat.reduceBEq, Nat.reduceAdd, Nat.reduceLT, Nat.reduceSub, Nat.reduceMul, Int.reduceEq, Int.reduceLT, Int.reduceLE, Int.reduceNeg, Int.reduceToNat]
      exact hk.1 rfl
  · simp only [pw0, pw1, pw2, pw3, pw4, pw5, pw6, pw7, pw8, pw9, if_true, if_false, eq_self, nm_eq, reduceCtorEq, ↓reduceIte, Nat.reduceEqDiff, Nat.reduceLeDiff, Nat.reduceBEq, Nat.reduceAdd, Nat.reduceLT, Nat.reduceSub, Nat.reduceMul, Int.reduceEq, Int.reduceLT, Int.reduceLE, Int.reduceNeg, Int.reduceToNat, obj_rd1 hs, obj_rd hs, hne]
    refine vp_loop (fun m vs h' => ∃ i : Nat, i ≤ n ∧ m = n - i ∧ vs = [.ptr s 0, .sl σ.next 0 c.length cap, .fz w1 a1 W.length rP, .int .i64 W.length, .int .i64 i] ∧ h' = σ.new (pis (nrm p W i c))) n ?_ ?_
    · exact ⟨0, by omega, by omega, rfl, rfl⟩
    · rintro m vs h' ⟨i, hi, rfl, rfl, rfl⟩
      simp only [pw0, pw1, pw2, pw3, pw4, pw5, pw6, pw7, pw8, pw9, if_true, if_false, eq_self, nm_eq, reduceCtorEq, ↓reduceIte, Nat.reduceEqDiff, Nat.reduceLeDiff, Nat.reduceBEq, Nat.reduceAdd, Nat.reduceLT, Nat.reduceSub, Nat.reduceMul, Int.reduceEq, Int.reduceLT, Int.reduceLE, Int.reduceNeg, Int.reduceToNat]
      refine iteI (fun hlt => ?_) fun hge => ?_
      · have hin : i < n := by omega
        have hvl := nrm_length o hc hi
        have hvb := nrm_bd' o (by decide) hc hb hi
        obtain ⟨w2, a2, hr⟩ := hP.rowI (k := i) (by omega)
        obtain ⟨hrl, hrb, hrz⟩ := o.row i (by omega)
        have hgd := getD_row (W := W) (i := i) (by omega)
        have hst := fun j => step_bds o hvb i j
        have hfm := floor_mul (p := p) (at_ (nrm p W i c) i) (by omega)
        have hal := at_eq (v := nrm p W i c) (j := i) (by omega)
        have hgi := gi (xs := nrm p W i c) (i := i) (by omega)
        rw [← hal] at hgi
        clear hal
        generalize hv : nrm p W i c = v at *
        have hib : i < c.length := by omega
        have hii := hvb i
        have hsmi : sm (at_ v i) := by unfold sm; omega
        simp only [pw0, pw1, pw2, pw3, pw4, pw5, pw6, pw7, pw8, pw9, if_true, if_false, eq_self, nm_eq, reduceCtorEq, ↓reduceIte, Nat.reduceEqDiff, Nat.reduceLeDiff, Nat.reduceBEq, Nat.reduceAdd, Nat.reduceLT, Nat.reduceSub, Nat.reduceMul, Int.reduceEq, Int.reduceLT, Int.reduceLE, Int.reduceNeg, Int.reduceToNat, hlt, hib, List.getElem?_drop, pis_get, hr, hgi, hne, obj_rd1 hs, obj_rd hs]
        refine floorQuotient_ok (by omega) hsmi ?_
        have hs1 : sm (at_ v i / p * p) := by have := (hst 0).1; unfold sm; omega
        have hs2 : sm (at_ v i - at_ v i / p * p) := by unfold sm; omega
        have hlv : i + 1 ≤ v.length := by omega
        simp only [pw0, pw1, pw2, pw3, pw4, pw5, pw6, pw7, pw8, pw9, if_true, if_false, eq_self, nm_eq, reduceCtorEq, ↓reduceIte, Nat.reduceEqDiff, Nat.reduceLeDiff, Nat.reduceBEq, Nat.reduceAdd, Nat.reduceLT, Nat.reduceSub, Nat.reduceMul, Int.reduceEq, Int.reduceLT, Int.reduceLE, Int.reduceNeg, Int.reduceToNat, hlt, hib, List.getElem?_drop, pis_get, pis_length, hr, hgi, hne, obj_rd1 hs, obj_rd hs, hs1.w, hs2.w, hlv]
        rw [pis_set_at (by omega)]
        have hu : (v.set i (at_ v i - at_ v i / p * p)).length = n := by rw [List.length_set, hvl]
        have hstep : nrm p W (i + 1) c = addm (at_ v i / p) (v.set i (at_ v i - at_ v i / p * p)) W[i] := by rw [nrm, hv, nstep, hgd]
        have hub : ∀ j, sm (at_ (v.set i (at_ v i - at_ v i / p * p)) j) ∧ sm (at_ v i / p * at_ W[i] j) ∧ sm (at_ (v.set i (at_ v i - at_ v i / p * p)) j + at_ v i / p * at_ W[i] j) := fun j => by
          have h1 := (hst j).2
          have h2 := hvb j
          rw [w_, hgd] at h1
          rw [at_set (by omega)]
          unfold sm
          split <;> omega
        generalize hq : at_ v i / p = q at *
        generalize hue : v.set i (at_ v i - q * p) = u at *
        refine vp_loop (fun m vs h' => ∃ k : Nat, k ≤ n ∧ m = n - k ∧ vs = [.ptr s 0, .sl σ.next 0 c.length cap, .int .i64 q, .fz w1 a1 W.length rP, .int .i64 W.length, .int .i64 i, .fz w2 a2 W[i].length (pis W[i]), .int .i64 W[i].length, .int .i64 k] ∧ h' = σ.new (pis ((addm q u W[i]).take k ++ u.drop k))) n ?_ ?_
        · exact ⟨0, by omega, by omega, rfl, rfl⟩
        · rintro m vs h' ⟨k, hk', rfl, rfl, rfl⟩
          simp only [pw0, pw1, pw2, pw3, pw4, pw5, pw6, pw7, pw8, pw9, if_true, if_false, eq_self, nm_eq, reduceCtorEq, ↓reduceIte, Nat.reduceEqDiff, Nat.reduceLeDiff, Nat.reduceBEq, Nat.reduceAdd, Nat.reduceLT, Nat.reduceSub, Nat.reduceMul, Int.reduceEq, Int.reduceLT, Int.reduceLE, Int.reduceNeg, Int.reduceToNat]
          refine iteI (fun hlt2 => ?_) fun hge => ?_
          · have hkc : k < c.length := by omega
            have hku : k < u.length := by omega
            obtain ⟨b1, b2, b3⟩ := hub k
            rw [at_eq hku, at_eq hlt2] at b3
            rw [at_eq hlt2] at b2
            have hlen : k + 1 ≤ ((addm q u W[i]).take k ++ u.drop k).length := by rw [addm_midlen (by omega) (by omega)]; omega
            simp only [pw0, pw1, pw2, pw3, pw4, pw5, pw6, pw7, pw8, pw9, if_true, if_false, eq_self, nm_eq, reduceCtorEq, ↓reduceIte, Nat.reduceEqDiff, Nat.reduceLeDiff, Nat.reduceBEq, Nat.reduceAdd, Nat.reduceLT, Nat.reduceSub, Nat.reduceMul, Int.reduceEq, Int.reduceLT, Int.reduceLE, Int.reduceNeg, Int.reduceToNat, hlt2, hkc, List.getElem?_drop, pis_get, pis_length, gi hlt2, addm_mid (q := q) (hu.trans hrl.symm) hku, b2.w, b3.w, hlen, wrapS hlt2 (by omega : W[i].length ≤ 4611686018427387904)]
            refine ⟨_, by omega, k + 1, by omega, rfl, rfl, ?_⟩
            rw [pis_set_at (by omega), addm_take (by omega) hku]
          · have hkn : k = u.length := by omega
            subst hkn
            rw [addm_all (by omega)]
            simp only [pw0, pw1, pw2, pw3, pw4, pw5, pw6, pw7, pw8, pw9, if_true, if_false, eq_self, nm_eq, reduceCtorEq, ↓reduceIte, Nat.reduceEqDiff, Nat.reduceLeDiff, Nat.reduceBEq, Nat.reduceAdd, Nat.reduceLT, Nat.reduceSub, Nat.reduceMul, Int.reduceEq, Int.reduceLT, Int.reduceLE, Int.reduceNeg, Int.reduceToNat, wrapS (n := W.length) hlt (by omega)]
            refine ⟨_, by omega, i + 1, by omega, rfl, rfl, ?_⟩
            rw [hstep]
      · have hie : i = W.length := by omega
        subst hie
        have := hk.2 cap (by rw [norm_length o hc, ← hc]; exact hcap)
        rw [norm_length o hc, ← hc] at this
        exact this
/-- The values of a ring's two lists. -/
structure IsR (vP vB : PV) (W : List (List Int)) (B : List (List (List Int))) : Prop where
  P : FII vP W
  B : FIII vB B

theorem addm_pre {q : Int} {u r : List Int} {i : Nat} (hl : u.length = r.length) (hz : ∀ j, j ≤ i → at_ r j = 0) (hi : i < u.length) : (addm q u r).take (i + 1) ++ u.drop (i + 1) = u := by
  have hal := addm_length (q := q) (Nat.le_of_eq hl)
  have : (addm q u r).take (i + 1) = u.take (i + 1) := by
    apply List.ext_getElem?
    intro j
    rw [List.getElem?_take, List.getElem?_take]
    split
    · rename_i hj
      have := hz j (by omega)
      rw [at_eq (by omega)] at this
      rw [addm_get (by omega) (by omega), this, gi (by omega)]
      congr 1; omega
    · rfl
  rw [this, List.take_append_drop]

theorem l31Norm_ok {vP vB : PV} {l : Nat} {w : Bool} {a : AV} {p : Int} {n : Nat} {W : List (List Int)} {B : List (List (List Int))} {c : List Int} (hR : IsR vP vB W B) (o : OkW p n W) (hc : c.length = n) (hb : bd big c)
    (hl : l = c.length) (hk : ∀ a, K (.fz true a n (pis (norm p W c))) σ) : PCalls Try.prog 123 [.agg [.int .i64 p, vP, vB], .fz w a l (pis c)] σ K := by
  subst hl
  obtain ⟨⟨w1, a1, rP, rfl, hP⟩, ⟨w3, a3, rB, rfl, hB⟩⟩ := hR
  refine PCalls.gh ?_
  have hW := o.len
  have hn6 := o.le
  have hbg : big = 1125899906842624 := rfl
  have hp := o.pr
  unfold okp at hp
  refine pcalls_of_vp mix Try.func123 cf123 rfl ?_
  dsimp only [if123, qI, eI, nI, qD, eD]
  simp only [pw0, pw1, pw2, pw3, pw4, pw5, pw6, pw7, pw8, pw9, if_true, if_false, eq_self, nm_eq, reduceCtorEq, ↓reduceIte, Nat.reduceEqDiff, Nat.reduceLeDiff, Nat.reduceBEq, Nat.reduceAdd, Nat.reduceLT, Nat.reduceSub, Nat.reduceMul, Int.reduceEq, Int.reduceLT, Int.reduceLE, Int.reduceNeg, Int.reduceToNat]
  refine l01Own_ok rfl (by omega) fun cap hcap => ?_
  simp only [pw0, pw1, pw2, pw3, pw4, pw5, pw6, pw7, pw8, pw9, if_true, if_false, eq_self, nm_eq, reduceCtorEq, ↓reduceIte, Nat.reduceEqDiff, Nat.reduceLeDiff, Nat.reduceBEq, Nat.reduceAdd, Nat.reduceLT, Nat.reduceSub, Nat.reduceMul, Int.reduceEq, Int.reduceLT, Int.reduceLE, Int.reduceNeg, Int.reduceToNat]
  refine vp_loop (fun m vs h' => ∃ i : Nat, i ≤ n ∧ m = n - i ∧ vs = [.ptr σ.next 0, .sl (σ.next + 1) 0 c.length cap, .int .i64 i] ∧ h' = (σ.new [.int .i64 p, .fz w1 a1 W.length rP, .fz w3 a3 B.length rB]).new (pis (nrm p W i c))) n ?_ ?_
  · exact ⟨0, by omega, by omega, rfl, rfl⟩
  · rintro m vs h' ⟨i, hi, rfl, rfl, rfl⟩
    simp only [pw0, pw1, pw2, pw3, pw4, pw5, pw6, pw7, pw8, pw9, if_true, if_false, eq_self, nm_eq, reduceCtorEq, ↓reduceIte, Nat.reduceEqDiff, Nat.reduceLeDiff, Nat.reduceBEq, Nat.reduceAdd, Nat.reduceLT, Nat.reduceSub, Nat.reduceMul, Int.reduceEq, Int.reduceLT, Int.reduceLE, Int.reduceNeg, Int.reduceToNat]
    refine iteI (fun hlt => ?_) fun hge => ?_
    · have hin : i < n := by omega
      have hiW : i < W.length := by omega
      have hvl := nrm_length o hc hi
      have hvb := nrm_bd' o (by decide) hc hb hi
      obtain ⟨w2, a2, hr⟩ := hP.rowI (k := i) (by omega)
      obtain ⟨hrl, hrb, hrz⟩ := o.row i (by omega)
      have hgd := getD_row (W := W) (i := i) (by omega)
      have hst := fun j => step_bds o hvb i j
      have hfm := floor_mul (p := p) (at_ (nrm p W i c) i) (by omega)
      have hal := at_eq (v := nrm p W i c) (j := i) (by omega)
      have hgi := gi (xs := nrm p W i c) (i := i) (by omega)
      rw [← hal] at hgi
      clear hal
      generalize hv : nrm p W i c = v at *
      have hii := hvb i
      have hsmi : sm (at_ v i) := by unfold sm; omega
      simp only [pw0, pw1, pw2, pw3, pw4, pw5, pw6, pw7, pw8, pw9, if_true, if_false, eq_self, nm_eq, reduceCtorEq, ↓reduceIte, Nat.reduceEqDiff, Nat.reduceLeDiff, Nat.reduceBEq, Nat.reduceAdd, Nat.reduceLT, Nat.reduceSub, Nat.reduceMul, Int.reduceEq, Int.reduceLT, Int.reduceLE, Int.reduceNeg, Int.reduceToNat, hlt, List.getElem?_drop, pis_get, hgi]
      refine l04Floor_ok (by omega) hsmi ?_
      have hs1 : sm (at_ v i / p * p) := by have := (hst 0).1; unfold sm; omega
      have hs2 : sm (at_ v i - at_ v i / p * p) := by unfold sm; omega
      have hlv : i + 1 ≤ v.length := by omega
      simp only [pw0, pw1, pw2, pw3, pw4, pw5, pw6, pw7, pw8, pw9, if_true, if_false, eq_self, nm_eq, reduceCtorEq, ↓reduceIte, Nat.reduceEqDiff, Nat.reduceLeDiff, Nat.reduceBEq, Nat.reduceAdd, Nat.reduceLT, Nat.reduceSub, Nat.reduceMul, Int.reduceEq, Int.reduceLT, Int.reduceLE, Int.reduceNeg, Int.reduceToNat, hlt, List.getElem?_drop, pis_get, pis_length, hgi, hs1.w, hs2.w, hlv, wrapS hlt (by omega : c.length ≤ 4611686018427387904)]
      rw [pis_set_at (by omega)]
      have hu : (v.set i (at_ v i - at_ v i / p * p)).length = n := by rw [List.length_set, hvl]
      have hstep : nrm p W (i + 1) c = addm (at_ v i / p) (v.set i (at_ v i - at_ v i / p * p)) W[i] := by rw [nrm, hv, nstep, hgd]
      have hub : ∀ j, sm (at_ (v.set i (at_ v i - at_ v i / p * p)) j) ∧ sm (at_ v i / p * at_ W[i] j) ∧ sm (at_ (v.set i (at_ v i - at_ v i / p * p)) j + at_ v i / p * at_ W[i] j) := fun j => by
        have h1 := (hst j).2
        have h2 := hvb j
        rw [w_, hgd] at h1
        rw [at_set (by omega)]
        unfold sm
        split <;> omega
      generalize hq : at_ v i / p = q at *
      generalize hue : v.set i (at_ v i - q * p) = u at *
      refine vp_loop (fun m vs h' => ∃ k : Nat, i + 1 ≤ k ∧ k ≤ n ∧ m = n - k ∧ vs = [.ptr σ.next 0, .sl (σ.next + 1) 0 c.length cap, .int .i64 i, .int .i64 q, .int .i64 k] ∧ h' = (σ.new [.int .i64 p, .fz w1 a1 W.length rP, .fz w3 a3 B.length rB]).new (pis ((addm q u W[i]).take k ++ u.drop k))) (n - (i + 1)) ?_ ?_
      · exact ⟨i + 1, by omega, by omega, by omega, rfl, by rw [addm_pre (by omega) hrz (by omega)]⟩
      · rintro m vs h' ⟨k, hik, hk', rfl, rfl, rfl⟩
        simp only [pw0, pw1, pw2, pw3, pw4, pw5, pw6, pw7, pw8, pw9, if_true, if_false, eq_self, nm_eq, reduceCtorEq, ↓reduceIte, Nat.reduceEqDiff, Nat.reduceLeDiff, Nat.reduceBEq, Nat.reduceAdd, Nat.reduceLT, Nat.reduceSub, Nat.reduceMul, Int.reduceEq, Int.reduceLT, Int.reduceLE, Int.reduceNeg, Int.reduceToNat]
        refine iteI (fun hlt2 => ?_) fun hge => ?_
        · have hku : k < u.length := by omega
          have hkw : k < W[i].length := by omega
          obtain ⟨b1, b2, b3⟩ := hub k
          rw [at_eq hku, at_eq hkw] at b3
          rw [at_eq hkw] at b2
          have hlen : k + 1 ≤ ((addm q u W[i]).take k ++ u.drop k).length := by rw [addm_midlen (by omega) (by omega)]; omega
          simp only [pw0, pw1, pw2, pw3, pw4, pw5, pw6, pw7, pw8, pw9, if_true, if_false, eq_self, nm_eq, reduceCtorEq, ↓reduceIte, Nat.reduceEqDiff, Nat.reduceLeDiff, Nat.reduceBEq, Nat.reduceAdd, Nat.reduceLT, Nat.reduceSub, Nat.reduceMul, Int.reduceEq, Int.reduceLT, Int.reduceLE, Int.reduceNeg, Int.reduceToNat, hlt2, hiW, hkw, hr, List.getElem?_drop, pis_get, pis_length, gi hkw, addm_mid (q := q) (hu.trans hrl.symm) hku, b2.w, b3.w, hlen, wrapS hlt2 (by omega : c.length ≤ 4611686018427387904)]
          refine ⟨_, by omega, k + 1, by omega, by omega, rfl, rfl, ?_⟩
          rw [pis_set_at (by omega), addm_take (by omega) hku]
        · have hkn : k = u.length := by omega
          subst hkn
          rw [addm_all (by omega)]
          simp only [pw0, pw1, pw2, pw3, pw4, pw5, pw6, pw7, pw8, pw9, if_true, if_false, eq_self, nm_eq, reduceCtorEq, ↓reduceIte, Nat.reduceEqDiff, Nat.reduceLeDiff, Nat.reduceBEq, Nat.reduceAdd, Nat.reduceLT, Nat.reduceSub, Nat.reduceMul, Int.reduceEq, Int.reduceLT, Int.reduceLE, Int.reduceNeg, Int.reduceToNat, wrapS (n := c.length) hlt (by omega)]
          refine ⟨_, by omega, i + 1, by omega, rfl, rfl, ?_⟩
          rw [hstep]
    · have hie : i = W.length := by omega
      subst hie
      rw [hc]
      exact Gh.finF (s := σ.next + 1) ((keep_new σ _).new _) (by simp only [pw0, pw1, pw2, pw3, pw4, pw5, pw6, pw7, pw8, pw9, if_true, if_false, eq_self, nm_eq, reduceCtorEq, ↓reduceIte, Nat.reduceEqDiff, Nat.reduceLeDiff, Nat.reduceBEq, Nat.reduceAdd, Nat.reduceLT, Nat.reduceSub, Nat.reduceMul, Int.reduceEq, Int.reduceLT, Int.reduceLE, Int.reduceNeg, Int.reduceToNat]; rfl) (by omega) (pis_bel _ _) (by rw [← hc]; exact hcap.ok) fun _ => hk _

theorem take_rep_len {xs : List Int} (z : Int) {i : Nat} (hi : i ≤ xs.length) : (xs.take i ++ List.replicate (xs.length - i) z).length = xs.length := by simp; omega
theorem bd_sm {M : Int} (hM : M ≤ 4611686018427387904) {a : List Int} (h : bd M a) (j : Nat) : sm (at_ a j) := by have := h j; unfold sm; omega

theorem l31Mix_ok {vP vB : PV} {l l' : Nat} {w w' : Bool} {av bv : AV} {p : Int} {n : Nat} {W : List (List Int)} {B : List (List (List Int))} {k m : Int} {a b : List Int} (hR : IsR vP vB W B) (o : OkW p n W) (ha : a.length = n) (hb : b.length = n)
    (hka : ∀ j, sm (k * at_ a j) ∧ sm (m * at_ b j)) (hm : bd big (lmix k a m b))
    (hl : l = a.length) (hl' : l' = b.length) (hk : ∀ v, K (.fz true v n (pis (norm p W (lmix k a m b)))) σ) : PCalls Try.prog 93 [.agg [.int .i64 p, vP, vB], .int .i64 k, .fz w av l (pis a), .int .i64 m, .fz w' bv l' (pis b)] σ K := by
  subst hl
  subst hl'
  refine PCalls.gh ?_
  have h1 := hR.P.one
  have h2 := hR.B.one
  have hn6 := o.le
  have hml := lmix_length (k := k) (m := m) (ha.trans hb.symm)
  refine pcalls_of_vp mix Try.func93 cf93 rfl ?_
  dsimp only [if93, qI, eI, nI, qD, eD]
  simp only [pw0, pw1, pw2, pw3, pw4, pw5, pw6, pw7, pw8, pw9, if_true, if_false, eq_self, nm_eq, reduceCtorEq, ↓reduceIte, Nat.reduceEqDiff, Nat.reduceLeDiff, Nat.reduceBEq, Nat.reduceAdd, Nat.reduceLT, Nat.reduceSub, Nat.reduceMul, Int.reduceEq, Int.reduceLT, Int.reduceLE, Int.reduceNeg, Int.reduceToNat, h1, h2, List.length_replicate, pis_rep, mk8 (n := a.length) (by omega), mkL (n := a.length) (by omega)]
  generalize hx : lmix k a m b = x at *
  refine vp_loop (fun q vs h' => ∃ i : Nat, i ≤ n ∧ q = n - i ∧ vs = [.int .i64 k, .fz w av a.length (pis a), .int .i64 m, .fz w' bv b.length (pis b), .ptr σ.next 0, .sl (σ.next + 1) 0 a.length (.known a.length), .int .i64 i] ∧
    h' = (σ.new [.int .i64 p, vP, vB]).new (pis (x.take i ++ List.replicate (x.length - i) 0))) n ?_ ?_
  · exact ⟨0, by omega, by omega, rfl, by rw [List.take_zero, List.nil_append, Nat.sub_zero, hml]⟩
  · rintro q vs h' ⟨i, hi, rfl, rfl, rfl⟩
    simp only [pw0, pw1, pw2, pw3, pw4, pw5, pw6, pw7, pw8, pw9, if_true, if_false, eq_self, nm_eq, reduceCtorEq, ↓reduceIte, Nat.reduceEqDiff, Nat.reduceLeDiff, Nat.reduceBEq, Nat.reduceAdd, Nat.reduceLT, Nat.reduceSub, Nat.reduceMul, Int.reduceEq, Int.reduceLT, Int.reduceLE, Int.reduceNeg, Int.reduceToNat]
    refine iteI (fun hlt => ?_) fun hge => ?_
    · have hib : i < b.length := by omega
      have hix : i < x.length := by omega
      obtain ⟨b1, b2⟩ := hka i
      have b3 := bd_sm (by decide) hm i
      have e1 : x[i] = k * a[i] + m * b[i] := by
        have := lmix_get (k := k) (m := m) hlt hib
        rw [hx, gi hix] at this
        exact Option.some.inj this
      rw [at_eq hlt] at b1
      rw [at_eq hib] at b2
      rw [at_eq hix, e1] at b3
      have hlen : i + 1 ≤ (x.take i ++ List.replicate (x.length - i) 0).length := by rw [take_rep_len 0 (by omega)]; omega
      simp only [pw0, pw1, pw2, pw3, pw4, pw5, pw6, pw7, pw8, pw9, if_true, if_false, eq_self, nm_eq, reduceCtorEq, ↓reduceIte, Nat.reduceEqDiff, Nat.reduceLeDiff, Nat.reduceBEq, Nat.reduceAdd, Nat.reduceLT, Nat.reduceSub, Nat.reduceMul, Int.reduceEq, Int.reduceLT, Int.reduceLE, Int.reduceNeg, Int.reduceToNat, hlt, hib, gi hlt, gi hib, List.getElem?_drop, pis_get, pis_length, b1.w, b2.w, b3.w, hlen, wrapS hlt (by omega : a.length ≤ 4611686018427387904)]
      refine ⟨_, by omega, i + 1, by omega, rfl, rfl, ?_⟩
      rw [pis_set_at (by omega), ← e1, take_set_rep x 0 hix]
    · have hie : i = x.length := by omega
      subst hie
      rw [List.take_length, Nat.sub_self, List.replicate_zero, List.append_nil]
      simp only [pw0, pw1, pw2, pw3, pw4, pw5, pw6, pw7, pw8, pw9, if_true, if_false, eq_self, nm_eq, reduceCtorEq, ↓reduceIte, Nat.reduceEqDiff, Nat.reduceLeDiff, Nat.reduceBEq, Nat.reduceAdd, Nat.reduceLT, Nat.reduceSub, Nat.reduceMul, Int.reduceEq, Int.reduceLT, Int.reduceLE, Int.reduceNeg, Int.reduceToNat]
      refine PCalls.frz (s := σ.next + 1) (cs := pis x) (by simp only [pw0, pw1, pw2, pw3, pw4, pw5, pw6, pw7, pw8, pw9, if_true, if_false, eq_self, nm_eq, reduceCtorEq, ↓reduceIte, Nat.reduceEqDiff, Nat.reduceLeDiff, Nat.reduceBEq, Nat.reduceAdd, Nat.reduceLT, Nat.reduceSub, Nat.reduceMul, Int.reduceEq, Int.reduceLT, Int.reduceLE, Int.reduceNeg, Int.reduceToNat]) (pis_bel _ _) fun o1 => ?_
      have hcap : capOK (.known a.length) a.length = true := by simp [capOK]
      simp only [sbs, sb, hcap, and_self, if_true, hR.P.sb, hR.B.sb]
      refine l31Norm_ok hR o (hml.trans ha) hm hml.symm fun v => ?_
      simp only [pw0, pw1, pw2, pw3, pw4, pw5, pw6, pw7, pw8, pw9, if_true, if_false, eq_self, nm_eq, reduceCtorEq, ↓reduceIte, Nat.reduceEqDiff, Nat.reduceLeDiff, Nat.reduceBEq, Nat.reduceAdd, Nat.reduceLT, Nat.reduceSub, Nat.reduceMul, Int.reduceEq, Int.reduceLT, Int.reduceLE, Int.reduceNeg, Int.reduceToNat]
      exact Gh.fin0 (((keep_new σ _).new _).kill (by omega)) trivial (hk _)
end Go.Proofs
