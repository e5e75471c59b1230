/- The compiled forms of the functions, each held against the program by the kernel. Written by program. -/
import Derived.Test.YtpkibanhkjboeaaBP31
import Derived.Test.YtpkibanhkjboeaaBP26
import Derived.Test.YtpkibanhkjboeaaChecked
set_option linter.unusedSimpArgs false
set_option linter.unusedVariables false
namespace Go.Proofs
open Go.Ab Go.Lie Go.Grp Go.Mx
variable {σ : PHeap} {K : PV → PHeap → Prop} {p d : Int} {n na : Nat} {v w x xs ys : List Int} {A B M vals : List (List Int)} {As : List (List (List Int))} {vA vB vM vv vx vw vV v0 : PV} {O : List Int} {P : List (List Int)} {C : List (List (List Int))} {vO vP vC : PV} {s sp : Nat}
theorem l02Add_ok {c : Int} (hp : 2 ≤ p ∧ p ≤ 7) (hc : -1 ≤ c ∧ c ≤ 6) (hv : Ve p n v) (hw : Ve p n w) (hn : n ≤ 8) (hvv : FI vv v) (hvw : FI vw w) (hk : ∀ z, FI z (vadd p c v w) → K z σ) :
    PCalls Try.prog 114 [.int .i64 p, vv, .int .i64 c, vw] σ K := by
  have hvl := hv.len
  have hwl := hw.len
  have hln : (vadd p c v w).length = v.length := by unfold vadd; exact vstep_length (by omega)
  obtain ⟨wv, av, rfl⟩ := hvv
  obtain ⟨ww, aw, rfl⟩ := hvw
  refine PCalls.gh ?_
  refine pcalls_of_vp mix Try.func114 cf114 rfl ?_
  dsimp only [if114, qI, eI, nI, qD, eD]
  simp only [pwA, if_true, if_false, eq_self, nm_eq, reduceCtorEq, ↓reduceIte, Nat.reduceEqDiff, Nat.reduceLeDiff, Nat.reduceBEq, Nat.reduceAdd, Nat.reduceLT, Nat.reduceSub, Nat.reduceMul, Int.reduceEq, Int.reduceLT, Int.reduceLE, Int.reduceNeg, Int.reduceToNat, List.reduceReplicate, Int.ofNat_le, List.getElem?_drop]
  refine l01Own_ok rfl (by omega) fun cap hcap => ?_
  simp only [pwA, if_true, if_false, eq_self, nm_eq, reduceCtorEq, ↓reduceIte, Nat.reduceEqDiff, Nat.reduceLeDiff, Nat.reduceBEq, Nat.reduceAdd, Nat.reduceLT, Nat.reduceSub, Nat.reduceMul, Int.reduceEq, Int.reduceLT, Int.reduceLE, Int.reduceNeg, Int.reduceToNat, List.reduceReplicate, Int.ofNat_le, List.getElem?_drop]
  refine vp_loop (fun m vs h' => ∃ i : Nat, i ≤ v.length ∧ m = v.length - i ∧ vs = [.int .i64 p, .int .i64 c, .fz ww aw w.length (pis w), .sl σ.next 0 v.length cap, .int .i64 i] ∧ h' = σ.new (pis ((vadd p c v w).take i ++ v.drop i))) v.length ?_ ?_
  · exact ⟨0, by omega, by omega, rfl, by rw [List.take_zero, List.drop_zero, List.nil_append]⟩
  rintro m vs h' ⟨i, hi, rfl, rfl, rfl⟩
  by_cases hlt : i < v.length
  rotate_left
  · have hie : i = v.length := by omega
    subst hie
    have e0 : (vadd p c v w).take v.length ++ v.drop v.length = vadd p c v w := by rw [List.drop_length, List.append_nil, List.take_of_length_le (by omega)]
    rw [e0]
    simp only [pwA, if_true, if_false, eq_self, nm_eq, reduceCtorEq, ↓reduceIte, Nat.reduceEqDiff, Nat.reduceLeDiff, Nat.reduceBEq, Nat.reduceAdd, Nat.reduceLT, Nat.reduceSub, Nat.reduceMul, Int.reduceEq, Int.reduceLT, Int.reduceLE, Int.reduceNeg, Int.reduceToNat, List.reduceReplicate, Int.ofNat_le, List.getElem?_drop, Nat.lt_irrefl]
    exact Gh.finF (s := σ.next) (keep_new σ _) (by simp only [pwA, if_true, if_false, eq_self, nm_eq, reduceCtorEq, ↓reduceIte, Nat.reduceEqDiff, Nat.reduceLeDiff, Nat.reduceBEq, Nat.reduceAdd, Nat.reduceLT, Nat.reduceSub, Nat.reduceMul, Int.reduceEq, Int.reduceLT, Int.reduceLE, Int.reduceNeg, Int.reduceToNat, List.reduceReplicate, Int.ofNat_le, List.getElem?_drop]; rfl) (Nat.le_refl _) (pis_bel _ _) hcap.ok fun o => hk _ ⟨true, .sl o 0 v.length cap, by rw [hln]⟩
  have hlt2 : i < w.length := by omega
  have e1 := td_get hln hlt
  have c1 := hw.bd i
  have c2 := hv.bd i
  rw [at_eq hlt2] at c1
  rw [at_eq hlt] at c2
  have hlen : i + 1 ≤ ((vadd p c v w).take i ++ v.drop i).length := by simp; omega
  have hb : -6 ≤ c * w[i] ∧ c * w[i] ≤ 36 := by
    by_cases h0 : c = -1
    · subst h0; omega
    · have := sm6 (a := c) (b := w[i]) (by omega) (by omega)
      omega
  have ew1 : IntKind.i64.wrap (c * w[i]) = c * w[i] := wrap64 (by omega) (by omega)
  have ew2 : IntKind.i64.wrap (v[i] + c * w[i]) = v[i] + c * w[i] := wrap64 (by omega) (by omega)
  simp only [pwA, if_true, if_false, eq_self, nm_eq, reduceCtorEq, ↓reduceIte, Nat.reduceEqDiff, Nat.reduceLeDiff, Nat.reduceBEq, Nat.reduceAdd, Nat.reduceLT, Nat.reduceSub, Nat.reduceMul, Int.reduceEq, Int.reduceLT, Int.reduceLE, Int.reduceNeg, Int.reduceToNat, List.reduceReplicate, Int.ofNat_le, List.getElem?_drop, hlt, hlt2, List.getElem?_drop, pis_get, pis_length, gi hlt2, e1, hlen, ew1, ew2]
  refine l01Mod_ok (by omega) (by omega) ?_
  simp only [pwA, if_true, if_false, eq_self, nm_eq, reduceCtorEq, ↓reduceIte, Nat.reduceEqDiff, Nat.reduceLeDiff, Nat.reduceBEq, Nat.reduceAdd, Nat.reduceLT, Nat.reduceSub, Nat.reduceMul, Int.reduceEq, Int.reduceLT, Int.reduceLE, Int.reduceNeg, Int.reduceToNat, List.reduceReplicate, Int.ofNat_le, List.getElem?_drop, hlt, hlen, pis_length, wrapS hlt (by omega : v.length ≤ 4611686018427387904)]
  refine ⟨_, by omega, i + 1, by omega, rfl, rfl, ?_⟩
  rw [pis_set_at (by simp; omega)]
  have hiv : i < (vadd p c v w).length := by omega
  have hget : (vadd p c v w)[i] = (v[i] + c * w[i]) % p := vstep_get (by omega) hlt
  rw [← td_set hln hiv, hget]
theorem ve_zeros (hp : 0 < p) : Ve p n (List.replicate n 0) := by
  refine ⟨by simp, fun j => ?_⟩
  rcases Nat.lt_or_ge j n with g | g
  · rw [at_eq (by simpa using g), List.getElem_replicate]; omega
  · rw [at_ge (by simpa using g)]; omega
theorem l22Step_ok {i : Nat} (hp : 2 ≤ p ∧ p ≤ 7) (hn : n ≤ 3) (hq : SqL p n As) (hi : i < As.length) (hvs : Ma p n vals) (hvl : vals.length = As.length) (hv : Ve p n v) (hvA : FIII vA As) (hvV : FII vV vals) (hvv : FI vv v) (hk : ∀ z, FI z (vs p n As vals v i) → K z σ) :
    PCalls Try.prog 121 [.agg [.int .i64 p, .int .i64 n, vA], vV, vv, .int .i64 i] σ K := by
  have hA1 := hvA.one
  have hm := hq.mat hi
  have hiV : i < vals.length := by omega
  have hrow := hvs.row hiV
  obtain ⟨wA, aA, rA, rfl, hrA⟩ := hvA
  obtain ⟨wV, aV, rV, rfl, hrV⟩ := hvV
  obtain ⟨w4, a4, rs, hr, hrs⟩ := hrA.rowL hi
  obtain ⟨w5, a5, hr5⟩ := hrV.rowI hiV
  rw [mat_eq hi] at hm
  refine PCalls.gh ?_
  refine pcalls_of_vp mix Try.func121 cf121 rfl ?_
  dsimp only [if121, qI, eI, nI, qD, eD]
  simp only [pwA, if_true, if_false, eq_self, nm_eq, reduceCtorEq, ↓reduceIte, Nat.reduceEqDiff, Nat.reduceLeDiff, Nat.reduceBEq, Nat.reduceAdd, Nat.reduceLT, Nat.reduceSub, Nat.reduceMul, Int.reduceEq, Int.reduceLT, Int.reduceLE, Int.reduceNeg, Int.reduceToNat, List.reduceReplicate, Int.ofNat_le, List.getElem?_drop, hA1, hi, hiV, hr, hr5, List.getElem?_drop]
  refine l02Times_fz hp hm.2 (by rw [hm.1]; exact hv) (by omega) (by rw [hm.1]; omega) ⟨w4, a4, rs, rfl, hrs⟩ hvv fun z hz => ?_
  simp only [pwA, if_true, if_false, eq_self, nm_eq, reduceCtorEq, ↓reduceIte, Nat.reduceEqDiff, Nat.reduceLeDiff, Nat.reduceBEq, Nat.reduceAdd, Nat.reduceLT, Nat.reduceSub, Nat.reduceMul, Int.reduceEq, Int.reduceLT, Int.reduceLE, Int.reduceNeg, Int.reduceToNat, List.reduceReplicate, Int.ofNat_le, List.getElem?_drop, hA1, hi, hiV, hr, hr5, List.getElem?_drop]
  refine l02Add_ok (n := n) hp (by omega) (vt_ve (by omega) hm.2 (by rw [hv.len, hm.1])) (by rw [← row_eq hiV]; exact hrow) (by omega) hz ⟨w5, a5, rfl⟩ fun z2 hz2 => ?_
  simp only [pwA, if_true, if_false, eq_self, nm_eq, reduceCtorEq, ↓reduceIte, Nat.reduceEqDiff, Nat.reduceLeDiff, Nat.reduceBEq, Nat.reduceAdd, Nat.reduceLT, Nat.reduceSub, Nat.reduceMul, Int.reduceEq, Int.reduceLT, Int.reduceLE, Int.reduceNeg, Int.reduceToNat, List.reduceReplicate, Int.ofNat_le, List.getElem?_drop]
  refine Gh.fin0 (keep_new σ _) (hz2.bel _) (hk _ ?_)
  show FI z2 (vadd p 1 (vt p n v (Mx.mat As i)) (vals.getD i []))
  rw [mat_eq hi, getD_row' hiV]
  exact hz2
theorem l22Behind_ok (hp : 2 ≤ p ∧ p ≤ 7) (hn : n ≤ 3) (hq : SqL p n As) (hal : As.length ≤ 1048576) (hvs : Ma p n vals) (hvl : vals.length = As.length) (hx : ∀ j, 0 ≤ at_ x j ∧ at_ x j ≤ 7) (hxl : x.length ≤ As.length) (hv : Ve p n v) (hvA : FIII vA As) (hvV : FII vV vals) (hvv : FI vv v) (hvx : FI vx x)
    (hk : ∀ z, FI z (expF (vs p n As vals) x x.length v) → K z σ) :
    PCalls Try.prog 122 [.agg [.int .i64 p, .int .i64 n, vA], vV, vv, vx] σ K := by
  have h1 := hvA.one
  have hV1 := hvV.one
  have hvA0 := hvA
  have hvV0 := hvV
  obtain ⟨wx, ax, rfl⟩ := hvx
  refine PCalls.gh ?_
  refine pcalls_of_vp mix Try.func122 cf122 rfl ?_
  dsimp only [if122, qI, eI, nI, qD, eD]
  simp only [pwA, if_true, if_false, eq_self, nm_eq, reduceCtorEq, ↓reduceIte, Nat.reduceEqDiff, Nat.reduceLeDiff, Nat.reduceBEq, Nat.reduceAdd, Nat.reduceLT, Nat.reduceSub, Nat.reduceMul, Int.reduceEq, Int.reduceLT, Int.reduceLE, Int.reduceNeg, Int.reduceToNat, List.reduceReplicate, Int.ofNat_le, List.getElem?_drop, h1]
  refine vp_loop (fun m us h' => ∃ (i : Nat) (vX : PV), i ≤ x.length ∧ m = x.length - i ∧ us = [vV, vX, .fz wx ax x.length (pis x), .ptr σ.next 0, .int .i64 i] ∧ h' = σ.new [.int .i64 p, .int .i64 n, vA] ∧ FI vX (expF (vs p n As vals) x i v)) x.length ?_ ?_
  · exact ⟨0, vv, by omega, by omega, rfl, rfl, hvv⟩
  rintro m us h' ⟨i, vX, hi, rfl, rfl, rfl, hX⟩
  simp only [pwA, if_true, if_false, eq_self, nm_eq, reduceCtorEq, ↓reduceIte, Nat.reduceEqDiff, Nat.reduceLeDiff, Nat.reduceBEq, Nat.reduceAdd, Nat.reduceLT, Nat.reduceSub, Nat.reduceMul, Int.reduceEq, Int.reduceLT, Int.reduceLE, Int.reduceNeg, Int.reduceToNat, List.reduceReplicate, Int.ofNat_le, List.getElem?_drop]
  refine iteI (fun hlt => ?_) fun hge => ?_
  rotate_left
  · have hie : i = x.length := by omega
    subst hie
    exact Gh.fin0 (keep_new σ _) (hX.bel _) (hk _ hX)
  have hiA : i < As.length := by omega
  have bx := hx i
  have hnx : ((nx x i : Nat) : Int) = x[i] := by
    unfold nx
    rw [Int.toNat_of_nonneg bx.1, at_eq hlt]
  have hsq := expF_in (S := Ve p n) (f := vs p n As vals) (x := x) (n := As.length) (fun a i hi ha => vs_in (by omega) hq hvs hvl hi ha) i (by omega) hv
  refine vp_loop (fun m us h' => ∃ (k : Nat) (vX : PV), k ≤ nx x i ∧ m = nx x i - k ∧ us = [vV, vX, .fz wx ax x.length (pis x), .ptr σ.next 0, .int .i64 i, .int .i64 k] ∧ h' = σ.new [.int .i64 p, .int .i64 n, vA] ∧ FI vX (repF (vs p n As vals) i k (expF (vs p n As vals) x i v))) (nx x i) ?_ ?_
  · exact ⟨0, vX, by omega, by omega, rfl, rfl, hX⟩
  clear hX vX
  rintro m us h' ⟨k, vX, hk', rfl, rfl, rfl, hX⟩
  simp only [pwA, if_true, if_false, eq_self, nm_eq, reduceCtorEq, ↓reduceIte, Nat.reduceEqDiff, Nat.reduceLeDiff, Nat.reduceBEq, Nat.reduceAdd, Nat.reduceLT, Nat.reduceSub, Nat.reduceMul, Int.reduceEq, Int.reduceLT, Int.reduceLE, Int.reduceNeg, Int.reduceToNat, List.reduceReplicate, Int.ofNat_le, List.getElem?_drop, hlt, gi hlt, pis_get, List.getElem?_drop]
  rw [← hnx]
  have hn7 : nx x i ≤ 7 := by unfold nx; omega
  by_cases hlk : k < nx x i
  · have hlkI : (k : Int) < ((nx x i : Nat) : Int) := by omega
    have hsk := repF_in (S := Ve p n) (f := vs p n As vals) (i := i) (fun a ha => vs_in (by omega) hq hvs hvl hiA ha) k hsq
    have ew2 : IntKind.i64.wrap ((k : Int) + 1) = ((k + 1 : Nat) : Int) := wrapS hlk (by omega)
    simp only [pwA, if_true, if_false, eq_self, nm_eq, reduceCtorEq, ↓reduceIte, Nat.reduceEqDiff, Nat.reduceLeDiff, Nat.reduceBEq, Nat.reduceAdd, Nat.reduceLT, Nat.reduceSub, Nat.reduceMul, Int.reduceEq, Int.reduceLT, Int.reduceLE, Int.reduceNeg, Int.reduceToNat, List.reduceReplicate, Int.ofNat_le, List.getElem?_drop, hlkI, h1, hV1]
    refine l22Step_ok hp hn hq hiA hvs hvl hsk hvA0 hvV0 hX fun z hz => ?_
    simp only [pwA, if_true, if_false, eq_self, nm_eq, reduceCtorEq, ↓reduceIte, Nat.reduceEqDiff, Nat.reduceLeDiff, Nat.reduceBEq, Nat.reduceAdd, Nat.reduceLT, Nat.reduceSub, Nat.reduceMul, Int.reduceEq, Int.reduceLT, Int.reduceLE, Int.reduceNeg, Int.reduceToNat, List.reduceReplicate, Int.ofNat_le, List.getElem?_drop, ew2]
    refine ⟨nx x i - (k + 1), by omega, k + 1, z, by omega, rfl, rfl, ?_⟩
    rw [repF_succ]
    exact hz
  · have hke : k = nx x i := by omega
    subst hke
    have hlkI : ¬ ((nx x i : Nat) : Int) < ((nx x i : Nat) : Int) := by omega
    simp only [pwA, if_true, if_false, eq_self, nm_eq, reduceCtorEq, ↓reduceIte, Nat.reduceEqDiff, Nat.reduceLeDiff, Nat.reduceBEq, Nat.reduceAdd, Nat.reduceLT, Nat.reduceSub, Nat.reduceMul, Int.reduceEq, Int.reduceLT, Int.reduceLE, Int.reduceNeg, Int.reduceToNat, List.reduceReplicate, Int.ofNat_le, List.getElem?_drop, hlkI, wrapS hlt (by omega : x.length ≤ 4611686018427387904)]
    exact ⟨_, by omega, i + 1, vX, by omega, rfl, rfl, hX⟩
theorem valueOf_ok (hp : 2 ≤ p ∧ p ≤ 7) (hn : n ≤ 3) (hq : SqL p n As) (hal : As.length ≤ 1048576) (hvs : Ma p n vals) (hvl : vals.length = As.length) (hw : ∀ l ∈ w, 1 ≤ l ∧ l ≤ (As.length : Int)) (hwl : w.length ≤ 1048576) (hs : PtrR σ s p (.int .i64 n) vA) (hvA : FIII vA As) (hvV : FII vV vals) (hvw : FI vw w)
    (hk : ∀ cap, full 1 cap n → K (.sl σ.next 0 n cap) (σ.new (pis (foldW (vs p n As vals) w (List.replicate n 0))))) :
    PCalls Try.prog 120 [.ptr s 0, vV, vw] σ K := by
  have hvA0 := hvA
  obtain ⟨ww, aw, rfl⟩ := hvw
  obtain ⟨wV, aV, rV, rfl, hrV⟩ := hvV
  have hsl := hs.lt
  have e1 : σ.rd1 s 1 = some (.int .i64 n) := by rw [obj_rd1 hs.obj]; rfl
  refine PCalls.gh ?_
  refine pcalls_of_vp mix Try.func120 cf120 rfl ?_
  dsimp only [if120, qI, eI, nI, qD, eD]
  simp only [pwA, if_true, if_false, eq_self, nm_eq, reduceCtorEq, ↓reduceIte, Nat.reduceEqDiff, Nat.reduceLeDiff, Nat.reduceBEq, Nat.reduceAdd, Nat.reduceLT, Nat.reduceSub, Nat.reduceMul, Int.reduceEq, Int.reduceLT, Int.reduceLE, Int.reduceNeg, Int.reduceToNat, List.reduceReplicate, Int.ofNat_le, List.getElem?_drop, e1, List.length_replicate, pis_rep, mk8 (n := n) (by omega), mkL (n := n) (by omega)]
  refine vp_loop (fun m us h' => ∃ (i : Nat) (vX : PV), i ≤ w.length ∧ m = w.length - i ∧ us = [.ptr s 0, .fz wV aV vals.length rV, vX, .fz ww aw w.length (pis w), .int .i64 w.length, .int .i64 i] ∧ Keep σ h' ∧ PSl σ.next 1 h' vX n (pis (foldW (vs p n As vals) (w.take i) (List.replicate n 0)))) w.length ?_ ?_
  · exact ⟨0, _, by omega, by omega, rfl, keep_new σ _, PSl.new _ 1 (by rw [pis_length]; simp [foldW]) (Nat.le_refl _)⟩
  rintro m us h' ⟨i, vX, hi, rfl, rfl, hkp, hX⟩
  simp only [pwA, if_true, if_false, eq_self, nm_eq, reduceCtorEq, ↓reduceIte, Nat.reduceEqDiff, Nat.reduceLeDiff, Nat.reduceBEq, Nat.reduceAdd, Nat.reduceLT, Nat.reduceSub, Nat.reduceMul, Int.reduceEq, Int.reduceLT, Int.reduceLE, Int.reduceNeg, Int.reduceToNat, List.reduceReplicate, Int.ofNat_le, List.getElem?_drop]
  refine iteI (fun hlt => ?_) fun hge => ?_
  rotate_left
  · have hie : i = w.length := by omega
    subst hie
    rw [List.take_length] at hX
    exact hX.out hkp (pis_bel _ _) hk
  have hl := hw _ (List.getElem_mem hlt)
  obtain ⟨j, hj⟩ : ∃ j : Nat, w[i] = (j : Int) + 1 := ⟨w[i].toNat - 1, by omega⟩
  have hjl : j < As.length := by omega
  have hjV : j < vals.length := by omega
  have ew : IntKind.i64.wrap ((j : Int) + 1 - 1) = (j : Int) := by rw [wrap64 (by omega) (by omega)]; omega
  obtain ⟨w5, a5, hr5⟩ := hrV.rowI hjV
  have hrow := hvs.row hjV
  rw [row_eq hjV] at hrow
  obtain ⟨t, cap, rfl, hc, q2, q3, q4, q5⟩ := hX
  have hs2 := hs.keep hkp
  simp only [pwA, if_true, if_false, eq_self, nm_eq, reduceCtorEq, ↓reduceIte, Nat.reduceEqDiff, Nat.reduceLeDiff, Nat.reduceBEq, Nat.reduceAdd, Nat.reduceLT, Nat.reduceSub, Nat.reduceMul, Int.reduceEq, Int.reduceLT, Int.reduceLE, Int.reduceNeg, Int.reduceToNat, List.reduceReplicate, Int.ofNat_le, List.getElem?_drop, hlt, gi hlt, pis_get, List.getElem?_drop, hj, ew]
  refine actionAt_ok hs2 hvA0 hjl fun v2 hv2 => ?_
  have hsq := fold_in (S := Ve p n) (f := vs p n As vals) (n := As.length) (fun a i hi ha => vs_in (by omega) hq hvs hvl hi ha) (w.take i) (fun l hl => hw l (List.mem_of_mem_take hl)) (ve_zeros (p := p) (n := n) (by omega))
  have hm := hq.mat hjl
  rw [mat_eq hjl] at hm
  have hsln := hsq.len
  simp only [pwA, if_true, if_false, eq_self, nm_eq, reduceCtorEq, ↓reduceIte, Nat.reduceEqDiff, Nat.reduceLeDiff, Nat.reduceBEq, Nat.reduceAdd, Nat.reduceLT, Nat.reduceSub, Nat.reduceMul, Int.reduceEq, Int.reduceLT, Int.reduceLE, Int.reduceNeg, Int.reduceToNat, List.reduceReplicate, Int.ofNat_le, List.getElem?_drop, hv2.one]
  generalize hF : foldW (vs p n As vals) (w.take i) (List.replicate n 0) = X at *
  refine PCalls.frz (s := t) (cs := pis X) q2 (pis_bel _ _) fun o1 => ?_
  simp only [sbs, sb, hc.ok, and_self, if_true, hv2.sb, nm_eq]
  refine vectorTimes_ok hp hm.2 (by rw [hm.1]; exact hsq) (by omega) (by rw [hm.1]; omega) hv2 ⟨true, .sl o1 0 n cap, by rw [hsln]⟩ fun cap2 hc2 => ?_
  have hvt := vt_ve (by omega : 0 < p) hm.2 (v := X) (by rw [hsln, hm.1])
  have e0 : (h'.kill t).rd1 s 0 = some (.int .i64 p) := by rw [prd1_kill, if_neg (by omega), obj_rd1 hs2.obj]; rfl
  have hst : ¬ s = h'.next := by have := hkp.next; omega
  simp only [pwA, if_true, if_false, eq_self, nm_eq, reduceCtorEq, ↓reduceIte, Nat.reduceEqDiff, Nat.reduceLeDiff, Nat.reduceBEq, Nat.reduceAdd, Nat.reduceLT, Nat.reduceSub, Nat.reduceMul, Int.reduceEq, Int.reduceLT, Int.reduceLE, Int.reduceNeg, Int.reduceToNat, List.reduceReplicate, Int.ofNat_le, List.getElem?_drop, hjV, hr5, e0, ew, hst, List.getElem?_drop]
  refine addMultiple_ok (xs := vt p n X As[j]) (by omega) (by simp only [pwA, if_true, if_false, eq_self, nm_eq, reduceCtorEq, ↓reduceIte, Nat.reduceEqDiff, Nat.reduceLeDiff, Nat.reduceBEq, Nat.reduceAdd, Nat.reduceLT, Nat.reduceSub, Nat.reduceMul, Int.reduceEq, Int.reduceLT, Int.reduceLE, Int.reduceNeg, Int.reduceToNat, List.reduceReplicate, Int.ofNat_le, List.getElem?_drop]) hvt.len.symm rfl (by rw [hvt.len]; exact hrow.len) (by rw [hvt.len]; omega) (fun t g1 g2 => ?_) ?_
  · have c1 := hrow.bd t
    have c2 := hvt.bd t
    rw [at_eq g2] at c1
    rw [at_eq g1] at c2
    unfold sm2
    omega
  · have hve := vadd_ve (p := p) (n := n) (c := 1) (by omega) hvt.len hrow.len
    simp only [pwA, if_true, if_false, eq_self, nm_eq, reduceCtorEq, ↓reduceIte, Nat.reduceEqDiff, Nat.reduceLeDiff, Nat.reduceBEq, Nat.reduceAdd, Nat.reduceLT, Nat.reduceSub, Nat.reduceMul, Int.reduceEq, Int.reduceLT, Int.reduceLE, Int.reduceNeg, Int.reduceToNat, List.reduceReplicate, Int.ofNat_le, List.getElem?_drop, wrapS hlt (by omega : w.length ≤ 4611686018427387904)]
    refine ⟨_, by omega, i + 1, _, by omega, rfl, rfl, (hkp.kill q4).new _, ?_⟩
    have e9 : foldW (vs p n As vals) (w.take (i + 1)) (List.replicate n 0) = vstep p 1 vals[j] (vt p n X As[j]) := by
      rw [foldW_take _ hlt, hj, show ((j : Int) + 1).toNat - 1 = j by omega, hF]
      show vadd p 1 (vt p n X (Mx.mat As j)) (vals.getD j []) = _
      rw [mat_eq hjl, getD_row' hjV]
      rfl
    rw [e9]
    have hle : (vstep p 1 vals[j] (vt p n X As[j])).length = n := hve.len
    exact PSl.own hc2 (by rw [pobj_new]; exact if_pos rfl) (by rw [pis_length, hle, Nat.mul_one]) hkp.next (Nat.lt_succ_self _)
theorem valueOf_fz (hp : 2 ≤ p ∧ p ≤ 7) (hn : n ≤ 3) (hq : SqL p n As) (hal : As.length ≤ 1048576) (hvs : Ma p n vals) (hvl : vals.length = As.length) (hw : ∀ l ∈ w, 1 ≤ l ∧ l ≤ (As.length : Int)) (hwl : w.length ≤ 1048576) (hs : PtrR σ s p (.int .i64 n) vA) (hvA : FIII vA As) (hvV : FII vV vals) (hvw : FI vw w)
    (hk : ∀ z, FI z (foldW (vs p n As vals) w (List.replicate n 0)) → K z σ) :
    PCalls Try.prog 120 [.ptr s 0, vV, vw] σ K := by
  have hl := (fold_in (S := Ve p n) (f := vs p n As vals) (n := As.length) (fun a i hi ha => vs_in (by omega) hq hvs hvl hi ha) w hw (ve_zeros (p := p) (n := n) (by omega))).len
  refine PCalls.fz (l := n) (e := 1) (cs := pis (foldW (vs p n As vals) w (List.replicate n 0))) (fun K' k' => valueOf_ok hp hn hq hal hvs hvl hw hwl hs hvA hvV hvw k') (pis_bel _ _) fun o cap => hk _ ?_
  exact ⟨true, .sl o 0 n cap, by rw [hl]⟩
/-- An empty list with room. -/
def Room (σ h : PHeap) (v : PV) : Prop := ∃ s cs, v = .sl s 0 0 (.grown 1) ∧ h.obj s = some cs ∧ σ.next ≤ s ∧ s < h.next
theorem Grow_ok {c : Nat} (hc : c ≤ 1048576) (h0 : ∀ v h, Keep σ h → (PAcc σ.next 1 h v 0 [] ∨ (0 < c ∧ Room σ h v)) → K v h) : PCalls Try.prog 119 [.fz true .nils 0 [], .int .i64 c] σ K := by
  have hcn : ¬ (c : Int) < 0 := by omega
  have z0 : IntKind.i64.wrap ((0 : Int) - ((0 : Nat) : Int)) = 0 := rfl
  have z1 : IntKind.i64.wrap ((c : Int) - 0) = (c : Int) := by rw [wrap64 (by omega) (by omega)]; omega
  have z2 : pslA 1 .nils 0 0 = .nils := rfl
  refine pcalls_of_vp mix Try.func119 cf119 rfl ?_
  dsimp only [if119, qI, eI, nI, qD, eD]
  simp only [pwA, if_true, if_false, eq_self, nm_eq, reduceCtorEq, ↓reduceIte, Nat.reduceEqDiff, Nat.reduceLeDiff, Nat.reduceBEq, Nat.reduceAdd, Nat.reduceLT, Nat.reduceSub, Nat.reduceMul, Int.reduceEq, Int.reduceLT, Int.reduceLE, Int.reduceNeg, Int.reduceToNat, List.reduceReplicate, Int.ofNat_le, List.getElem?_drop, hcn, z0, z1]
  by_cases hz : c = 0
  · subst hz
    simp only [pwA, if_true, if_false, eq_self, nm_eq, reduceCtorEq, ↓reduceIte, Nat.reduceEqDiff, Nat.reduceLeDiff, Nat.reduceBEq, Nat.reduceAdd, Nat.reduceLT, Nat.reduceSub, Nat.reduceMul, Int.reduceEq, Int.reduceLT, Int.reduceLE, Int.reduceNeg, Int.reduceToNat, List.reduceReplicate, Int.ofNat_le, List.getElem?_drop]
    exact h0 _ _ (Keep.refl σ) (.inl (PAcc.nil _ _ _))
  · have hpos : (0 : Int) < (c : Int) := by omega
    have hb : (c : Int) * ((8 : Nat) : Int) ≤ 140737488355328 := by omega
    have hb2 : (c : Int) ≤ 4611686018427387904 := by omega
    simp only [pwA, if_true, if_false, eq_self, nm_eq, reduceCtorEq, ↓reduceIte, Nat.reduceEqDiff, Nat.reduceLeDiff, Nat.reduceBEq, Nat.reduceAdd, Nat.reduceLT, Nat.reduceSub, Nat.reduceMul, Int.reduceEq, Int.reduceLT, Int.reduceLE, Int.reduceNeg, Int.reduceToNat, List.reduceReplicate, Int.ofNat_le, List.getElem?_drop, hpos, hb, hb2, z2, pis_rep, Nat.zero_le]
    exact h0 _ _ (keep_new σ _) (.inr ⟨by omega, _, _, rfl, by rw [pobj_new, if_pos rfl], Nat.le_refl _, Nat.lt_succ_self _⟩)
theorem flat_take {M : List (List Int)} {i : Nat} (hi : i < M.length) : (M.take (i + 1)).flatten = (M.take i).flatten ++ M[i] := by
  rw [List.take_succ_eq_append_getElem hi, List.flatten_append]; simp
theorem flat_le (M : List (List Int)) (i : Nat) : (M.take i).flatten.length ≤ M.flatten.length := by
  have : M.flatten.length = (M.take i).flatten.length + (M.drop i).flatten.length := by
    rw [← List.length_append, ← List.flatten_append, List.take_append_drop]
  omega
theorem Concat_ok (hM : FII vM M) (hml : M.length ≤ 1048576) (hb : M.flatten.length ≤ 1048576) (hk : ∀ z, FI z M.flatten → K z σ) : PCalls Try.prog 87 [vM] σ K := by
  obtain ⟨wM, aM, rM, rfl, hrM⟩ := hM
  refine PCalls.gh ?_
  refine pcalls_of_vp mix Try.func87 cf87 rfl ?_
  dsimp only [if87, qI, eI, nI, qD, eD]
  simp only [pwA, if_true, if_false, eq_self, nm_eq, reduceCtorEq, ↓reduceIte, Nat.reduceEqDiff, Nat.reduceLeDiff, Nat.reduceBEq, Nat.reduceAdd, Nat.reduceLT, Nat.reduceSub, Nat.reduceMul, Int.reduceEq, Int.reduceLT, Int.reduceLE, Int.reduceNeg, Int.reduceToNat, List.reduceReplicate, Int.ofNat_le, List.getElem?_drop]
  refine vp_loop (fun m us h' => ∃ i : Nat, i ≤ M.length ∧ m = M.length - i ∧ us = [.fz wM aM M.length rM, .int .i64 (M.take i).flatten.length, .fz wM aM M.length rM, .int .i64 M.length, .int .i64 i] ∧ σ = h') M.length ?_ ?_
  · exact ⟨0, by omega, by omega, rfl, rfl⟩
  rintro m us h' ⟨i, hi, rfl, rfl, rfl⟩
  have hfl := flat_le M i
  simp only [pwA, if_true, if_false, eq_self, nm_eq, reduceCtorEq, ↓reduceIte, Nat.reduceEqDiff, Nat.reduceLeDiff, Nat.reduceBEq, Nat.reduceAdd, Nat.reduceLT, Nat.reduceSub, Nat.reduceMul, Int.reduceEq, Int.reduceLT, Int.reduceLE, Int.reduceNeg, Int.reduceToNat, List.reduceReplicate, Int.ofNat_le, List.getElem?_drop]
  refine iteI (fun hlt => ?_) fun hge => ?_
  · obtain ⟨w4, a4, hr⟩ := hrM.rowI hlt
    have hfl2 := flat_le M (i + 1)
    have e := congrArg List.length (flat_take hlt)
    rw [List.length_append] at e
    have ew : IntKind.i64.wrap (((M.take i).flatten.length : Int) + (M[i].length : Int)) = (((M.take i).flatten.length + M[i].length : Nat) : Int) := by rw [wrap64 (by omega) (by omega)]; omega
    have hnn : ¬ (((M.take i).flatten.length + M[i].length : Nat) : Int) < 0 := by omega
    simp only [pwA, if_true, if_false, eq_self, nm_eq, reduceCtorEq, ↓reduceIte, Nat.reduceEqDiff, Nat.reduceLeDiff, Nat.reduceBEq, Nat.reduceAdd, Nat.reduceLT, Nat.reduceSub, Nat.reduceMul, Int.reduceEq, Int.reduceLT, Int.reduceLE, Int.reduceNeg, Int.reduceToNat, List.reduceReplicate, Int.ofNat_le, List.getElem?_drop, hlt, hr, List.getElem?_drop, ew, hnn, wrapS hlt (by omega : M.length ≤ 4611686018427387904)]
    refine ⟨_, by omega, i + 1, by omega, rfl, ?_⟩
    rw [e]
  have hie : i = M.length := by omega
  subst hie
  rw [List.take_length]
  simp only [pwA, if_true, if_false, eq_self, nm_eq, reduceCtorEq, ↓reduceIte, Nat.reduceEqDiff, Nat.reduceLeDiff, Nat.reduceBEq, Nat.reduceAdd, Nat.reduceLT, Nat.reduceSub, Nat.reduceMul, Int.reduceEq, Int.reduceLT, Int.reduceLE, Int.reduceNeg, Int.reduceToNat, List.reduceReplicate, Int.ofNat_le, List.getElem?_drop]
  refine Grow_ok (by omega) fun v0 h0 hk0 hv0 => ?_
  simp only [pwA, if_true, if_false, eq_self, nm_eq, reduceCtorEq, ↓reduceIte, Nat.reduceEqDiff, Nat.reduceLeDiff, Nat.reduceBEq, Nat.reduceAdd, Nat.reduceLT, Nat.reduceSub, Nat.reduceMul, Int.reduceEq, Int.reduceLT, Int.reduceLE, Int.reduceNeg, Int.reduceToNat, List.reduceReplicate, Int.ofNat_le, List.getElem?_drop]
  refine vp_loop (fun m us h' => ∃ (i : Nat) (vX : PV), i ≤ M.length ∧ m = M.length - i ∧ us = [vX, .fz wM aM M.length rM, .int .i64 M.length, .int .i64 i] ∧ Keep σ h' ∧ (PAcc σ.next 1 h' vX (M.take i).flatten.length (pis (M.take i).flatten) ∨ ((M.take i).flatten = [] ∧ 0 < M.flatten.length ∧ Room σ h' vX))) M.length ?_ ?_
  · exact ⟨0, v0, by omega, by omega, rfl, hk0, hv0.imp (fun h => h) fun h => ⟨rfl, h⟩⟩
  clear hi hge hfl hk0 hv0 v0 h0
  rintro m us h' ⟨i, vX, hi, rfl, rfl, hkp, ha⟩
  have hfl := flat_le M i
  simp only [pwA, if_true, if_false, eq_self, nm_eq, reduceCtorEq, ↓reduceIte, Nat.reduceEqDiff, Nat.reduceLeDiff, Nat.reduceBEq, Nat.reduceAdd, Nat.reduceLT, Nat.reduceSub, Nat.reduceMul, Int.reduceEq, Int.reduceLT, Int.reduceLE, Int.reduceNeg, Int.reduceToNat, List.reduceReplicate, Int.ofNat_le, List.getElem?_drop]
  refine iteI (fun hlt => ?_) fun hge => ?_
  rotate_left
  · have hie : i = M.length := by omega
    subst hie
    rw [List.take_length] at ha
    rcases ha with ha | ⟨h1, h2, _⟩
    · exact ha.fin hkp (pis_bel _ _) fun a => hk _ ⟨true, a, rfl⟩
    · rw [h1] at h2; cases h2
  obtain ⟨w4, a4, hr⟩ := hrM.rowI hlt
  have hfl2 := flat_le M (i + 1)
  have e := congrArg List.length (flat_take hlt)
  rw [List.length_append] at e
  simp only [pwA, if_true, if_false, eq_self, nm_eq, reduceCtorEq, ↓reduceIte, Nat.reduceEqDiff, Nat.reduceLeDiff, Nat.reduceBEq, Nat.reduceAdd, Nat.reduceLT, Nat.reduceSub, Nat.reduceMul, Int.reduceEq, Int.reduceLT, Int.reduceLE, Int.reduceNeg, Int.reduceToNat, List.reduceReplicate, Int.ofNat_le, List.getElem?_drop, hlt, hr, List.getElem?_drop]
  have hnx : ∀ v' h2, Keep σ h2 → (PAcc σ.next 1 h2 v' ((M.take i).flatten.length + M[i].length) (pis (M.take i).flatten ++ pis M[i]) ∨ ((M.take (i + 1)).flatten = [] ∧ 0 < M.flatten.length ∧ Room σ h2 v')) → (PAcc σ.next 1 h2 v' (M.take (i + 1)).flatten.length (pis (M.take (i + 1)).flatten) ∨ ((M.take (i + 1)).flatten = [] ∧ 0 < M.flatten.length ∧ Room σ h2 v')) := fun v' h2 k h => h.imp (fun h => by rwa [e, flat_take hlt, ← pis_append]) fun h => h
  rcases ha with ha | ⟨h1, h2, s, cs, rfl, ho, hs1, hs2⟩
  · refine PAcc.cat (σb := σ) (bytes := 8) hkp ha (pis_length _) (by omega) (by omega) fun v' h2 k2 a2 => ?_
    simp only [pwA, if_true, if_false, eq_self, nm_eq, reduceCtorEq, ↓reduceIte, Nat.reduceEqDiff, Nat.reduceLeDiff, Nat.reduceBEq, Nat.reduceAdd, Nat.reduceLT, Nat.reduceSub, Nat.reduceMul, Int.reduceEq, Int.reduceLT, Int.reduceLE, Int.reduceNeg, Int.reduceToNat, List.reduceReplicate, Int.ofNat_le, List.getElem?_drop, wrapS hlt (by omega : M.length ≤ 4611686018427387904)]
    exact ⟨_, by omega, i + 1, v', by omega, rfl, rfl, k2, hnx _ _ k2 (.inl a2)⟩
  · by_cases hz : M[i].length = 0
    · have hnil : M[i] = [] := List.eq_nil_of_length_eq_zero hz
      have hap : pappend 1 8 h' (.sl s 0 0 (.grown 1)) (.fz w4 a4 M[i].length (pis M[i])) = some (.sl s 0 0 (.grown 1), h') := by
        rw [pappend_eq, plen_fz, Option.bind_some, if_pos hz]; rfl
      simp only [pwA, if_true, if_false, eq_self, nm_eq, reduceCtorEq, ↓reduceIte, Nat.reduceEqDiff, Nat.reduceLeDiff, Nat.reduceBEq, Nat.reduceAdd, Nat.reduceLT, Nat.reduceSub, Nat.reduceMul, Int.reduceEq, Int.reduceLT, Int.reduceLE, Int.reduceNeg, Int.reduceToNat, List.reduceReplicate, Int.ofNat_le, List.getElem?_drop, hap, wrapS hlt (by omega : M.length ≤ 4611686018427387904)]
      refine ⟨_, by omega, i + 1, _, by omega, rfl, rfl, hkp, .inr ⟨by rw [flat_take hlt, h1, hnil]; rfl, h2, s, cs, rfl, ho, hs1, hs2⟩⟩
    · have hap : pappend 1 8 h' (.sl s 0 0 (.grown 1)) (.fz w4 a4 M[i].length (pis M[i])) = some (.sl h'.next 0 M[i].length (.grown 1), (h'.kill s).new (pis M[i])) := by
        rw [pappend_eq, plen_fz, Option.bind_some, if_neg hz, pfirst_fz, if_neg hz, if_pos ⟨Nat.le_refl _, by rw [pis_length]; omega, by omega⟩, Option.bind_some, pgrow_grown, if_pos ⟨by omega, by omega, rfl⟩, ho, Option.bind_some, if_pos (by omega)]
        rw [List.drop_zero, Nat.zero_mul, List.take_zero, List.nil_append, Nat.mul_one, List.take_of_length_le (by rw [pis_length]; exact Nat.le_refl _), Nat.zero_add]
      simp only [pwA, if_true, if_false, eq_self, nm_eq, reduceCtorEq, ↓reduceIte, Nat.reduceEqDiff, Nat.reduceLeDiff, Nat.reduceBEq, Nat.reduceAdd, Nat.reduceLT, Nat.reduceSub, Nat.reduceMul, Int.reduceEq, Int.reduceLT, Int.reduceLE, Int.reduceNeg, Int.reduceToNat, List.reduceReplicate, Int.ofNat_le, List.getElem?_drop, hap, wrapS hlt (by omega : M.length ≤ 4611686018427387904)]
      refine ⟨_, by omega, i + 1, _, by omega, rfl, rfl, (hkp.kill hs1).new _, .inl ?_⟩
      rw [flat_take hlt, h1, List.nil_append]
      exact (PSl.own (.inl rfl) (by rw [pobj_new]; exact if_pos rfl) (by rw [pis_length]; omega) hkp.next (Nat.lt_succ_self _)).acc
end Go.Proofs
set_option linter.unusedSimpArgs false
set_option linter.unusedVariables false
namespace Go.Proofs
open Go.Ab Go.Lie Go.Grp Go.Mx
variable {σ : PHeap} {K : PV → PHeap → Prop} {p d : Int} {n na : Nat} {v w x xs ys : List Int} {A B M vals : List (List Int)} {As : List (List (List Int))} {vA vB vM vv vx vw vV v0 : PV} {O : List Int} {P : List (List Int)} {C : List (List (List Int))} {vO vP vC : PV} {s sp : Nat}
theorem areVectors_ok (hp : isP p) (hn : n ≤ 8) (sz : SzL M) (hs : PtrR σ s p (.int .i64 n) vA) (hM : FII vM M) (hk : ∀ t : Bool, (t = true ↔ Ma p n M) → K (.bool t) σ) : PCalls Try.prog 118 [.ptr s 0, vM] σ K := by
  have fl : ∀ {A : Prop}, ¬ A → ((false = true) ↔ A) := fun h => ⟨fun x => (by cases x), fun x => absurd x h⟩
  have hpb := hp.bd
  have hl0 := sz.l
  have e0 : σ.rd1 s 0 = some (.int .i64 p) := by rw [obj_rd1 hs.obj]; rfl
  have e1 : σ.rd1 s 1 = some (.int .i64 n) := by rw [obj_rd1 hs.obj]; rfl
  obtain ⟨wM, aM, rM, rfl, hrM⟩ := hM
  refine pcalls_of_vp mix Try.func118 cf118 rfl ?_
  dsimp only [if118, qI, eI, nI, qD, eD]
  simp only [pwA, if_true, if_false, eq_self, nm_eq, reduceCtorEq, ↓reduceIte, Nat.reduceEqDiff, Nat.reduceLeDiff, Nat.reduceBEq, Nat.reduceAdd, Nat.reduceLT, Nat.reduceSub, Nat.reduceMul, Int.reduceEq, Int.reduceLT, Int.reduceLE, Int.reduceNeg, Int.reduceToNat, List.reduceReplicate, Int.ofNat_le, List.getElem?_drop]
  refine vp_loop (fun m us h' => ∃ i : Nat, i ≤ M.length ∧ m = M.length - i ∧ us = [.ptr s 0, .fz wM aM M.length rM, .int .i64 M.length, .int .i64 i] ∧ σ = h' ∧ ∀ r ∈ M.take i, Ve p n r) M.length ?_ ?_
  · exact ⟨0, by omega, by omega, rfl, rfl, by simp⟩
  rintro m us h' ⟨i, hi, rfl, rfl, rfl, hall⟩
  simp only [pwA, if_true, if_false, eq_self, nm_eq, reduceCtorEq, ↓reduceIte, Nat.reduceEqDiff, Nat.reduceLeDiff, Nat.reduceBEq, Nat.reduceAdd, Nat.reduceLT, Nat.reduceSub, Nat.reduceMul, Int.reduceEq, Int.reduceLT, Int.reduceLE, Int.reduceNeg, Int.reduceToNat, List.reduceReplicate, Int.ofNat_le, List.getElem?_drop]
  refine iteI (fun hlt => ?_) fun hge => ?_
  rotate_left
  · exact hk _ ⟨fun _ r hr => hall r (by rwa [List.take_of_length_le (by omega)]), fun _ => rfl⟩
  obtain ⟨w4, a4, hr⟩ := hrM.rowI hlt
  have hb := sz.r _ (List.getElem_mem hlt)
  simp only [pwA, if_true, if_false, eq_self, nm_eq, reduceCtorEq, ↓reduceIte, Nat.reduceEqDiff, Nat.reduceLeDiff, Nat.reduceBEq, Nat.reduceAdd, Nat.reduceLT, Nat.reduceSub, Nat.reduceMul, Int.reduceEq, Int.reduceLT, Int.reduceLE, Int.reduceNeg, Int.reduceToNat, List.reduceReplicate, Int.ofNat_le, List.getElem?_drop, hlt, hr, e0, e1, List.getElem?_drop]
  refine isVector_ok rfl (by omega) (by omega) (by omega) ?_
  by_cases hv : isVec M[i] p (n : Int)
  · simp only [pwA, if_true, if_false, eq_self, nm_eq, reduceCtorEq, ↓reduceIte, Nat.reduceEqDiff, Nat.reduceLeDiff, Nat.reduceBEq, Nat.reduceAdd, Nat.reduceLT, Nat.reduceSub, Nat.reduceMul, Int.reduceEq, Int.reduceLT, Int.reduceLE, Int.reduceNeg, Int.reduceToNat, List.reduceReplicate, Int.ofNat_le, List.getElem?_drop, hv, wrapS hlt (by omega : M.length ≤ 4611686018427387904)]
    refine ⟨_, by omega, i + 1, by omega, rfl, rfl, fun r hr => ?_⟩
    rw [List.take_succ_eq_append_getElem hlt, List.mem_append, List.mem_singleton] at hr
    rcases hr with hr | rfl
    · exact hall r hr
    · exact (ve_iff (by omega)).1 hv
  · simp only [pwA, if_true, if_false, eq_self, nm_eq, reduceCtorEq, ↓reduceIte, Nat.reduceEqDiff, Nat.reduceLeDiff, Nat.reduceBEq, Nat.reduceAdd, Nat.reduceLT, Nat.reduceSub, Nat.reduceMul, Int.reduceEq, Int.reduceLT, Int.reduceLE, Int.reduceNeg, Int.reduceToNat, List.reduceReplicate, Int.ofNat_le, List.getElem?_drop, hv]
    exact hk _ (fl fun h => hv ((ve_iff (by omega)).2 (h _ (List.getElem_mem hlt))))
theorem l21Vectors_ok (hp : isP p) (hn : n ≤ 8) (sz : SzL M) (hA1 : vA.one = true) (hM : FII vM M) (hk : ∀ t : Bool, (t = true ↔ Ma p n M) → K (.bool t) σ) : PCalls Try.prog 115 [.agg [.int .i64 p, .int .i64 n, vA], vM] σ K := by
  have fl : ∀ {A : Prop}, ¬ A → ((false = true) ↔ A) := fun h => ⟨fun x => (by cases x), fun x => absurd x h⟩
  have hpb := hp.bd
  have hl0 := sz.l
  obtain ⟨wM, aM, rM, rfl, hrM⟩ := hM
  refine PCalls.gh ?_
  refine pcalls_of_vp mix Try.func115 cf115 rfl ?_
  dsimp only [if115, qI, eI, nI, qD, eD]
  simp only [pwA, if_true, if_false, eq_self, nm_eq, reduceCtorEq, ↓reduceIte, Nat.reduceEqDiff, Nat.reduceLeDiff, Nat.reduceBEq, Nat.reduceAdd, Nat.reduceLT, Nat.reduceSub, Nat.reduceMul, Int.reduceEq, Int.reduceLT, Int.reduceLE, Int.reduceNeg, Int.reduceToNat, List.reduceReplicate, Int.ofNat_le, List.getElem?_drop, hA1]
  refine vp_loop (fun m us h' => ∃ i : Nat, i ≤ M.length ∧ m = M.length - i ∧ us = [.fz wM aM M.length rM, .ptr σ.next 0, .int .i64 i] ∧ h' = σ.new [.int .i64 p, .int .i64 n, vA] ∧ ∀ r ∈ M.take i, Ve p n r) M.length ?_ ?_
  · exact ⟨0, by omega, by omega, rfl, rfl, by simp⟩
  rintro m us h' ⟨i, hi, rfl, rfl, rfl, hall⟩
  simp only [pwA, if_true, if_false, eq_self, nm_eq, reduceCtorEq, ↓reduceIte, Nat.reduceEqDiff, Nat.reduceLeDiff, Nat.reduceBEq, Nat.reduceAdd, Nat.reduceLT, Nat.reduceSub, Nat.reduceMul, Int.reduceEq, Int.reduceLT, Int.reduceLE, Int.reduceNeg, Int.reduceToNat, List.reduceReplicate, Int.ofNat_le, List.getElem?_drop]
  refine iteI (fun hlt => ?_) fun hge => ?_
  rotate_left
  · exact Gh.fin0 (keep_new σ _) trivial (hk _ ⟨fun _ r hr => hall r (by rwa [List.take_of_length_le (by omega)]), fun _ => rfl⟩)
  obtain ⟨w4, a4, hr⟩ := hrM.rowI hlt
  have hb := sz.r _ (List.getElem_mem hlt)
  simp only [pwA, if_true, if_false, eq_self, nm_eq, reduceCtorEq, ↓reduceIte, Nat.reduceEqDiff, Nat.reduceLeDiff, Nat.reduceBEq, Nat.reduceAdd, Nat.reduceLT, Nat.reduceSub, Nat.reduceMul, Int.reduceEq, Int.reduceLT, Int.reduceLE, Int.reduceNeg, Int.reduceToNat, List.reduceReplicate, Int.ofNat_le, List.getElem?_drop, hlt, hr, List.getElem?_drop]
  refine l02Vector_ok rfl (by omega) (by omega) (by omega) ?_
  by_cases hv : isVec M[i] p (n : Int)
  · simp only [pwA, if_true, if_false, eq_self, nm_eq, reduceCtorEq, ↓reduceIte, Nat.reduceEqDiff, Nat.reduceLeDiff, Nat.reduceBEq, Nat.reduceAdd, Nat.reduceLT, Nat.reduceSub, Nat.reduceMul, Int.reduceEq, Int.reduceLT, Int.reduceLE, Int.reduceNeg, Int.reduceToNat, List.reduceReplicate, Int.ofNat_le, List.getElem?_drop, hv, wrapS hlt (by omega : M.length ≤ 4611686018427387904)]
    refine ⟨_, by omega, i + 1, by omega, rfl, rfl, fun r hr => ?_⟩
    rw [List.take_succ_eq_append_getElem hlt, List.mem_append, List.mem_singleton] at hr
    rcases hr with hr | rfl
    · exact hall r hr
    · exact (ve_iff (by omega)).1 hv
  · simp only [pwA, if_true, if_false, eq_self, nm_eq, reduceCtorEq, ↓reduceIte, Nat.reduceEqDiff, Nat.reduceLeDiff, Nat.reduceBEq, Nat.reduceAdd, Nat.reduceLT, Nat.reduceSub, Nat.reduceMul, Int.reduceEq, Int.reduceLT, Int.reduceLE, Int.reduceNeg, Int.reduceToNat, List.reduceReplicate, Int.ofNat_le, List.getElem?_drop, hv]
    exact Gh.fin0 (keep_new σ _) trivial (hk _ (fl fun h => hv ((ve_iff (by omega)).2 (h _ (List.getElem_mem hlt)))))
theorem areValues_ok (hp : isP p) (hn : n ≤ 8) (sz : SzL M) (hsp : PtrG σ sp vO vP vC) (hO : FI vO O) (hs : PtrR σ s p (.int .i64 n) vA) (hM : FII vM M) (hk : ∀ t : Bool, (t = true ↔ M.length = O.length ∧ Ma p n M) → K (.bool t) σ) : PCalls Try.prog 85 [.ptr sp 0, .ptr s 0, vM] σ K := by
  have fl : ∀ {A : Prop}, ¬ A → ((false = true) ↔ A) := fun h => ⟨fun x => (by cases x), fun x => absurd x h⟩
  have hM0 := hM
  obtain ⟨w0, a0, rfl⟩ := hO
  obtain ⟨wM, aM, rM, rfl, hrM⟩ := hM
  have g0 : σ.rd1 sp 0 = some (.fz w0 a0 O.length (pis O)) := by rw [obj_rd1 hsp.obj]; rfl
  refine pcalls_of_vp mix Try.func85 cf85 rfl ?_
  dsimp only [if85, qI, eI, nI, qD, eD]
  by_cases hl : M.length = O.length
  rotate_left
  · have hl' : ¬ (M.length : Int) = (O.length : Int) := by omega
    simp only [pwA, if_true, if_false, eq_self, nm_eq, reduceCtorEq, ↓reduceIte, Nat.reduceEqDiff, Nat.reduceLeDiff, Nat.reduceBEq, Nat.reduceAdd, Nat.reduceLT, Nat.reduceSub, Nat.reduceMul, Int.reduceEq, Int.reduceLT, Int.reduceLE, Int.reduceNeg, Int.reduceToNat, List.reduceReplicate, Int.ofNat_le, List.getElem?_drop, g0, hl']
    exact hk _ (fl fun h => hl h.1)
  have hl' : (M.length : Int) = (O.length : Int) := by omega
  simp only [pwA, if_true, if_false, eq_self, nm_eq, reduceCtorEq, ↓reduceIte, Nat.reduceEqDiff, Nat.reduceLeDiff, Nat.reduceBEq, Nat.reduceAdd, Nat.reduceLT, Nat.reduceSub, Nat.reduceMul, Int.reduceEq, Int.reduceLT, Int.reduceLE, Int.reduceNeg, Int.reduceToNat, List.reduceReplicate, Int.ofNat_le, List.getElem?_drop, g0, eq_true hl']
  refine areVectors_ok hp hn sz hs hM0 fun t ht => ?_
  simp only [pwA, if_true, if_false, eq_self, nm_eq, reduceCtorEq, ↓reduceIte, Nat.reduceEqDiff, Nat.reduceLeDiff, Nat.reduceBEq, Nat.reduceAdd, Nat.reduceLT, Nat.reduceSub, Nat.reduceMul, Int.reduceEq, Int.reduceLT, Int.reduceLE, Int.reduceNeg, Int.reduceToNat, List.reduceReplicate, Int.ofNat_le, List.getElem?_drop]
  exact hk _ (ht.trans ⟨fun h => ⟨hl, h⟩, fun h => h.2⟩)
theorem l22Values_ok (hp : isP p) (hn : n ≤ 8) (sz : SzL M) (h1 : vP.one = true) (h2 : vC.one = true) (hO : FI vO O) (hA1 : vA.one = true) (hM : FII vM M) (hk : ∀ t : Bool, (t = true ↔ M.length = O.length ∧ Ma p n M) → K (.bool t) σ) : PCalls Try.prog 83 [.agg [vO, vP, vC], .agg [.int .i64 p, .int .i64 n, vA], vM] σ K := by
  have fl : ∀ {A : Prop}, ¬ A → ((false = true) ↔ A) := fun h => ⟨fun x => (by cases x), fun x => absurd x h⟩
  have hM0 := hM
  have h0 := hO.one
  obtain ⟨w0, a0, rfl⟩ := hO
  obtain ⟨wM, aM, rM, rfl, hrM⟩ := hM
  refine PCalls.gh ?_
  have hkp : Keep σ ((σ.new [.fz w0 a0 O.length (pis O), vP, vC]).new [.int .i64 p, .int .i64 n, vA]) := (keep_new σ _).new _
  refine pcalls_of_vp mix Try.func83 cf83 rfl ?_
  dsimp only [if83, qI, eI, nI, qD, eD]
  by_cases hl : M.length = O.length
  rotate_left
  · have hl' : ¬ (M.length : Int) = (O.length : Int) := by omega
    simp only [pwA, if_true, if_false, eq_self, nm_eq, reduceCtorEq, ↓reduceIte, Nat.reduceEqDiff, Nat.reduceLeDiff, Nat.reduceBEq, Nat.reduceAdd, Nat.reduceLT, Nat.reduceSub, Nat.reduceMul, Int.reduceEq, Int.reduceLT, Int.reduceLE, Int.reduceNeg, Int.reduceToNat, List.reduceReplicate, Int.ofNat_le, List.getElem?_drop, h0, h1, h2, hA1, hl']
    exact Gh.fin0 hkp trivial (hk _ (fl fun h => hl h.1))
  have hl' : (M.length : Int) = (O.length : Int) := by omega
  simp only [pwA, if_true, if_false, eq_self, nm_eq, reduceCtorEq, ↓reduceIte, Nat.reduceEqDiff, Nat.reduceLeDiff, Nat.reduceBEq, Nat.reduceAdd, Nat.reduceLT, Nat.reduceSub, Nat.reduceMul, Int.reduceEq, Int.reduceLT, Int.reduceLE, Int.reduceNeg, Int.reduceToNat, List.reduceReplicate, Int.ofNat_le, List.getElem?_drop, h0, h1, h2, hA1, eq_true hl']
  refine l21Vectors_ok hp hn sz hA1 hM0 fun t ht => ?_
  simp only [pwA, if_true, if_false, eq_self, nm_eq, reduceCtorEq, ↓reduceIte, Nat.reduceEqDiff, Nat.reduceLeDiff, Nat.reduceBEq, Nat.reduceAdd, Nat.reduceLT, Nat.reduceSub, Nat.reduceMul, Int.reduceEq, Int.reduceLT, Int.reduceLE, Int.reduceNeg, Int.reduceToNat, List.reduceReplicate, Int.ofNat_le, List.getElem?_drop]
  exact Gh.fin0 hkp trivial (hk _ (ht.trans ⟨fun h => ⟨hl, h⟩, fun h => h.2⟩))
theorem defects_ok (hp : 2 ≤ p ∧ p ≤ 7) (hn : n ≤ 3) (sh : Shp O P C) (hq : SqL p n As) (hal : As.length = O.length) (hvs : Ma p n vals) (hvl : vals.length = O.length) (hsp : PtrG σ sp vO vP vC) (hR : IsPr vO vP vC O P C) (hs : PtrR σ s p (.int .i64 n) vA) (hvA : FIII vA As) (hvV : FII vV vals)
    (hk : ∀ z, FII z (gaps p n As vals O P C) → K z σ) : PCalls Try.prog 88 [.ptr sp 0, .ptr s 0, vV] σ K := by
  have hn6 := sh.le
  have hvV1 := hvV.one
  have hsl := hs.lt
  have e0 : σ.rd1 s 0 = some (.int .i64 p) := by rw [obj_rd1 hs.obj]; rfl
  refine PCalls.pwf fun wf => PCalls.gh ?_
  refine pcalls_of_vp mix Try.func88 cf88 rfl ?_
  dsimp only [if88, qI, eI, nI, qD, eD]
  simp only [pwA, if_true, if_false, eq_self, nm_eq, reduceCtorEq, ↓reduceIte, Nat.reduceEqDiff, Nat.reduceLeDiff, Nat.reduceBEq, Nat.reduceAdd, Nat.reduceLT, Nat.reduceSub, Nat.reduceMul, Int.reduceEq, Int.reduceLT, Int.reduceLE, Int.reduceNeg, Int.reduceToNat, List.reduceReplicate, Int.ofNat_le, List.getElem?_drop]
  refine relationSides_ok sh hsp hR fun vL hvL => ?_
  obtain ⟨aL, rows0, rfl, hrows⟩ := hvL
  have hrell : (relL O P C).length ≤ 48 := by
    have := relA_len sh (i := O.length) (Nat.le_refl _)
    have e : relA O P C O.length = relL O P C := rfl
    rw [e] at this; omega
  have hrin : ∀ r ∈ relL O P C, _ := fun r hr => rel_in sh hr
  have hgl : (gaps p n As vals O P C).length = (relL O P C).length := by simp [gaps]
  unfold gaps at hk hgl
  generalize hrel : relL O P C = rel at *
  simp only [pwA, if_true, if_false, eq_self, nm_eq, reduceCtorEq, ↓reduceIte, Nat.reduceEqDiff, Nat.reduceLeDiff, Nat.reduceBEq, Nat.reduceAdd, Nat.reduceLT, Nat.reduceSub, Nat.reduceMul, Int.reduceEq, Int.reduceLT, Int.reduceLE, Int.reduceNeg, Int.reduceToNat, List.reduceReplicate, Int.ofNat_le, List.getElem?_drop]
  refine vp_loopG (fun m us h' => ∃ (k : Nat) (vX : PV) (rows : List PV), k ≤ rel.length ∧ m = rel.length - k ∧ us = [.ptr s 0, vV, vX, .fz true aL rel.length (fl2 rows0), .int .i64 rel.length, .int .i64 k] ∧ Keep σ h' ∧ PAcc σ.next 1 h' vX k rows ∧ All2 FI rows (((rel.take k).map fun r => vadd p (-1) (foldW (vs p n As vals) r.1 (List.replicate n 0)) (foldW (vs p n As vals) r.2 (List.replicate n 0))))) rel.length ?_ ?_
  · exact .here ⟨0, _, [], by omega, by omega, rfl, Keep.refl σ, PAcc.nil _ _ _, by simpa using All2.nil _⟩
  rintro m us h' ⟨k, vX, rows, hk', rfl, rfl, hkp, ha, hall⟩
  simp only [pwA, if_true, if_false, eq_self, nm_eq, reduceCtorEq, ↓reduceIte, Nat.reduceEqDiff, Nat.reduceLeDiff, Nat.reduceBEq, Nat.reduceAdd, Nat.reduceLT, Nat.reduceSub, Nat.reduceMul, Int.reduceEq, Int.reduceLT, Int.reduceLE, Int.reduceNeg, Int.reduceToNat, List.reduceReplicate, Int.ofNat_le, List.getElem?_drop]
  refine iteI (fun hlk => ?_) fun hgk => ?_
  rotate_left
  · have hke : k = rel.length := by omega
    subst hke
    rw [List.take_length] at hall
    exact ha.fin hkp (hall.bI 0) fun a => hk _ ⟨true, a, rows, by rw [List.length_map], hall⟩
  have hkr : k < rows0.length := by rw [hrows.1]; exact hlk
  have hget := fl2_get hkr
  have hpair := hrows.2 k _ _ (List.getElem?_eq_getElem hkr) (List.getElem?_eq_getElem hlk)
  obtain ⟨i1, i2, i3, i4⟩ := hrin rel[k] (List.getElem_mem hlk)
  have hk2 : 2 ≤ (fl2 rows0).length - k * 2 := by have := fl2_length rows0; omega
  obtain ⟨q1, q2⟩ := hpair
  have hs3 := (hs.keep hkp).new [rows0[k].1, rows0[k].2]
  have hve : ∀ w : List Int, (∀ l ∈ w, 1 ≤ l ∧ l ≤ (O.length : Int)) → Ve p n (foldW (vs p n As vals) w (List.replicate n 0)) := fun w hw => fold_in (S := Ve p n) (f := vs p n As vals) (n := As.length) (fun a i hi ha => vs_in (by omega) hq hvs (by omega) hi ha) w (fun l hl => by have := hw l hl; omega) (ve_zeros (by omega))
  have z1 := hve _ i1
  have z2 := hve _ i2
  simp only [pwA, if_true, if_false, eq_self, nm_eq, reduceCtorEq, ↓reduceIte, Nat.reduceEqDiff, Nat.reduceLeDiff, Nat.reduceBEq, Nat.reduceAdd, Nat.reduceLT, Nat.reduceSub, Nat.reduceMul, Int.reduceEq, Int.reduceLT, Int.reduceLE, Int.reduceNeg, Int.reduceToNat, List.reduceReplicate, Int.ofNat_le, List.getElem?_drop, hlk, hget, hk2, q1.one, q2.one, q1.cells, q2.cells, List.length_drop]
  refine valueOf_ok hp hn hq (by omega) hvs (by omega) (w := rel[k].1) (fun l hl => by have := i1 l hl; omega) (by omega) hs3 hvA hvV q1 fun cap hcap => ?_
  have hnx : ¬ h'.next = (h'.new [rows0[k].1, rows0[k].2]).next := by show ¬ h'.next = h'.next + 1; omega
  have hsn : ¬ s = h'.next + 1 := by have := hkp.next; omega
  have hsn2 : ¬ s = h'.next := by have := hkp.next; omega
  have e0' : h'.rd1 s 0 = some (.int .i64 p) := by rw [obj_rd1 (hs.keep hkp).obj]; rfl
  simp only [pwA, if_true, if_false, eq_self, nm_eq, reduceCtorEq, ↓reduceIte, Nat.reduceEqDiff, Nat.reduceLeDiff, Nat.reduceBEq, Nat.reduceAdd, Nat.reduceLT, Nat.reduceSub, Nat.reduceMul, Int.reduceEq, Int.reduceLT, Int.reduceLE, Int.reduceNeg, Int.reduceToNat, List.reduceReplicate, Int.ofNat_le, List.getElem?_drop, q1.one, q2.one, hsn, hsn2, e0']
  refine valueOf_fz hp hn hq (by omega) hvs (by omega) (w := rel[k].2) (fun l hl => by have := i2 l hl; omega) (by omega) (hs3.new _) hvA hvV q2 fun z hz => ?_
  generalize hX : foldW (vs p n As vals) rel[k].1 (List.replicate n 0) = X at *
  generalize hY : foldW (vs p n As vals) rel[k].2 (List.replicate n 0) = Y at *
  obtain ⟨wz, az, rfl⟩ := hz
  have z1l := z1.len
  have z2l := z2.len
  simp only [pwA, if_true, if_false, eq_self, nm_eq, reduceCtorEq, ↓reduceIte, Nat.reduceEqDiff, Nat.reduceLeDiff, Nat.reduceBEq, Nat.reduceAdd, Nat.reduceLT, Nat.reduceSub, Nat.reduceMul, Int.reduceEq, Int.reduceLT, Int.reduceLE, Int.reduceNeg, Int.reduceToNat, List.reduceReplicate, Int.ofNat_le, List.getElem?_drop, hsn, hsn2, e0']
  refine addMultiple_ok (xs := X) (by omega) (by simp only [pwA, if_true, if_false, eq_self, nm_eq, reduceCtorEq, ↓reduceIte, Nat.reduceEqDiff, Nat.reduceLeDiff, Nat.reduceBEq, Nat.reduceAdd, Nat.reduceLT, Nat.reduceSub, Nat.reduceMul, Int.reduceEq, Int.reduceLT, Int.reduceLE, Int.reduceNeg, Int.reduceToNat, List.reduceReplicate, Int.ofNat_le, List.getElem?_drop]) z1l.symm rfl (by omega) (by omega) (fun t g1 g2 => ?_) ?_
  · have c1 := z2.bd t
    have c2 := z1.bd t
    rw [at_eq g2] at c1
    rw [at_eq g1] at c2
    unfold sm2
    omega
  have hvl2 : (vstep p (-1) Y X).length = n := by rw [vstep_length (by omega)]; exact z1l
  simp only [pwA, if_true, if_false, eq_self, nm_eq, reduceCtorEq, ↓reduceIte, Nat.reduceEqDiff, Nat.reduceLeDiff, Nat.reduceBEq, Nat.reduceAdd, Nat.reduceLT, Nat.reduceSub, Nat.reduceMul, Int.reduceEq, Int.reduceLT, Int.reduceLE, Int.reduceNeg, Int.reduceToNat, List.reduceReplicate, Int.ofNat_le, List.getElem?_drop]
  refine PAcc.pushS (σb := σ) (bytes := 24) ((hkp.new _).new _) (ha.keep ((keep_new h' _).new _)) rfl (by omega) (by omega) fun v' h2 k2 a2 o2 n2 l2 => ?_
  have hrow2 : h2.obj (h'.next + 1) = some (pis (vstep p (-1) Y X)) := by
    rw [o2 _ (by show h'.next + 1 < h'.next + 2; omega) (ha.ne (by omega))]
    simp only [pwA, if_true, if_false, eq_self, nm_eq, reduceCtorEq, ↓reduceIte, Nat.reduceEqDiff, Nat.reduceLeDiff, Nat.reduceBEq, Nat.reduceAdd, Nat.reduceLT, Nat.reduceSub, Nat.reduceMul, Int.reduceEq, Int.reduceLT, Int.reduceLE, Int.reduceNeg, Int.reduceToNat, List.reduceReplicate, Int.ofNat_le, List.getElem?_drop]
  simp only [pwA, if_true, if_false, eq_self, nm_eq, reduceCtorEq, ↓reduceIte, Nat.reduceEqDiff, Nat.reduceLeDiff, Nat.reduceBEq, Nat.reduceAdd, Nat.reduceLT, Nat.reduceSub, Nat.reduceMul, Int.reduceEq, Int.reduceLT, Int.reduceLE, Int.reduceNeg, Int.reduceToNat, List.reduceReplicate, Int.ofNat_le, List.getElem?_drop, wrapS hlk (by omega : rel.length ≤ 4611686018427387904)]
  refine ⟨rel.length - (k + 1), by omega, .fzh (h'.next + 1) (pis (vstep p (-1) Y X)) hrow2 (pis_bel _ _) fun o1 => ?_⟩
  obtain ⟨f1, f2, f3⟩ := PSl.fzr wf k2 a2 (s := h'.next + 1) (cs := pis (vstep p (-1) Y X)) (by have := hkp.next; omega) (n2 _ (by show h'.next + 1 < h'.next + 2; omega)) o1
  refine .here ⟨k + 1, v', rows ++ [.fz true (.sl o1 0 n cap) n (pis (vstep p (-1) Y X))], by omega, rfl, ?_, f1, ?_, ?_⟩
  · simp only [sbs, sb, f3, hvV.sb]
  · rw [sbs_row (hall.bI 0) hcap.ok] at f2
    exact f2.acc
  · rw [List.take_succ_eq_append_getElem hlk, List.map_append]
    refine hall.snoc ?_
    show FI _ (vadd p (-1) (foldW (vs p n As vals) rel[k].1 (List.replicate n 0)) (foldW (vs p n As vals) rel[k].2 (List.replicate n 0)))
    rw [hX, hY]
    exact ⟨true, _, by show PV.fz _ _ _ _ = PV.fz _ _ (vstep p (-1) Y X).length _; rw [hvl2]; rfl⟩
end Go.Proofs
set_option linter.unusedSimpArgs false
set_option linter.unusedVariables false
namespace Go.Proofs
open Go.Ab Go.Lie Go.Grp Go.Mx
variable {σ : PHeap} {K : PV → PHeap → Prop} {p d : Int} {n na : Nat} {v w x xs ys : List Int} {A B M vals : List (List Int)} {As : List (List (List Int))} {vA vB vM vv vx vw vV v0 : PV} {O : List Int} {P : List (List Int)} {C : List (List (List Int))} {vO vP vC : PV} {s sp : Nat}
/-- The difference of a relation. -/
abbrev gapOf (p : Int) (n : Nat) (As : List (List (List Int))) (vals : List (List Int)) (r : List Int × List Int) : List Int := vadd p (-1) (foldW (vs p n As vals) r.1 (List.replicate n 0)) (foldW (vs p n As vals) r.2 (List.replicate n 0))
/-- The differences of a generator's relations. -/
def gapRow (p : Int) (n : Nat) (As : List (List (List Int))) (vals : List (List Int)) (O : List Int) (P : List (List Int)) (C : List (List (List Int))) (i k : Nat) : List (List Int) := gapOf p n As vals (powR O P i) :: (List.range k).map fun k => gapOf p n As vals (conR C i k)
def gapL (p : Int) (n : Nat) (As : List (List (List Int))) (vals : List (List Int)) (O : List Int) (P : List (List Int)) (C : List (List (List Int))) (i : Nat) : List (List Int) := (List.range i).flatMap fun i => gapRow p n As vals O P C i (O.length - 1 - i)
theorem gapL_succ (i : Nat) : gapL p n As vals O P C (i + 1) = gapL p n As vals O P C i ++ gapRow p n As vals O P C i (O.length - 1 - i) := by
  unfold gapL
  rw [List.range_succ, List.flatMap_append]; simp
theorem gapRow_succ (i k : Nat) : gapRow p n As vals O P C i (k + 1) = gapRow p n As vals O P C i k ++ [gapOf p n As vals (conR C i k)] := by
  unfold gapRow
  rw [List.range_succ, List.map_append]; simp
theorem gapRow_len (i k : Nat) : (gapRow p n As vals O P C i k).length = k + 1 := by simp [gapRow]
theorem gapL_len (hn6 : O.length ≤ 6) : ∀ {i : Nat}, i ≤ O.length → (gapL p n As vals O P C i).length ≤ 6 * i
  | 0, _ => by simp [gapL]
  | i + 1, hi => by
    have := gapL_len hn6 (i := i) (by omega)
    rw [gapL_succ, List.length_append, gapRow_len]; omega
theorem flat_len {M : List (List Int)} (h : ∀ r ∈ M, r.length = n) : M.flatten.length = M.length * n := by
  induction M with
  | nil => simp
  | cons r M ih =>
    have h1 := h r (by simp)
    have h2 := ih fun t ht => h t (by simp [ht])
    rw [List.flatten_cons, List.length_append, h1, h2, List.length_cons, Nat.succ_mul]; omega
theorem fold_ve (hp : 2 ≤ p) (hq : SqL p n As) (hal : As.length = O.length) (hvs : Ma p n vals) (hvl : vals.length = O.length) {w : List Int} (hw : ∀ l ∈ w, 1 ≤ l ∧ l ≤ (O.length : Int)) : Ve p n (foldW (vs p n As vals) w (List.replicate n 0)) :=
  fold_in (S := Ve p n) (f := vs p n As vals) (n := As.length) (fun a i hi ha => vs_in (by omega) hq hvs (by omega) hi ha) w (fun l hl => by have := hw l hl; omega) (ve_zeros (by omega))
theorem gapOf_ve (hp : 2 ≤ p) (sh : Shp O P C) (hq : SqL p n As) (hal : As.length = O.length) (hvs : Ma p n vals) (hvl : vals.length = O.length) {r : List Int × List Int} (hr : r ∈ relL O P C) : Ve p n (gapOf p n As vals r) := by
  obtain ⟨i1, i2, _, _⟩ := rel_in sh hr
  exact vadd_ve (by omega) (fold_ve hp hq hal hvs hvl i1).len (fold_ve hp hq hal hvs hvl i2).len
theorem pow_mem {i : Nat} (hi : i < O.length) : powR O P i ∈ relL O P C := mem_relL.2 (.inl ⟨i, hi, rfl⟩)
theorem con_mem (sh : Shp O P C) {i k : Nat} (hi : i < O.length) (hk : k < O.length - 1 - i) : conR C i k ∈ relL O P C := mem_relL.2 (.inr ⟨i, k, hi, by rw [sh.row i hi]; exact hk, rfl⟩)
theorem mem_gapL {x : List Int} {m : Nat} : x ∈ gapL p n As vals O P C m ↔ ∃ i, i < m ∧ (x = gapOf p n As vals (powR O P i) ∨ ∃ k, k < O.length - 1 - i ∧ x = gapOf p n As vals (conR C i k)) := by
  unfold gapL gapRow
  simp only [List.mem_flatMap, List.mem_range, List.mem_cons, List.mem_map]
  constructor
  · rintro ⟨i, hi, rfl | ⟨k, hk, rfl⟩⟩
    · exact ⟨i, hi, .inl rfl⟩
    · exact ⟨i, hi, .inr ⟨k, hk, rfl⟩⟩
  · rintro ⟨i, hi, rfl | ⟨k, hk, rfl⟩⟩
    · exact ⟨i, hi, .inl rfl⟩
    · exact ⟨i, hi, .inr ⟨k, hk, rfl⟩⟩
/-- Both lists have the same members. -/
theorem gap_mem (sh : Shp O P C) {x : List Int} : x ∈ gapL p n As vals O P C O.length ↔ x ∈ gaps p n As vals O P C := by
  rw [mem_gapL]
  unfold gaps
  rw [List.mem_map]
  constructor
  · rintro ⟨i, hi, rfl | ⟨k, hk, rfl⟩⟩
    · exact ⟨_, pow_mem hi, rfl⟩
    · exact ⟨_, con_mem sh hi hk, rfl⟩
  · rintro ⟨r, hr, rfl⟩
    rcases mem_relL.1 hr with ⟨i, hi, rfl⟩ | ⟨i, k, hi, hk, rfl⟩
    · exact ⟨i, hi, .inl rfl⟩
    · rw [sh.row i hi] at hk
      exact ⟨i, hi, .inr ⟨k, hk, rfl⟩⟩
theorem gap_zero (sh : Shp O P C) : isZ (gapL p n As vals O P C O.length).flatten ↔ isZ (gaps p n As vals O P C).flatten := by
  have key : ∀ M : List (List Int), isZ M.flatten ↔ ∀ r ∈ M, ∀ x ∈ r, x = 0 := fun M => ⟨fun h r hr x hx => h x (List.mem_flatten.2 ⟨r, hr, hx⟩), fun h x hx => by obtain ⟨r, hr, hx⟩ := List.mem_flatten.1 hx; exact h r hr x hx⟩
  rw [key, key]
  exact ⟨fun h r hr => h r ((gap_mem sh).2 hr), fun h r hr => h r ((gap_mem sh).1 hr)⟩
theorem neg_one_mod (p : Int) : (-1) % p = (p - 1) % p := by
  have := Int.add_mul_emod_self_left (-1) p 1
  rw [← this]; congr 1; omega
theorem l22Gaps_ok (hp : 2 ≤ p ∧ p ≤ 7) (hn : n ≤ 3) (sh : Shp O P C) (hq : SqL p n As) (hal : As.length = O.length) (hvs : Ma p n vals) (hvl : vals.length = O.length) (hR : IsPr vO vP vC O P C) (hvA : FIII vA As) (hvV : FII vV vals)
    (hk : ∀ z, FI z (gapL p n As vals O P C O.length).flatten → K z σ) : PCalls Try.prog 117 [.agg [vO, vP, vC], .agg [.int .i64 p, .int .i64 n, vA], vV] σ K := by
  have hn6 := sh.le
  have hvA0 := hvA
  have hA1 := hvA.one
  have hV1 := hvV.one
  have hgv : ∀ {r}, r ∈ relL O P C → Ve p n (gapOf p n As vals r) := fun hr => gapOf_ve (by omega) sh hq hal hvs hvl hr
  have hglen : ∀ i, i < O.length → ∀ k, k ≤ O.length - 1 - i → (gapL p n As vals O P C i ++ gapRow p n As vals O P C i k).flatten.length ≤ 300 := by
    intro i hi k hk
    rw [flat_len (n := n) (fun r hr => ?_)]
    · rw [List.length_append, gapRow_len]
      have := gapL_len (p := p) (n := n) (As := As) (vals := vals) (P := P) (C := C) hn6 (i := i) (by omega)
      have h1 : (gapL p n As vals O P C i).length + (k + 1) ≤ 48 := by omega
      have := Nat.mul_le_mul h1 hn
      omega
    · rw [List.mem_append] at hr
      rcases hr with hr | hr
      · obtain ⟨j, hj, rfl | ⟨q, hq', rfl⟩⟩ := mem_gapL.1 hr
        · exact (hgv (pow_mem (by omega))).len
        · exact (hgv (con_mem sh (by omega) hq')).len
      · simp only [gapRow, List.mem_cons, List.mem_map, List.mem_range] at hr
        rcases hr with rfl | ⟨q, hq', rfl⟩
        · exact (hgv (pow_mem hi)).len
        · exact (hgv (con_mem sh hi (by omega))).len
  obtain ⟨⟨w0, a0, rfl⟩, ⟨w1, a1, rP, rfl, hP⟩, ⟨w3, a3, rC, rfl, hC⟩⟩ := hR
  refine PCalls.gh ?_
  generalize hH : (σ.new [.fz w0 a0 O.length (pis O), .fz w1 a1 P.length rP, .fz w3 a3 C.length rC]).new [.int .i64 p, .int .i64 n, vA] = H
  have hHn : H.next = σ.next + 2 := by rw [← hH]; rfl
  have hHk : Keep σ H := by rw [← hH]; exact (keep_new σ _).new _
  have hob : H.obj σ.next = some [.fz w0 a0 O.length (pis O), .fz w1 a1 P.length rP, .fz w3 a3 C.length rC] := by rw [← hH]; simp only [pwA, if_true, if_false, eq_self, nm_eq, reduceCtorEq, ↓reduceIte, Nat.reduceEqDiff, Nat.reduceLeDiff, Nat.reduceBEq, Nat.reduceAdd, Nat.reduceLT, Nat.reduceSub, Nat.reduceMul, Int.reduceEq, Int.reduceLT, Int.reduceLE, Int.reduceNeg, Int.reduceToNat, List.reduceReplicate, Int.ofNat_le, List.getElem?_drop]
  have hob2 : H.obj (σ.next + 1) = some [.int .i64 p, .int .i64 n, vA] := by rw [← hH]; simp only [pwA, if_true, if_false, eq_self, nm_eq, reduceCtorEq, ↓reduceIte, Nat.reduceEqDiff, Nat.reduceLeDiff, Nat.reduceBEq, Nat.reduceAdd, Nat.reduceLT, Nat.reduceSub, Nat.reduceMul, Int.reduceEq, Int.reduceLT, Int.reduceLE, Int.reduceNeg, Int.reduceToNat, List.reduceReplicate, Int.ofNat_le, List.getElem?_drop]
  have g1' : H.rd1 (σ.next + 1) 1 = some (.int .i64 n) := by rw [obj_rd1 hob2]; rfl
  have g0' : H.rd1 σ.next 0 = some (.fz w0 a0 O.length (pis O)) := by rw [obj_rd1 hob]; rfl
  refine pcalls_of_vp mix Try.func117 cf117 rfl ?_
  dsimp only [if117, qI, eI, nI, qD, eD]
  simp only [pwA, if_true, if_false, eq_self, nm_eq, reduceCtorEq, ↓reduceIte, Nat.reduceEqDiff, Nat.reduceLeDiff, Nat.reduceBEq, Nat.reduceAdd, Nat.reduceLT, Nat.reduceSub, Nat.reduceMul, Int.reduceEq, Int.reduceLT, Int.reduceLE, Int.reduceNeg, Int.reduceToNat, List.reduceReplicate, Int.ofNat_le, List.getElem?_drop, hA1]
  rw [hH]
  simp only [pwA, if_true, if_false, eq_self, nm_eq, reduceCtorEq, ↓reduceIte, Nat.reduceEqDiff, Nat.reduceLeDiff, Nat.reduceBEq, Nat.reduceAdd, Nat.reduceLT, Nat.reduceSub, Nat.reduceMul, Int.reduceEq, Int.reduceLT, Int.reduceLE, Int.reduceNeg, Int.reduceToNat, List.reduceReplicate, Int.ofNat_le, List.getElem?_drop, g1', g0', List.length_replicate, pis_rep, mk8 (n := n) (by omega), mkL (n := n) (by omega)]
  refine vp_loopG (fun m us h' => ∃ (i : Nat) (vZ vX : PV), i ≤ O.length ∧ m = O.length - i ∧ us = [vV, .ptr σ.next 0, .ptr (σ.next + 1) 0, .int .i64 O.length, vZ, vX, .int .i64 i] ∧ Keep H h' ∧ FI vZ (List.replicate n 0) ∧ PSl H.next 1 h' vX (gapL p n As vals O P C i).flatten.length (pis (gapL p n As vals O P C i).flatten)) O.length ?_ ?_
  · have hz2 : ∀ c : List PV, (H.new c).next = σ.next + 3 := fun c => by show H.next + 1 = _; omega
    have ho2 : ((H.new (pis (List.replicate n 0))).new []).obj (σ.next + 2) = some (pis (List.replicate n 0)) := by
      rw [pobj_new, hz2, if_neg (by omega), pobj_new, hHn, if_pos rfl]
    have ho3 : ((H.new (pis (List.replicate n 0))).new []).obj (σ.next + 3) = some [] := by
      rw [pobj_new, hz2, if_pos rfl]
    refine .fz (σ.next + 2) (pis (List.replicate n 0)) ho2 (pis_bel _ _) fun o => .here ⟨0, .fz true (.sl o 0 n (.known n)) n (pis (List.replicate n 0)), .sl (σ.next + 3) 0 0 (.known 0), by omega, by omega, ?_, ?_, ⟨true, _, by rw [List.length_replicate]⟩, ?_⟩
    · have hcap : capOK (.known n) n = true := by simp [capOK]
      have hne : ¬ σ.next + 3 = σ.next + 2 := by omega
      show sbs (σ.next + 2) o (pis (List.replicate n 0)) [vV, .ptr σ.next 0, .ptr (σ.next + 1) 0, .int .i64 O.length, .sl (σ.next + 2) 0 n (.known n), .sl (σ.next + 3) 0 0 (.known 0), .int .i64 0] = _
      simp only [sbs, sb, hcap, hne, and_self, false_and, if_true, if_false, hvV.sb]
      rfl
    · exact ((((Keep.refl H).new _).new _).kill (by omega))
    · refine PSl.own (.inr rfl) ?_ (by rfl) (by omega) ?_
      · rw [pobj_kill, if_neg (by omega)]; exact ho3
      · show σ.next + 3 < H.next + 2
        omega
  rintro m us h' ⟨i, vZ, vX, hi, rfl, rfl, hkp, hZ, hX⟩
  have q0 : h'.rd1 σ.next 0 = some (.fz w0 a0 O.length (pis O)) := by rw [obj_rd1 ((hkp.obj _ (by omega)).trans hob)]; rfl
  have q1 : h'.rd1 σ.next 1 = some (.fz w1 a1 P.length rP) := by rw [obj_rd1 ((hkp.obj _ (by omega)).trans hob)]; rfl
  have q2 : h'.rd1 σ.next 2 = some (.fz w3 a3 C.length rC) := by rw [obj_rd1 ((hkp.obj _ (by omega)).trans hob)]; rfl
  have q3 : h'.rd1 (σ.next + 1) 0 = some (.int .i64 p) := by rw [obj_rd1 ((hkp.obj _ (by omega)).trans hob2)]; rfl
  have q4 : h'.rd (σ.next + 1) 0 3 = some [.int .i64 p, .int .i64 n, vA] := by rw [obj_rd ((hkp.obj _ (by omega)).trans hob2)]; rfl
  simp only [pwA, if_true, if_false, eq_self, nm_eq, reduceCtorEq, ↓reduceIte, Nat.reduceEqDiff, Nat.reduceLeDiff, Nat.reduceBEq, Nat.reduceAdd, Nat.reduceLT, Nat.reduceSub, Nat.reduceMul, Int.reduceEq, Int.reduceLT, Int.reduceLE, Int.reduceNeg, Int.reduceToNat, List.reduceReplicate, Int.ofNat_le, List.getElem?_drop]
  refine iteI (fun hlt => ?_) fun hge => ?_
  rotate_left
  · have hie : i = O.length := by omega
    subst hie
    obtain ⟨t, cap, rfl, hc, c2, c3, c4, c5⟩ := hX
    exact Gh.finF (hHk.trans hkp) c2 (by omega) (pis_bel _ _) hc.ok fun o => hk _ ⟨true, .sl o 0 _ cap, rfl⟩
  have bO := sh.pr i hlt
  have hnO : ((nx O i : Nat) : Int) = O[i] := by unfold nx; rw [Int.toNat_of_nonneg (by omega), at_eq hlt]
  have hnO7 : nx O i ≤ 7 := by unfold nx; omega
  have hz0 := ve_zeros (p := p) (n := n) (by omega)
  have hiA : i < As.length := by omega
  simp only [pwA, if_true, if_false, eq_self, nm_eq, reduceCtorEq, ↓reduceIte, Nat.reduceEqDiff, Nat.reduceLeDiff, Nat.reduceBEq, Nat.reduceAdd, Nat.reduceLT, Nat.reduceSub, Nat.reduceMul, Int.reduceEq, Int.reduceLT, Int.reduceLE, Int.reduceNeg, Int.reduceToNat, List.reduceReplicate, Int.ofNat_le, List.getElem?_drop]
  refine vp_loop (fun m us h2 => ∃ (k : Nat) (vL : PV), k ≤ nx O i ∧ m = nx O i - k ∧ us = [vV, .ptr σ.next 0, .ptr (σ.next + 1) 0, .int .i64 O.length, vZ, vX, .int .i64 i, vL, .int .i64 k] ∧ h2 = h' ∧ FI vL (repF (vs p n As vals) i k (List.replicate n 0))) (nx O i) ?_ ?_
  · exact ⟨0, vZ, by omega, by omega, rfl, rfl, hZ⟩
  rintro m us h2 ⟨k, vL, hk', rfl, rfl, rfl, hL⟩
  have hsk := repF_in (S := Ve p n) (f := vs p n As vals) (i := i) (fun a ha => vs_in (by omega) hq hvs (by omega) hiA ha) k hz0
  simp only [pwA, if_true, if_false, eq_self, nm_eq, reduceCtorEq, ↓reduceIte, Nat.reduceEqDiff, Nat.reduceLeDiff, Nat.reduceBEq, Nat.reduceAdd, Nat.reduceLT, Nat.reduceSub, Nat.reduceMul, Int.reduceEq, Int.reduceLT, Int.reduceLE, Int.reduceNeg, Int.reduceToNat, List.reduceReplicate, Int.ofNat_le, List.getElem?_drop, q0, hlt, gi hlt, pis_get, List.getElem?_drop]
  rw [← hnO]
  by_cases hlk : k < nx O i
  · have hlkI : (k : Int) < ((nx O i : Nat) : Int) := by omega
    simp only [pwA, if_true, if_false, eq_self, nm_eq, reduceCtorEq, ↓reduceIte, Nat.reduceEqDiff, Nat.reduceLeDiff, Nat.reduceBEq, Nat.reduceAdd, Nat.reduceLT, Nat.reduceSub, Nat.reduceMul, Int.reduceEq, Int.reduceLT, Int.reduceLE, Int.reduceNeg, Int.reduceToNat, List.reduceReplicate, Int.ofNat_le, List.getElem?_drop, hlkI, q4, hA1, hV1]
    refine l22Step_ok hp hn hq hiA hvs (by omega) hsk hvA0 hvV hL fun z hz => ?_
    simp only [pwA, if_true, if_false, eq_self, nm_eq, reduceCtorEq, ↓reduceIte, Nat.reduceEqDiff, Nat.reduceLeDiff, Nat.reduceBEq, Nat.reduceAdd, Nat.reduceLT, Nat.reduceSub, Nat.reduceMul, Int.reduceEq, Int.reduceLT, Int.reduceLE, Int.reduceNeg, Int.reduceToNat, List.reduceReplicate, Int.ofNat_le, List.getElem?_drop, wrapS hlk (by omega : nx O i ≤ 4611686018427387904)]
    refine ⟨nx O i - (k + 1), by omega, k + 1, z, by omega, rfl, rfl, ?_⟩
    rw [repF_succ]
    exact hz
  have hke : k = nx O i := by omega
  subst hke
  have hlkI : ¬ ((nx O i : Nat) : Int) < ((nx O i : Nat) : Int) := by omega
  have hiP : i < P.length := by rw [sh.pl]; exact hlt
  obtain ⟨w5, a5, hpr⟩ := hP.rowI hiP
  have hpv := sh.pw i hlt
  have gP : P.getD i [] = P[i] := getD_row' hiP
  rw [show pvec P i = P[i] from gP] at hpv
  have ew : IntKind.i64.wrap (p - 1) = p - 1 := wrap64 (by omega) (by omega)
  simp only [pwA, if_true, if_false, eq_self, nm_eq, reduceCtorEq, ↓reduceIte, Nat.reduceEqDiff, Nat.reduceLeDiff, Nat.reduceBEq, Nat.reduceAdd, Nat.reduceLT, Nat.reduceSub, Nat.reduceMul, Int.reduceEq, Int.reduceLT, Int.reduceLE, Int.reduceNeg, Int.reduceToNat, List.reduceReplicate, Int.ofNat_le, List.getElem?_drop, hlkI, q1, q3, q4, hiP, hpr, ew, hA1, hV1, List.getElem?_drop]
  refine l22Behind_ok hp hn hq (by omega) hvs (by omega) (TT.nx7 sh hpv) (by rw [hpv.len]; omega) hz0 hvA0 hvV hZ ⟨w5, a5, rfl⟩ fun z1 hz1 => ?_
  have hbe := expF_in (S := Ve p n) (f := vs p n As vals) (x := P[i]) (n := As.length) (fun a i hi ha => vs_in (by omega) hq hvs (by omega) hi ha) P[i].length (by rw [hpv.len]; omega) hz0
  simp only [pwA, if_true, if_false, eq_self, nm_eq, reduceCtorEq, ↓reduceIte, Nat.reduceEqDiff, Nat.reduceLeDiff, Nat.reduceBEq, Nat.reduceAdd, Nat.reduceLT, Nat.reduceSub, Nat.reduceMul, Int.reduceEq, Int.reduceLT, Int.reduceLE, Int.reduceNeg, Int.reduceToNat, List.reduceReplicate, Int.ofNat_le, List.getElem?_drop, q1, q3, q4, hiP, hpr, ew, hA1, hV1, List.getElem?_drop]
  refine l02Add_ok (n := n) hp (by omega) hsk hbe (by omega) hL hz1 fun z2 hz2 => ?_
  have e1 : gapOf p n As vals (powR O P i) = vadd p (p - 1) (repF (vs p n As vals) i (nx O i) (List.replicate n 0)) (expF (vs p n As vals) P[i] P[i].length (List.replicate n 0)) := by
    obtain ⟨f1, f2⟩ := pow_fold (O := O) (P := P) (vs p n As vals) i (List.replicate n 0)
    unfold gapOf
    rw [f1, f2, gP]
    exact vadd_congr (by omega) hsk.len hbe.len (neg_one_mod p)
  rw [← e1] at hz2
  obtain ⟨w6, a6, rfl⟩ := hz2
  have hg0 := hglen i hlt 0 (Nat.zero_le _)
  have el0 : (gapL p n As vals O P C i ++ gapRow p n As vals O P C i 0).flatten = (gapL p n As vals O P C i).flatten ++ gapOf p n As vals (powR O P i) := by simp [gapRow]
  have el0' := congrArg List.length el0
  rw [List.length_append] at el0'
  simp only [pwA, if_true, if_false, eq_self, nm_eq, reduceCtorEq, ↓reduceIte, Nat.reduceEqDiff, Nat.reduceLeDiff, Nat.reduceBEq, Nat.reduceAdd, Nat.reduceLT, Nat.reduceSub, Nat.reduceMul, Int.reduceEq, Int.reduceLT, Int.reduceLE, Int.reduceNeg, Int.reduceToNat, List.reduceReplicate, Int.ofNat_le, List.getElem?_drop, q1, q3, q4, hiP, hpr, ew, hA1, hV1, List.getElem?_drop]
  refine PSl.cat (σb := H) (bytes := 8) hkp hX (pis_length _) (by omega) (by omega) fun v3 h3 k3 ac3 => ?_
  rw [pis_append, ← el0, ← el0'] at ac3
  have ei1 : IntKind.i64.wrap ((i : Int) + 1) = ((i + (1 + 0) : Nat) : Int) := by rw [wrap64 (by omega) (by omega)]; omega
  simp only [pwA, if_true, if_false, eq_self, nm_eq, reduceCtorEq, ↓reduceIte, Nat.reduceEqDiff, Nat.reduceLeDiff, Nat.reduceBEq, Nat.reduceAdd, Nat.reduceLT, Nat.reduceSub, Nat.reduceMul, Int.reduceEq, Int.reduceLT, Int.reduceLE, Int.reduceNeg, Int.reduceToNat, List.reduceReplicate, Int.ofNat_le, List.getElem?_drop, ei1]
  have hiC : i < C.length := by rw [sh.cl]; exact hlt
  obtain ⟨w8, a8, rs6, hrb, hrs6⟩ := cvRow sh hC hlt
  clear hX hkp q0 q1 q2 q3 q4 hL hz1 el0 el0' hg0 vX z1 vL
  refine vp_loop (fun m us h' => ∃ (k : Nat) (vX : PV), k ≤ O.length - 1 - i ∧ m = O.length - 1 - i - k ∧ us = [vV, .ptr σ.next 0, .ptr (σ.next + 1) 0, .int .i64 O.length, vZ, vX, .int .i64 i, .int .i64 ((i + (1 + k) : Nat) : Int)] ∧ Keep H h' ∧ PSl H.next 1 h' vX (gapL p n As vals O P C i ++ gapRow p n As vals O P C i k).flatten.length (pis (gapL p n As vals O P C i ++ gapRow p n As vals O P C i k).flatten)) (O.length - 1 - i) ?_ ?_
  · exact ⟨0, v3, by omega, by omega, rfl, k3, ac3⟩
  rintro m us h' ⟨k, vX, hkq, rfl, rfl, hkp, hX⟩
  have q0 : h'.rd1 σ.next 0 = some (.fz w0 a0 O.length (pis O)) := by rw [obj_rd1 ((hkp.obj _ (by omega)).trans hob)]; rfl
  have q2 : h'.rd1 σ.next 2 = some (.fz w3 a3 C.length rC) := by rw [obj_rd1 ((hkp.obj _ (by omega)).trans hob)]; rfl
  have q3 : h'.rd1 (σ.next + 1) 0 = some (.int .i64 p) := by rw [obj_rd1 ((hkp.obj _ (by omega)).trans hob2)]; rfl
  have q4 : h'.rd (σ.next + 1) 0 3 = some [.int .i64 p, .int .i64 n, vA] := by rw [obj_rd ((hkp.obj _ (by omega)).trans hob2)]; rfl
  by_cases hlk2 : k < O.length - 1 - i
  rotate_left
  · have hcnd : ¬ ((i + (1 + k) : Nat) : Int) < (O.length : Int) := by omega
    have hcnd2 : ¬ i + (1 + k) < O.length := by omega
    have hke : k = O.length - 1 - i := by omega
    subst hke
    rw [← gapL_succ] at hX
    simp only [pwA, if_true, if_false, eq_self, nm_eq, reduceCtorEq, ↓reduceIte, Nat.reduceEqDiff, Nat.reduceLeDiff, Nat.reduceBEq, Nat.reduceAdd, Nat.reduceLT, Nat.reduceSub, Nat.reduceMul, Int.reduceEq, Int.reduceLT, Int.reduceLE, Int.reduceNeg, Int.reduceToNat, List.reduceReplicate, Int.ofNat_le, List.getElem?_drop, hcnd, hcnd2, wrapS hlt (by omega : O.length ≤ 4611686018427387904)]
    exact ⟨O.length - (i + 1), by omega, .here ⟨i + 1, vZ, vX, by omega, rfl, rfl, hkp, hZ, hX⟩⟩
  have hj : i + (1 + k) < O.length := by omega
  have hjA : i + (1 + k) < As.length := by omega
  obtain ⟨w9, a9, hr8⟩ := hrs6 k hlk2
  have hcv := sh.cj i (i + (1 + k)) (by omega) hj
  have gC : (C.getD i []).getD k [] = cvec C i (i + (1 + k)) := by
    show _ = (C.getD i []).getD (i + (1 + k) - i - 1) []
    rw [show i + (1 + k) - i - 1 = k by omega]
  generalize hc : cvec C i (i + (1 + k)) = c at *
  have e1q : IntKind.i64.wrap (((i + (1 + k) : Nat) : Int) - (i : Int)) = ((1 + k : Nat) : Int) := by rw [wrap64 (by omega) (by omega)]; omega
  have e2q : IntKind.i64.wrap (((1 + k : Nat) : Int) - 1) = (k : Int) := by rw [wrap64 (by omega) (by omega)]; omega
  have e3q : IntKind.i64.wrap (((i + (1 + k) : Nat) : Int) + 1) = ((i + (1 + (k + 1)) : Nat) : Int) := by rw [wrap64 (by omega) (by omega)]; omega
  have hs1 := vs_in (p := p) (by omega) hq hvs (by omega) hjA hz0
  have hs2 := vs_in (p := p) (by omega) hq hvs (by omega) hiA hs1
  have hs3 := vs_in (p := p) (by omega) hq hvs (by omega) hiA hz0
  simp only [pwA, if_true, if_false, eq_self, nm_eq, reduceCtorEq, ↓reduceIte, Nat.reduceEqDiff, Nat.reduceLeDiff, Nat.reduceBEq, Nat.reduceAdd, Nat.reduceLT, Nat.reduceSub, Nat.reduceMul, Int.reduceEq, Int.reduceLT, Int.reduceLE, Int.reduceNeg, Int.reduceToNat, List.reduceReplicate, Int.ofNat_le, List.getElem?_drop, hj, q4, hA1, hV1]
  refine l22Step_ok hp hn hq hjA hvs (by omega) hz0 hvA0 hvV hZ fun z1 hz1 => ?_
  simp only [pwA, if_true, if_false, eq_self, nm_eq, reduceCtorEq, ↓reduceIte, Nat.reduceEqDiff, Nat.reduceLeDiff, Nat.reduceBEq, Nat.reduceAdd, Nat.reduceLT, Nat.reduceSub, Nat.reduceMul, Int.reduceEq, Int.reduceLT, Int.reduceLE, Int.reduceNeg, Int.reduceToNat, List.reduceReplicate, Int.ofNat_le, List.getElem?_drop, q4, hA1, hV1]
  refine l22Step_ok hp hn hq hiA hvs (by omega) hs1 hvA0 hvV hz1 fun z2 hz2 => ?_
  simp only [pwA, if_true, if_false, eq_self, nm_eq, reduceCtorEq, ↓reduceIte, Nat.reduceEqDiff, Nat.reduceLeDiff, Nat.reduceBEq, Nat.reduceAdd, Nat.reduceLT, Nat.reduceSub, Nat.reduceMul, Int.reduceEq, Int.reduceLT, Int.reduceLE, Int.reduceNeg, Int.reduceToNat, List.reduceReplicate, Int.ofNat_le, List.getElem?_drop, q4, q2, hiC, hrb, hr8, hlk2, e1q, e2q, hA1, hV1, List.getElem?_drop]
  refine l22Step_ok hp hn hq hiA hvs (by omega) hz0 hvA0 hvV hZ fun z3 hz3 => ?_
  simp only [pwA, if_true, if_false, eq_self, nm_eq, reduceCtorEq, ↓reduceIte, Nat.reduceEqDiff, Nat.reduceLeDiff, Nat.reduceBEq, Nat.reduceAdd, Nat.reduceLT, Nat.reduceSub, Nat.reduceMul, Int.reduceEq, Int.reduceLT, Int.reduceLE, Int.reduceNeg, Int.reduceToNat, List.reduceReplicate, Int.ofNat_le, List.getElem?_drop, q4, q2, hiC, hrb, hr8, hlk2, e1q, e2q, hA1, hV1, List.getElem?_drop]
  refine l22Behind_ok hp hn hq (by omega) hvs (by omega) (TT.nx7 sh hcv) (by rw [hcv.len]; omega) hs3 hvA0 hvV hz3 ⟨w9, a9, by rw [hcv.len]⟩ fun z4 hz4 => ?_
  have hbe4 := expF_in (S := Ve p n) (f := vs p n As vals) (x := c) (n := As.length) (fun a i hi ha => vs_in (by omega) hq hvs (by omega) hi ha) c.length (by rw [hcv.len]; omega) hs3
  simp only [pwA, if_true, if_false, eq_self, nm_eq, reduceCtorEq, ↓reduceIte, Nat.reduceEqDiff, Nat.reduceLeDiff, Nat.reduceBEq, Nat.reduceAdd, Nat.reduceLT, Nat.reduceSub, Nat.reduceMul, Int.reduceEq, Int.reduceLT, Int.reduceLE, Int.reduceNeg, Int.reduceToNat, List.reduceReplicate, Int.ofNat_le, List.getElem?_drop, q4, q2, q3, hiC, hrb, hr8, hlk2, e1q, e2q, hA1, hV1, ew, List.getElem?_drop]
  refine l02Add_ok (n := n) hp (by omega) hs2 hbe4 (by omega) hz2 hz4 fun z5 hz5 => ?_
  have e2 : gapOf p n As vals (conR C i k) = vadd p (p - 1) (vs p n As vals (vs p n As vals (List.replicate n 0) (i + (1 + k))) i) (expF (vs p n As vals) c c.length (vs p n As vals (List.replicate n 0) i)) := by
    obtain ⟨f1, f2⟩ := con_fold (C := C) (vs p n As vals) i k (List.replicate n 0)
    unfold gapOf
    rw [f1, f2, gC]
    exact vadd_congr (by omega) hs2.len hbe4.len (neg_one_mod p)
  rw [← e2] at hz5
  obtain ⟨w7, a7, rfl⟩ := hz5
  have hg0 := hglen i hlt (k + 1) (by omega)
  have el0 : (gapL p n As vals O P C i ++ gapRow p n As vals O P C i (k + 1)).flatten = (gapL p n As vals O P C i ++ gapRow p n As vals O P C i k).flatten ++ gapOf p n As vals (conR C i k) := by rw [gapRow_succ, ← List.append_assoc, List.flatten_append]; simp
  have el0' := congrArg List.length el0
  rw [List.length_append] at el0'
  simp only [pwA, if_true, if_false, eq_self, nm_eq, reduceCtorEq, ↓reduceIte, Nat.reduceEqDiff, Nat.reduceLeDiff, Nat.reduceBEq, Nat.reduceAdd, Nat.reduceLT, Nat.reduceSub, Nat.reduceMul, Int.reduceEq, Int.reduceLT, Int.reduceLE, Int.reduceNeg, Int.reduceToNat, List.reduceReplicate, Int.ofNat_le, List.getElem?_drop, q4, q3, hA1, hV1, ew, List.getElem?_drop]
  refine PSl.cat (σb := H) (bytes := 8) hkp hX (pis_length _) (by omega) (by omega) fun v4 h4 k4 a4 => ?_
  rw [pis_append, ← el0, ← el0'] at a4
  simp only [pwA, if_true, if_false, eq_self, nm_eq, reduceCtorEq, ↓reduceIte, Nat.reduceEqDiff, Nat.reduceLeDiff, Nat.reduceBEq, Nat.reduceAdd, Nat.reduceLT, Nat.reduceSub, Nat.reduceMul, Int.reduceEq, Int.reduceLT, Int.reduceLE, Int.reduceNeg, Int.reduceToNat, List.reduceReplicate, Int.ofNat_le, List.getElem?_drop, e3q]
  exact ⟨_, by omega, k + 1, v4, by omega, rfl, rfl, k4, a4⟩
end Go.Proofs
set_option linter.unusedSimpArgs false
set_option linter.unusedVariables false
namespace Go.Proofs
open Go.Ab Go.Lie Go.Grp Go.Mx
variable {σ : PHeap} {K : PV → PHeap → Prop} {p d : Int} {n na : Nat} {v w x xs ys : List Int} {A B M vals : List (List Int)} {As : List (List (List Int))} {vA vB vM vv vx vw vV v0 : PV} {O : List Int} {P : List (List Int)} {C : List (List (List Int))} {vO vP vC : PV} {s sp : Nat}
/-- The arguments fit. -/
def derFit (O : List Int) (P : List (List Int)) (C : List (List (List Int))) (p d : Int) (As : List (List (List Int))) (vals : List (List Int)) : Prop := isMod O P C p d As ∧ vals.length = O.length ∧ Ma p d.toNat vals
open Classical in
/-- What both sides return. -/
noncomputable def derRes (O : List Int) (P : List (List Int)) (C : List (List (List Int))) (p d : Int) (As : List (List (List Int))) (vals : List (List Int)) : Bool × Int :=
  if derFit O P C p d As vals then (decide (isZ (gaps p d.toNat As vals O P C).flatten), 0) else (false, 1)
theorem gaps_small (hp : 2 ≤ p) (hn : n ≤ 3) (sh : Shp O P C) (hq : SqL p n As) (hal : As.length = O.length) (hvs : Ma p n vals) (hvl : vals.length = O.length) : (gaps p n As vals O P C).length ≤ 48 ∧ (gaps p n As vals O P C).flatten.length ≤ 144 := by
  have hrell : (relL O P C).length ≤ 48 := by
    have := relA_len sh (i := O.length) (Nat.le_refl _)
    have e : relA O P C O.length = relL O P C := rfl
    have := sh.le
    rw [← e]; omega
  have h1 : (gaps p n As vals O P C).length ≤ 48 := by simpa [gaps] using hrell
  refine ⟨h1, ?_⟩
  rw [flat_len (n := n) fun r hr => ?_]
  · have := Nat.mul_le_mul h1 hn; omega
  · unfold gaps at hr
    obtain ⟨q, hq', rfl⟩ := List.mem_map.1 hr
    exact (gapOf_ve hp sh hq hal hvs hvl hq').len
theorem IsDerivation_ok (hR : IsPr vO vP vC O P C) (sz : SzP O P C) (hA : FIII vA As) (szA : SzM As) (hV : FII vV vals) (szV : SzL vals) (hk : K (.tup [.bool (derRes O P C p d As vals).1, .int .i64 (derRes O P C p d As vals).2]) σ) :
    PCalls Try.prog 48 [.agg [vO, vP, vC], .agg [.int .i64 p, .int .i64 d, vA], vV] σ K := by
  have h0 := hR.O.one
  have h1 := hR.P.one
  have h2 := hR.C.one
  have h3 := hA.one
  have hV1 := hV.one
  refine PCalls.gh ?_
  generalize hH : (σ.new [vO, vP, vC]).new [.int .i64 p, .int .i64 d, vA] = H
  have hkp : Keep σ H := by rw [← hH]; exact (keep_new σ _).new _
  have hk1 : ∀ {b : Bool} {c : Int}, derRes O P C p d As vals = (b, c) → Gh σ K (.tup [.bool b, .int .i64 c]) H := fun h => Gh.fin0 hkp ⟨trivial, trivial, trivial⟩ (by rw [h] at hk; exact hk)
  have no : ¬ derFit O P C p d As vals → Gh σ K (.tup [.bool false, .int .i64 1]) H := fun h => hk1 (by unfold derRes; rw [if_neg h])
  have hsp : PtrG H σ.next vO vP vC := by rw [← hH]; exact (PtrG.new ⟨by simp only [pwA, if_true, if_false, eq_self, nm_eq, reduceCtorEq, ↓reduceIte, Nat.reduceEqDiff, Nat.reduceLeDiff, Nat.reduceBEq, Nat.reduceAdd, Nat.reduceLT, Nat.reduceSub, Nat.reduceMul, Int.reduceEq, Int.reduceLT, Int.reduceLE, Int.reduceNeg, Int.reduceToNat, List.reduceReplicate, Int.ofNat_le, List.getElem?_drop], by simp only [pwA, if_true, if_false, eq_self, nm_eq, reduceCtorEq, ↓reduceIte, Nat.reduceEqDiff, Nat.reduceLeDiff, Nat.reduceBEq, Nat.reduceAdd, Nat.reduceLT, Nat.reduceSub, Nat.reduceMul, Int.reduceEq, Int.reduceLT, Int.reduceLE, Int.reduceNeg, Int.reduceToNat, List.reduceReplicate, Int.ofNat_le, List.getElem?_drop]⟩ _)
  have hs : PtrR H (σ.next + 1) p (.int .i64 d) vA := by rw [← hH]; exact ⟨by simp only [pwA, if_true, if_false, eq_self, nm_eq, reduceCtorEq, ↓reduceIte, Nat.reduceEqDiff, Nat.reduceLeDiff, Nat.reduceBEq, Nat.reduceAdd, Nat.reduceLT, Nat.reduceSub, Nat.reduceMul, Int.reduceEq, Int.reduceLT, Int.reduceLE, Int.reduceNeg, Int.reduceToNat, List.reduceReplicate, Int.ofNat_le, List.getElem?_drop], by simp only [pwA, if_true, if_false, eq_self, nm_eq, reduceCtorEq, ↓reduceIte, Nat.reduceEqDiff, Nat.reduceLeDiff, Nat.reduceBEq, Nat.reduceAdd, Nat.reduceLT, Nat.reduceSub, Nat.reduceMul, Int.reduceEq, Int.reduceLT, Int.reduceLE, Int.reduceNeg, Int.reduceToNat, List.reduceReplicate, Int.ofNat_le, List.getElem?_drop]⟩
  refine pcalls_of_vp mix Try.func48 cf48 rfl ?_
  dsimp only [if48, qI, eI, nI, qD, eD]
  simp only [pwA, if_true, if_false, eq_self, nm_eq, reduceCtorEq, ↓reduceIte, Nat.reduceEqDiff, Nat.reduceLeDiff, Nat.reduceBEq, Nat.reduceAdd, Nat.reduceLT, Nat.reduceSub, Nat.reduceMul, Int.reduceEq, Int.reduceLT, Int.reduceLE, Int.reduceNeg, Int.reduceToNat, List.reduceReplicate, Int.ofNat_le, List.getElem?_drop, h0, h1, h2, h3, hV1]
  rw [hH]
  refine isModule_ok hsp hR sz hs hA szA fun t ht => ?_
  cases t with
  | false =>
    simp only [pwA, if_true, if_false, eq_self, nm_eq, reduceCtorEq, ↓reduceIte, Nat.reduceEqDiff, Nat.reduceLeDiff, Nat.reduceBEq, Nat.reduceAdd, Nat.reduceLT, Nat.reduceSub, Nat.reduceMul, Int.reduceEq, Int.reduceLT, Int.reduceLE, Int.reduceNeg, Int.reduceToNat, List.reduceReplicate, Int.ofNat_le, List.getElem?_drop]
    exact no fun h => by cases ht.2 h.1
  | true =>
  have hm := ht.1 rfl
  obtain ⟨n, hn⟩ : ∃ n : Nat, d = (n : Int) := ⟨d.toNat, by have := hm.2.2.1; omega⟩
  subst hn
  have b1 := hm.2.2.1
  simp only [pwA, if_true, if_false, eq_self, nm_eq, reduceCtorEq, ↓reduceIte, Nat.reduceEqDiff, Nat.reduceLeDiff, Nat.reduceBEq, Nat.reduceAdd, Nat.reduceLT, Nat.reduceSub, Nat.reduceMul, Int.reduceEq, Int.reduceLT, Int.reduceLE, Int.reduceNeg, Int.reduceToNat, List.reduceReplicate, Int.ofNat_le, List.getElem?_drop]
  refine areValues_ok hm.2.1 (by omega) szV hsp hR.O hs hV fun t ht => ?_
  cases t with
  | false =>
    simp only [pwA, if_true, if_false, eq_self, nm_eq, reduceCtorEq, ↓reduceIte, Nat.reduceEqDiff, Nat.reduceLeDiff, Nat.reduceBEq, Nat.reduceAdd, Nat.reduceLT, Nat.reduceSub, Nat.reduceMul, Int.reduceEq, Int.reduceLT, Int.reduceLE, Int.reduceNeg, Int.reduceToNat, List.reduceReplicate, Int.ofNat_le, List.getElem?_drop]
    exact no fun h => by cases ht.2 h.2
  | true =>
  have hv := ht.1 rfl
  have hpb := hm.2.1.bd
  have sh := hm.1.1.shp
  have hq := hm.2.2.2.2.1
  have hal := hm.2.2.2.1
  simp only [pwA, if_true, if_false, eq_self, nm_eq, reduceCtorEq, ↓reduceIte, Nat.reduceEqDiff, Nat.reduceLeDiff, Nat.reduceBEq, Nat.reduceAdd, Nat.reduceLT, Nat.reduceSub, Nat.reduceMul, Int.reduceEq, Int.reduceLT, Int.reduceLE, Int.reduceNeg, Int.reduceToNat, List.reduceReplicate, Int.ofNat_le, List.getElem?_drop]
  refine defects_ok (by omega) (by omega) sh hq hal hv.2 hv.1 hsp hR hs hA hV fun z hz => ?_
  obtain ⟨g1, g2⟩ := gaps_small (p := p) (n := n) (by omega) (by omega) sh hq hal hv.2 hv.1
  simp only [pwA, if_true, if_false, eq_self, nm_eq, reduceCtorEq, ↓reduceIte, Nat.reduceEqDiff, Nat.reduceLeDiff, Nat.reduceBEq, Nat.reduceAdd, Nat.reduceLT, Nat.reduceSub, Nat.reduceMul, Int.reduceEq, Int.reduceLT, Int.reduceLE, Int.reduceNeg, Int.reduceToNat, List.reduceReplicate, Int.ofNat_le, List.getElem?_drop]
  refine Concat_ok (M := gaps p n As vals O P C) hz (by omega) (by omega) fun z2 hz2 => ?_
  obtain ⟨w2, a2, rfl⟩ := hz2
  simp only [pwA, if_true, if_false, eq_self, nm_eq, reduceCtorEq, ↓reduceIte, Nat.reduceEqDiff, Nat.reduceLeDiff, Nat.reduceBEq, Nat.reduceAdd, Nat.reduceLT, Nat.reduceSub, Nat.reduceMul, Int.reduceEq, Int.reduceLT, Int.reduceLE, Int.reduceNeg, Int.reduceToNat, List.reduceReplicate, Int.ofNat_le, List.getElem?_drop]
  refine isZero_ok rfl (by omega) ?_
  simp only [pwA, if_true, if_false, eq_self, nm_eq, reduceCtorEq, ↓reduceIte, Nat.reduceEqDiff, Nat.reduceLeDiff, Nat.reduceBEq, Nat.reduceAdd, Nat.reduceLT, Nat.reduceSub, Nat.reduceMul, Int.reduceEq, Int.reduceLT, Int.reduceLE, Int.reduceNeg, Int.reduceToNat, List.reduceReplicate, Int.ofNat_le, List.getElem?_drop]
  refine hk1 ?_
  unfold derRes
  rw [if_pos ⟨hm, hv⟩]
  refine Prod.ext ?_ rfl
  exact decide_eq_decide.2 Iff.rfl
theorem l22Derivation_ok (hR : IsPr vO vP vC O P C) (sz : SzP O P C) (hA : FIII vA As) (szA : SzM As) (hV : FII vV vals) (szV : SzL vals) (hk : K (.tup [.bool (derRes O P C p d As vals).1, .int .i64 (derRes O P C p d As vals).2]) σ) :
    PCalls Try.prog 46 [.agg [vO, vP, vC], .agg [.int .i64 p, .int .i64 d, vA], vV] σ K := by
  have h0 := hR.O.one
  have h1 := hR.P.one
  have h2 := hR.C.one
  have h3 := hA.one
  have hV1 := hV.one
  refine PCalls.gh ?_
  generalize hH : (σ.new [vO, vP, vC]).new [.int .i64 p, .int .i64 d, vA] = H
  have hkp : Keep σ H := by rw [← hH]; exact (keep_new σ _).new _
  have hk1 : ∀ {b : Bool} {c : Int}, derRes O P C p d As vals = (b, c) → Gh σ K (.tup [.bool b, .int .i64 c]) H := fun h => Gh.fin0 hkp ⟨trivial, trivial, trivial⟩ (by rw [h] at hk; exact hk)
  have no : ¬ derFit O P C p d As vals → Gh σ K (.tup [.bool false, .int .i64 1]) H := fun h => hk1 (by unfold derRes; rw [if_neg h])
  have gp : H.rd σ.next 0 3 = some [vO, vP, vC] := by rw [← hH]; simp only [pwA, if_true, if_false, eq_self, nm_eq, reduceCtorEq, ↓reduceIte, Nat.reduceEqDiff, Nat.reduceLeDiff, Nat.reduceBEq, Nat.reduceAdd, Nat.reduceLT, Nat.reduceSub, Nat.reduceMul, Int.reduceEq, Int.reduceLT, Int.reduceLE, Int.reduceNeg, Int.reduceToNat, List.reduceReplicate, Int.ofNat_le, List.getElem?_drop]
  have g1 : H.rd (σ.next + 1) 0 3 = some [.int .i64 p, .int .i64 d, vA] := by rw [← hH]; simp only [pwA, if_true, if_false, eq_self, nm_eq, reduceCtorEq, ↓reduceIte, Nat.reduceEqDiff, Nat.reduceLeDiff, Nat.reduceBEq, Nat.reduceAdd, Nat.reduceLT, Nat.reduceSub, Nat.reduceMul, Int.reduceEq, Int.reduceLT, Int.reduceLE, Int.reduceNeg, Int.reduceToNat, List.reduceReplicate, Int.ofNat_le, List.getElem?_drop]
  refine pcalls_of_vp mix Try.func46 cf46 rfl ?_
  dsimp only [if46, qI, eI, nI, qD, eD]
  simp only [pwA, if_true, if_false, eq_self, nm_eq, reduceCtorEq, ↓reduceIte, Nat.reduceEqDiff, Nat.reduceLeDiff, Nat.reduceBEq, Nat.reduceAdd, Nat.reduceLT, Nat.reduceSub, Nat.reduceMul, Int.reduceEq, Int.reduceLT, Int.reduceLE, Int.reduceNeg, Int.reduceToNat, List.reduceReplicate, Int.ofNat_le, List.getElem?_drop, h0, h1, h2, h3, hV1, hH, gp, g1]
  refine l21Module_ok hR sz hA szA fun t ht => ?_
  cases t with
  | false =>
    simp only [pwA, if_true, if_false, eq_self, nm_eq, reduceCtorEq, ↓reduceIte, Nat.reduceEqDiff, Nat.reduceLeDiff, Nat.reduceBEq, Nat.reduceAdd, Nat.reduceLT, Nat.reduceSub, Nat.reduceMul, Int.reduceEq, Int.reduceLT, Int.reduceLE, Int.reduceNeg, Int.reduceToNat, List.reduceReplicate, Int.ofNat_le, List.getElem?_drop, hH]
    exact no fun h => by cases ht.2 h.1
  | true =>
  have hm := ht.1 rfl
  obtain ⟨n, hn⟩ : ∃ n : Nat, d = (n : Int) := ⟨d.toNat, by have := hm.2.2.1; omega⟩
  subst hn
  have b1 := hm.2.2.1
  simp only [pwA, if_true, if_false, eq_self, nm_eq, reduceCtorEq, ↓reduceIte, Nat.reduceEqDiff, Nat.reduceLeDiff, Nat.reduceBEq, Nat.reduceAdd, Nat.reduceLT, Nat.reduceSub, Nat.reduceMul, Int.reduceEq, Int.reduceLT, Int.reduceLE, Int.reduceNeg, Int.reduceToNat, List.reduceReplicate, Int.ofNat_le, List.getElem?_drop, hH, gp, g1]
  refine l22Values_ok hm.2.1 (by omega) szV h1 h2 hR.O h3 hV fun t ht => ?_
  cases t with
  | false =>
    simp only [pwA, if_true, if_false, eq_self, nm_eq, reduceCtorEq, ↓reduceIte, Nat.reduceEqDiff, Nat.reduceLeDiff, Nat.reduceBEq, Nat.reduceAdd, Nat.reduceLT, Nat.reduceSub, Nat.reduceMul, Int.reduceEq, Int.reduceLT, Int.reduceLE, Int.reduceNeg, Int.reduceToNat, List.reduceReplicate, Int.ofNat_le, List.getElem?_drop]
    exact no fun h => by cases ht.2 h.2
  | true =>
  have hv := ht.1 rfl
  have hpb := hm.2.1.bd
  have sh := hm.1.1.shp
  have hq := hm.2.2.2.2.1
  have hal := hm.2.2.2.1
  simp only [pwA, if_true, if_false, eq_self, nm_eq, reduceCtorEq, ↓reduceIte, Nat.reduceEqDiff, Nat.reduceLeDiff, Nat.reduceBEq, Nat.reduceAdd, Nat.reduceLT, Nat.reduceSub, Nat.reduceMul, Int.reduceEq, Int.reduceLT, Int.reduceLE, Int.reduceNeg, Int.reduceToNat, List.reduceReplicate, Int.ofNat_le, List.getElem?_drop, gp, g1]
  refine PCalls.gh ?_
  generalize hH2 : (H.new [vO, vP, vC]).new [.int .i64 p, .int .i64 (n : Int), vA] = H2
  have hkp2 : Keep H H2 := by rw [← hH2]; exact (keep_new H _).new _
  have gp2 : H2.rd H.next 0 3 = some [vO, vP, vC] := by rw [← hH2]; simp only [pwA, if_true, if_false, eq_self, nm_eq, reduceCtorEq, ↓reduceIte, Nat.reduceEqDiff, Nat.reduceLeDiff, Nat.reduceBEq, Nat.reduceAdd, Nat.reduceLT, Nat.reduceSub, Nat.reduceMul, Int.reduceEq, Int.reduceLT, Int.reduceLE, Int.reduceNeg, Int.reduceToNat, List.reduceReplicate, Int.ofNat_le, List.getElem?_drop]
  have g12 : H2.rd (H.next + 1) 0 3 = some [.int .i64 p, .int .i64 n, vA] := by rw [← hH2]; simp only [pwA, if_true, if_false, eq_self, nm_eq, reduceCtorEq, ↓reduceIte, Nat.reduceEqDiff, Nat.reduceLeDiff, Nat.reduceBEq, Nat.reduceAdd, Nat.reduceLT, Nat.reduceSub, Nat.reduceMul, Int.reduceEq, Int.reduceLT, Int.reduceLE, Int.reduceNeg, Int.reduceToNat, List.reduceReplicate, Int.ofNat_le, List.getElem?_drop]
  refine pcalls_of_vp mix Try.func84 cf84 rfl ?_
  dsimp only [if84, qI, eI, nI, qD, eD]
  simp only [pwA, if_true, if_false, eq_self, nm_eq, reduceCtorEq, ↓reduceIte, Nat.reduceEqDiff, Nat.reduceLeDiff, Nat.reduceBEq, Nat.reduceAdd, Nat.reduceLT, Nat.reduceSub, Nat.reduceMul, Int.reduceEq, Int.reduceLT, Int.reduceLE, Int.reduceNeg, Int.reduceToNat, List.reduceReplicate, Int.ofNat_le, List.getElem?_drop, h0, h1, h2, h3, hV1, hH2, gp2, g12]
  refine l22Gaps_ok (by omega) (by omega) sh hq hal hv.2 hv.1 hR hA hV fun z hz => ?_
  obtain ⟨g1, g2⟩ := gaps_small (p := p) (n := n) (by omega) (by omega) sh hq hal hv.2 hv.1
  obtain ⟨w2, a2, rfl⟩ := hz
  simp only [pwA, if_true, if_false, eq_self, nm_eq, reduceCtorEq, ↓reduceIte, Nat.reduceEqDiff, Nat.reduceLeDiff, Nat.reduceBEq, Nat.reduceAdd, Nat.reduceLT, Nat.reduceSub, Nat.reduceMul, Int.reduceEq, Int.reduceLT, Int.reduceLE, Int.reduceNeg, Int.reduceToNat, List.reduceReplicate, Int.ofNat_le, List.getElem?_drop]
  have hfl : (gapL p n As vals O P C O.length).flatten.length ≤ 1000 := by
    rw [flat_len (n := n) fun r hr => ?_]
    · have h1 := gapL_len (p := p) (n := n) (As := As) (vals := vals) (P := P) (C := C) sh.le (Nat.le_refl O.length)
      have h2 := sh.le
      have h3 : (gapL p n As vals O P C O.length).length ≤ 36 := by omega
      have := Nat.mul_le_mul h3 (by omega : n ≤ 3)
      omega
    · obtain ⟨q, hq', rfl⟩ := List.mem_map.1 ((gap_mem sh).1 hr)
      exact (gapOf_ve (by omega) sh hq hal hv.2 hv.1 hq').len
  refine l01Zero_ok rfl (by omega) ?_
  simp only [pwA, if_true, if_false, eq_self, nm_eq, reduceCtorEq, ↓reduceIte, Nat.reduceEqDiff, Nat.reduceLeDiff, Nat.reduceBEq, Nat.reduceAdd, Nat.reduceLT, Nat.reduceSub, Nat.reduceMul, Int.reduceEq, Int.reduceLT, Int.reduceLE, Int.reduceNeg, Int.reduceToNat, List.reduceReplicate, Int.ofNat_le, List.getElem?_drop]
  refine Gh.fin0 hkp2 trivial ?_
  trace_state
  refine hk1 ?_
  unfold derRes
  rw [if_pos ⟨hm, hv⟩]
  refine Prod.ext ?_ rfl
  exact decide_eq_decide.2 (gap_zero sh).symm
end Go.Proofs
namespace Go.Proofs
open Go.Ab
/-- loop.example/g01076/laws.FnExactIsDerivation -/
def if9 : IFn := ⟨[0, 1, 2], [(.tmp 6)], (.seq (.region [2, 3, 4] [eI 3 (.box (.t 0)), eI 4 (.box (.t 1)), qI 6 (.mv (.c (.bool false)))])
  (.seq (.region [2, 3, 4, 7] [qI 7 (.mv (.c (.int .i64 1048576)))])
  (.seq (.region [2, 3, 4, 7] [qI 15 (.load true 3 (.t 3)), qI 16 (.mv (.t 7)), eI 17 (.call 12 [(.t 15), (.t 16)]), qI 7 (.mv (.t 17))])
  (.seq (.seq (.region [2, 3, 4, 7, 19] [qI 18 (.mv (.t 7)), qI 19 (.bin .lss .other (.t 18) (.c (.int .i64 0)))])
  (.cond (.t 19) (.seq (.region [6] [qI 6 (.mv (.c (.bool true)))])
  .ret) .skip))
  (.seq (.region [2, 3, 4, 7] [qI 20 (.load true 3 (.t 4)), qI 21 (.mv (.t 7)), eI 22 (.call 13 [(.t 20), (.t 21)]), qI 7 (.mv (.t 22))])
  (.seq (.seq (.region [2, 3, 4, 7, 24] [qI 23 (.mv (.t 7)), qI 24 (.bin .lss .other (.t 23) (.c (.int .i64 0)))])
  (.cond (.t 24) (.seq (.region [6] [qI 6 (.mv (.c (.bool true)))])
  .ret) .skip))
  (.seq (.region [2, 3, 4, 7] [qI 25 (.mv (.t 2)), qI 26 (.mv (.t 7)), eI 27 (.call 45 [(.t 25), (.t 26)]), qI 7 (.mv (.t 27))])
  (.seq (.seq (.region [2, 3, 4, 29] [qI 28 (.mv (.t 7)), qI 29 (.bin .lss .other (.t 28) (.c (.int .i64 0)))])
  (.cond (.t 29) (.seq (.region [6] [qI 6 (.mv (.c (.bool true)))])
  .ret) .skip))
  (.seq (.draw [2, 3, 4, 8, 9] [] [qD 31 (.load true 3 (.t 3)) 0, qD 33 (.load true 3 (.t 4)) 2, qD 35 (.mv (.t 2)) 4, eD 32 (.call 15 [(.t 31)]) 1 [2], eD 34 (.call 16 [(.t 33)]) 3 [], eD 36 (.call 47 [(.t 35)]) 5 [], eD 37 (.call 46 [(.t 32), (.t 34), (.t 36)]) 6 [], qD 30 (.mv (.t 37)) 7, qD 38 (.extract (.t 30) 0) 8, qD 39 (.extract (.t 30) 1) 9, qD 8 (.mv (.t 38)) 10, qD 9 (.mv (.t 39)) 11])
  (.seq (.region [2, 3, 4, 8, 9, 10] [qI 40 (.load true 3 (.t 3)), eI 41 (.call 15 [(.t 40)]), eI 10 (.alloc [.nils, .nils, .nils]), nI (.store 3 (.t 10) (.t 41))])
  (.seq (.region [2, 3, 4, 8, 9, 10, 11] [qI 42 (.load true 3 (.t 4)), eI 43 (.call 16 [(.t 42)]), eI 11 (.alloc [(.int .i64 0), (.int .i64 0), .nils]), nI (.store 3 (.t 11) (.t 43))])
  (.seq (.region [2, 3, 4, 8, 9, 10, 11, 12] [qI 44 (.mv (.t 2)), eI 45 (.call 47 [(.t 44)]), qI 12 (.mv (.t 45))])
  (.seq (.region [2, 3, 4, 8, 9, 10, 11, 12, 13, 14] [qI 47 (.load true 3 (.t 10)), qI 48 (.load true 3 (.t 11)), qI 49 (.mv (.t 12)), eI 50 (.call 48 [(.t 47), (.t 48), (.t 49)]), qI 46 (.mv (.t 50)), qI 51 (.extract (.t 46) 0), qI 52 (.extract (.t 46) 1), qI 13 (.mv (.t 51)), qI 14 (.mv (.t 52))])
  (.seq (.seq (.region [2, 3, 4, 10, 11, 12, 60] [qI 53 (.mv (.t 13)), qI 54 (.mv (.t 8)), qI 55 (.bin .neq .bool (.t 53) (.t 54)), qI 56 (.mv (.t 55)), ⟨(some 57), .mv (.t 14), true, (some (56, false))⟩, ⟨(some 58), .mv (.t 9), true, (some (56, false))⟩, ⟨(some 59), .bin .neq .other (.t 57) (.t 58), true, (some (56, false))⟩, qI 60 (.pick (.t 56) (.c (.bool true)) (.t 59))])
  (.cond (.t 60) (.seq (.region [6] [qI 6 (.mv (.c (.bool false)))])
  .ret) .skip))
  (.seq (.seq (.draw [2, 4, 11, 12, 65] [] [qD 61 (.load true 3 (.t 10)) 0, qD 62 (.load true 3 (.t 3)) 1, eD 63 (.call 15 [(.t 62)]) 2 [0], eD 64 (.call 18 [(.t 61), (.t 63)]) 3 [], qD 65 (.un .not (.t 64)) 4])
  (.cond (.t 65) (.seq (.region [6] [qI 6 (.mv (.c (.bool false)))])
  .ret) .skip))
  (.seq (.seq (.draw [2, 12, 70] [] [qD 66 (.load true 3 (.t 11)) 0, qD 67 (.load true 3 (.t 4)) 1, eD 68 (.call 16 [(.t 67)]) 2 [0], eD 69 (.call 19 [(.t 66), (.t 68)]) 3 [], qD 70 (.un .not (.t 69)) 4])
  (.cond (.t 70) (.seq (.region [6] [qI 6 (.mv (.c (.bool false)))])
  .ret) .skip))
  (.seq (.seq (.region [75] [qI 71 (.mv (.t 12)), qI 72 (.mv (.t 2)), eI 73 (.call 47 [(.t 72)]), eI 74 (.call 42 [(.t 71), (.t 73)]), qI 75 (.un .not (.t 74))])
  (.cond (.t 75) (.seq (.region [6] [qI 6 (.mv (.c (.bool false)))])
  .ret) .skip))
  (.seq (.region [6] [qI 6 (.mv (.c (.bool true)))])
  .ret))))))))))))))))))⟩
theorem cf9 : cF Try.prog Try.f9 = some if9 := by kernel_rfl
end Go.Proofs
