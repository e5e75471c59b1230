/- Presentations, modules and matrices that a law writes over, and looks at again. -/
import Derived.Test.YtpkibanhkjboeaaDP32
import Derived.Test.YtpkibanhkjboeaaDAbPq
import Derived.Test.YtpkibanhkjboeaaDP27
import Derived.Test.YtpkibanhkjboeaaDAbPn
import Derived.Test.YtpkibanhkjboeaaDP31
set_option linter.unusedSimpArgs false
set_option linter.unusedVariables false
namespace Go.Proofs
open Go.Ab Go.Lie Go.Grp Go.Mx
variable {σ : PHeap} {K : PV → PHeap → Prop} {p d : Int} {n na : Nat} {v w x xs ys : List Int} {A B M vals : List (List Int)} {As : List (List (List Int))} {vA vB vM vv vx vw vV v0 : PV} {O : List Int} {P : List (List Int)} {C : List (List (List Int))} {vO vP vC : PV} {s sp : Nat}
/-- What both sides return: a value and a code. -/
structure ResR {α : Type} (r : α × Int) (z : α) (c : Int) : Prop where
  eq : (z, c) = r
theorem ResR.unique {α : Type} {r : α × Int} {z z' : α} {c c' : Int} (h : ResR r z c) (h' : ResR r z' c') : z = z' ∧ c = c' := by
  have := h.eq.trans h'.eq.symm
  simp only [Prod.mk.injEq] at this
  exact this
end Go.Proofs
set_option linter.unusedSimpArgs false
set_option linter.unusedVariables false
namespace Go.Proofs
open Go.Ab Go.Lie Go.Grp Go.Mx
variable {σ : PHeap} {K : PV → PHeap → Prop} {p d : Int} {n na : Nat} {v w x xs ys : List Int} {A B M vals : List (List Int)} {As : List (List (List Int))} {vA vB vM vv vx vw vV v0 : PV} {O : List Int} {P : List (List Int)} {C : List (List (List Int))} {vO vP vC : PV} {s sp : Nat}
theorem defects_T (hp : 2 ≤ p ∧ p ≤ 7) (hn : n ≤ 3) (sh : Shp O P C) (hq : SqL p n As) (hal : As.length = O.length) (hvs : Ma p n vals) (hvl : vals.length = O.length) (hsp : PtrG σ sp vO vP vC) (hR : IsPr vO vP vC O P C) (hs : PtrR σ s p (.int .i64 n) vA) (hvA : FIII vA As) (hvV : FII vV vals)
    (hk : ∀ z t, FII z (gaps p n As vals O P C) → Own σ.top t z → σ.top ≤ t → K z (σ.up t)) : PCalls Try.prog 88 [.ptr sp 0, .ptr s 0, vV] σ K := by
  have hn6 := sh.le
  have hvV1 := hvV.one
  have hsl := hs.lt
  have e0 : σ.rd1 s 0 = some (.int .i64 p) := by rw [obj_rd1 hs.obj]; rfl
  refine PCalls.pwf fun wf => PCalls.gh ?_
  refine pcalls_of_vp mix Try.func88 cf88 rfl ?_
  dsimp only [if88, qI, eI, nI, qD, eD]
  simp only [pwA, if_true, if_false, eq_self, nm_eq, reduceCtorEq, ↓reduceIte, Nat.reduceEqDiff, Nat.reduceLeDiff, Nat.reduceBEq, Nat.reduceAdd, Nat.reduceLT, Nat.reduceSub, Nat.reduceMul, Int.reduceEq, Int.reduceLT, Int.reduceLE, Int.reduceNeg, Int.reduceToNat, List.reduceReplicate, Int.ofNat_le, List.getElem?_drop]
  refine relationSides_ok sh hsp hR fun vL hvL => ?_
  obtain ⟨aL, rows0, rfl, hrows⟩ := hvL
  have hrell : (relL O P C).length ≤ 48 := by
    have := relA_len sh (i := O.length) (Nat.le_refl _)
    have e : relA O P C O.length = relL O P C := rfl
    rw [e] at this; omega
  have hrin : ∀ r ∈ relL O P C, _ := fun r hr => rel_in sh hr
  have hgl : (gaps p n As vals O P C).length = (relL O P C).length := by simp [gaps]
  unfold gaps at hk hgl
  generalize hrel : relL O P C = rel at *
  simp only [pwA, if_true, if_false, eq_self, nm_eq, reduceCtorEq, ↓reduceIte, Nat.reduceEqDiff, Nat.reduceLeDiff, Nat.reduceBEq, Nat.reduceAdd, Nat.reduceLT, Nat.reduceSub, Nat.reduceMul, Int.reduceEq, Int.reduceLT, Int.reduceLE, Int.reduceNeg, Int.reduceToNat, List.reduceReplicate, Int.ofNat_le, List.getElem?_drop]
  refine vp_loop (fun m us h' => ∃ (k : Nat) (vX : PV) (rows : List PV), k ≤ rel.length ∧ m = rel.length - k ∧ us = [.ptr s 0, vV, vX, .fz true aL rel.length (fl2 rows0), .int .i64 rel.length, .int .i64 k] ∧ Keep σ h' ∧ PAcc σ.next 1 h' vX k rows ∧ SlRows h' σ.next vX rows ((rel.take k).map fun r => vadd p (-1) (foldW (vs p n As vals) r.1 (List.replicate n 0)) (foldW (vs p n As vals) r.2 (List.replicate n 0)))) rel.length ?_ ?_
  · exact ⟨0, _, [], by omega, by omega, rfl, Keep.refl σ, PAcc.nil _ _ _, SlRows.nil _ _ _⟩
  rintro m us h' ⟨k, vX, rows, hk', rfl, rfl, hkp, ha, hall⟩
  simp only [pwA, if_true, if_false, eq_self, nm_eq, reduceCtorEq, ↓reduceIte, Nat.reduceEqDiff, Nat.reduceLeDiff, Nat.reduceBEq, Nat.reduceAdd, Nat.reduceLT, Nat.reduceSub, Nat.reduceMul, Int.reduceEq, Int.reduceLT, Int.reduceLE, Int.reduceNeg, Int.reduceToNat, List.reduceReplicate, Int.ofNat_le, List.getElem?_drop]
  refine iteI (fun hlk => ?_) fun hgk => ?_
  rotate_left
  · have hke : k = rel.length := by omega
    subst hke
    rw [List.take_length] at hall
    exact Gh.finRows wf rows _ (fr := []) (M1 := []) hkp ha (All2.nil _) (Owns.nil _ _) hall fun v t h1 h2 h3 => hk v t (by simpa using h1) h2 h3
  have hkr : k < rows0.length := by rw [hrows.1]; exact hlk
  have hget := fl2_get hkr
  have hpair := hrows.2 k _ _ (List.getElem?_eq_getElem hkr) (List.getElem?_eq_getElem hlk)
  obtain ⟨i1, i2, i3, i4⟩ := hrin rel[k] (List.getElem_mem hlk)
  have hk2 : 2 ≤ (fl2 rows0).length - k * 2 := by have := fl2_length rows0; omega
  obtain ⟨q1, q2⟩ := hpair
  have hs3 := (hs.keep hkp).new [rows0[k].1, rows0[k].2]
  have hve : ∀ w : List Int, (∀ l ∈ w, 1 ≤ l ∧ l ≤ (O.length : Int)) → Ve p n (foldW (vs p n As vals) w (List.replicate n 0)) := fun w hw => fold_in (S := Ve p n) (f := vs p n As vals) (n := As.length) (fun a i hi ha => vs_in (by omega) hq hvs (by omega) hi ha) w (fun l hl => by have := hw l hl; omega) (ve_zeros (by omega))
  have z1 := hve _ i1
  have z2 := hve _ i2
  simp only [pwA, if_true, if_false, eq_self, nm_eq, reduceCtorEq, ↓reduceIte, Nat.reduceEqDiff, Nat.reduceLeDiff, Nat.reduceBEq, Nat.reduceAdd, Nat.reduceLT, Nat.reduceSub, Nat.reduceMul, Int.reduceEq, Int.reduceLT, Int.reduceLE, Int.reduceNeg, Int.reduceToNat, List.reduceReplicate, Int.ofNat_le, List.getElem?_drop, hlk, hget, hk2, q1.one, q2.one, q1.cells, q2.cells, List.length_drop]
  refine valueOf_ok hp hn hq (by omega) hvs (by omega) (w := rel[k].1) (fun l hl => by have := i1 l hl; omega) (by omega) hs3 hvA hvV q1 fun cap hcap => ?_
  have hnx : ¬ h'.next = (h'.new [rows0[k].1, rows0[k].2]).next := by show ¬ h'.next = h'.next + 1; omega
  have hsn : ¬ s = h'.next + 1 := by have := hkp.next; omega
  have hsn2 : ¬ s = h'.next := by have := hkp.next; omega
  have e0' : h'.rd1 s 0 = some (.int .i64 p) := by rw [obj_rd1 (hs.keep hkp).obj]; rfl
  simp only [pwA, if_true, if_false, eq_self, nm_eq, reduceCtorEq, ↓reduceIte, Nat.reduceEqDiff, Nat.reduceLeDiff, Nat.reduceBEq, Nat.reduceAdd, Nat.reduceLT, Nat.reduceSub, Nat.reduceMul, Int.reduceEq, Int.reduceLT, Int.reduceLE, Int.reduceNeg, Int.reduceToNat, List.reduceReplicate, Int.ofNat_le, List.getElem?_drop, q1.one, q2.one, hsn, hsn2, e0']
  refine valueOf_fz hp hn hq (by omega) hvs (by omega) (w := rel[k].2) (fun l hl => by have := i2 l hl; omega) (by omega) (hs3.new _) hvA hvV q2 fun z hz => ?_
  generalize hX : foldW (vs p n As vals) rel[k].1 (List.replicate n 0) = X at *
  generalize hY : foldW (vs p n As vals) rel[k].2 (List.replicate n 0) = Y at *
  obtain ⟨wz, az, rfl⟩ := hz
  have z1l := z1.len
  have z2l := z2.len
  simp only [pwA, if_true, if_false, eq_self, nm_eq, reduceCtorEq, ↓reduceIte, Nat.reduceEqDiff, Nat.reduceLeDiff, Nat.reduceBEq, Nat.reduceAdd, Nat.reduceLT, Nat.reduceSub, Nat.reduceMul, Int.reduceEq, Int.reduceLT, Int.reduceLE, Int.reduceNeg, Int.reduceToNat, List.reduceReplicate, Int.ofNat_le, List.getElem?_drop, hsn, hsn2, e0']
  refine addMultiple_ok (xs := X) (by omega) (by simp only [pwA, if_true, if_false, eq_self, nm_eq, reduceCtorEq, ↓reduceIte, Nat.reduceEqDiff, Nat.reduceLeDiff, Nat.reduceBEq, Nat.reduceAdd, Nat.reduceLT, Nat.reduceSub, Nat.reduceMul, Int.reduceEq, Int.reduceLT, Int.reduceLE, Int.reduceNeg, Int.reduceToNat, List.reduceReplicate, Int.ofNat_le, List.getElem?_drop]) z1l.symm rfl (by omega) (by omega) (fun t g1 g2 => ?_) ?_
  · have c1 := z2.bd t
    have c2 := z1.bd t
    rw [at_eq g2] at c1
    rw [at_eq g1] at c2
    unfold sm2
    omega
  have hvl2 : (vstep p (-1) Y X).length = n := by rw [vstep_length (by omega)]; exact z1l
  simp only [pwA, if_true, if_false, eq_self, nm_eq, reduceCtorEq, ↓reduceIte, Nat.reduceEqDiff, Nat.reduceLeDiff, Nat.reduceBEq, Nat.reduceAdd, Nat.reduceLT, Nat.reduceSub, Nat.reduceMul, Int.reduceEq, Int.reduceLT, Int.reduceLE, Int.reduceNeg, Int.reduceToNat, List.reduceReplicate, Int.ofNat_le, List.getElem?_drop]
  refine PAcc.pushS (σb := σ) (bytes := 24) ((hkp.new _).new _) (ha.keep ((keep_new h' _).new _)) rfl (by omega) (by omega) fun v' h2 k2 a2 o2 n2 l2 => ?_
  have hrow2 : h2.obj (h'.next + 1) = some (pis (vstep p (-1) Y X)) := by
    rw [o2 _ (by show h'.next + 1 < h'.next + 2; omega) (ha.ne (by omega))]
    simp only [pwA, if_true, if_false, eq_self, nm_eq, reduceCtorEq, ↓reduceIte, Nat.reduceEqDiff, Nat.reduceLeDiff, Nat.reduceBEq, Nat.reduceAdd, Nat.reduceLT, Nat.reduceSub, Nat.reduceMul, Int.reduceEq, Int.reduceLT, Int.reduceLE, Int.reduceNeg, Int.reduceToNat, List.reduceReplicate, Int.ofNat_le, List.getElem?_drop]
  simp only [pwA, if_true, if_false, eq_self, nm_eq, reduceCtorEq, ↓reduceIte, Nat.reduceEqDiff, Nat.reduceLeDiff, Nat.reduceBEq, Nat.reduceAdd, Nat.reduceLT, Nat.reduceSub, Nat.reduceMul, Int.reduceEq, Int.reduceLT, Int.reduceLE, Int.reduceNeg, Int.reduceToNat, List.reduceReplicate, Int.ofNat_le, List.getElem?_drop, wrapS hlk (by omega : rel.length ≤ 4611686018427387904)]
  refine ⟨_, by omega, k + 1, v', rows ++ [.sl (h'.next + 1) 0 n cap], by omega, rfl, rfl, k2, a2.acc, ?_⟩
  have hnx2 : ((h'.new [rows0[k].1, rows0[k].2]).new (pis (vstep p (-1) Y X))).next = h'.next + 2 := rfl
  have r2 := (hall.keep (((Keep.refl h').new [rows0[k].1, rows0[k].2]).new (pis (vstep p (-1) Y X)))).mono (σ' := h2) (v' := v') (by rw [hnx2] at l2 ⊢; omega) o2 n2
  rw [hnx2] at l2
  rw [List.take_succ_eq_append_getElem hlk, List.map_append]
  have e9 : vadd p (-1) (foldW (vs p n As vals) rel[k].1 (List.replicate n 0)) (foldW (vs p n As vals) rel[k].2 (List.replicate n 0)) = vstep p (-1) Y X := by rw [hX, hY]; rfl
  refine r2.snoc (m := h'.next + 1) ?_ (fun d hd => Nat.lt_succ_of_lt (hall.lt d hd)) (Nat.le_refl _)
  show SlRow h2 σ.next v' (.sl (h'.next + 1) 0 n cap) (vadd p (-1) (foldW (vs p n As vals) rel[k].1 (List.replicate n 0)) (foldW (vs p n As vals) rel[k].2 (List.replicate n 0)))
  rw [e9]
  exact ⟨h'.next + 1, cap, by rw [hvl2], by rw [hvl2]; exact hcap, hrow2, by have := hkp.next; omega, by omega, n2 _ (by show h'.next + 1 < h'.next + 2; omega)⟩
end Go.Proofs
set_option linter.unusedSimpArgs false
set_option linter.unusedVariables false
namespace Go.Proofs
open Go.Ab Go.Lie Go.Grp Go.Mx
variable {σ : PHeap} {K : PV → PHeap → Prop} {p d : Int} {n na : Nat} {v w x xs ys : List Int} {A B M vals : List (List Int)} {As : List (List (List Int))} {vA vB vM vv vx vw vV v0 : PV} {O : List Int} {P : List (List Int)} {C : List (List (List Int))} {vO vP vC : PV} {s sp : Nat}
theorem l23Delta_ok (hp : 2 ≤ p ∧ p ≤ 7) (hn : n ≤ 3) (sh : Shp O P C) (hq : SqL p n As) (hal : As.length = O.length) (hvs : Ma p n vals) (hvl : vals.length = O.length) (hR : IsPr vO vP vC O P C) (hvA : FIII vA As) (hvV : FII vV vals)
    (hk : ∀ z, FII z (gaps p n As vals O P C) → K z σ) : PCalls Try.prog 89 [.agg [vO, vP, vC], .agg [.int .i64 p, .int .i64 n, vA], vV] σ K := by
  have hn6 := sh.le
  have hvA0 := hvA
  have hA1 := hvA.one
  have hV1 := hvV.one
  obtain ⟨⟨w0, a0, rfl⟩, ⟨w1, a1, rP, rfl, hP⟩, ⟨w3, a3, rC, rfl, hC⟩⟩ := hR
  refine PCalls.gh ?_
  generalize hH : (σ.new [.fz w0 a0 O.length (pis O), .fz w1 a1 P.length rP, .fz w3 a3 C.length rC]).new [.int .i64 p, .int .i64 n, vA] = H
  have hHn : H.next = σ.next + 2 := by rw [← hH]; rfl
  have hHk : Keep σ H := by rw [← hH]; exact (keep_new σ _).new _
  have hob : H.obj σ.next = some [.fz w0 a0 O.length (pis O), .fz w1 a1 P.length rP, .fz w3 a3 C.length rC] := by rw [← hH]; simp only [pwA, if_true, if_false, eq_self, nm_eq, reduceCtorEq, ↓reduceIte, Nat.reduceEqDiff, Nat.reduceLeDiff, Nat.reduceBEq, Nat.reduceAdd, Nat.reduceLT, Nat.reduceSub, Nat.reduceMul, Int.reduceEq, Int.reduceLT, Int.reduceLE, Int.reduceNeg, Int.reduceToNat, List.reduceReplicate, Int.ofNat_le, List.getElem?_drop]
  have hob2 : H.obj (σ.next + 1) = some [.int .i64 p, .int .i64 n, vA] := by rw [← hH]; simp only [pwA, if_true, if_false, eq_self, nm_eq, reduceCtorEq, ↓reduceIte, Nat.reduceEqDiff, Nat.reduceLeDiff, Nat.reduceBEq, Nat.reduceAdd, Nat.reduceLT, Nat.reduceSub, Nat.reduceMul, Int.reduceEq, Int.reduceLT, Int.reduceLE, Int.reduceNeg, Int.reduceToNat, List.reduceReplicate, Int.ofNat_le, List.getElem?_drop]
  have g1' : H.rd1 (σ.next + 1) 1 = some (.int .i64 n) := by rw [obj_rd1 hob2]; rfl
  have g0' : H.rd1 σ.next 0 = some (.fz w0 a0 O.length (pis O)) := by rw [obj_rd1 hob]; rfl
  refine pcalls_of_vp mix Try.func89 cf89 rfl ?_
  dsimp only [if89, qI, eI, nI, qD, eD]
  simp only [pwA, if_true, if_false, eq_self, nm_eq, reduceCtorEq, ↓reduceIte, Nat.reduceEqDiff, Nat.reduceLeDiff, Nat.reduceBEq, Nat.reduceAdd, Nat.reduceLT, Nat.reduceSub, Nat.reduceMul, Int.reduceEq, Int.reduceLT, Int.reduceLE, Int.reduceNeg, Int.reduceToNat, List.reduceReplicate, Int.ofNat_le, List.getElem?_drop, hA1]
  rw [hH]
  simp only [pwA, if_true, if_false, eq_self, nm_eq, reduceCtorEq, ↓reduceIte, Nat.reduceEqDiff, Nat.reduceLeDiff, Nat.reduceBEq, Nat.reduceAdd, Nat.reduceLT, Nat.reduceSub, Nat.reduceMul, Int.reduceEq, Int.reduceLT, Int.reduceLE, Int.reduceNeg, Int.reduceToNat, List.reduceReplicate, Int.ofNat_le, List.getElem?_drop, g1', g0', List.length_replicate, pis_rep, mk8 (n := n) (by omega), mkL (n := n) (by omega)]
  refine vp_loopG (fun m us h' => ∃ (i : Nat) (vZ vX : PV) (rows : List PV), i ≤ O.length ∧ m = O.length - i ∧ us = [vV, .ptr σ.next 0, .ptr (σ.next + 1) 0, .int .i64 O.length, vZ, vX, .int .i64 i] ∧ Keep H h' ∧ FI vZ (List.replicate n 0) ∧ PSl H.next 1 h' vX i rows ∧ All2 FI rows (((List.range i).map (powR O P)).map (gapOf p n As vals))) O.length ?_ ?_
  · have hz2 : ∀ c : List PV, (H.new c).next = σ.next + 3 := fun c => by show H.next + 1 = _; omega
    have ho2 : ((H.new (pis (List.replicate n 0))).new []).obj (σ.next + 2) = some (pis (List.replicate n 0)) := by
      rw [pobj_new, hz2, if_neg (by omega), pobj_new, hHn, if_pos rfl]
    have ho3 : ((H.new (pis (List.replicate n 0))).new []).obj (σ.next + 3) = some [] := by
      rw [pobj_new, hz2, if_pos rfl]
    refine .fz (σ.next + 2) (pis (List.replicate n 0)) ho2 (pis_bel _ _) fun o => .here ⟨0, .fz true (.sl o 0 n (.known n)) n (pis (List.replicate n 0)), .sl (σ.next + 3) 0 0 (.known 0), [], by omega, by omega, ?_, ?_, ⟨true, _, by rw [List.length_replicate]⟩, ?_, All2.nil _⟩
    · have hcap : capOK (.known n) n = true := by simp [capOK]
      have hne : ¬ σ.next + 3 = σ.next + 2 := by omega
      show sbs (σ.next + 2) o (pis (List.replicate n 0)) [vV, .ptr σ.next 0, .ptr (σ.next + 1) 0, .int .i64 O.length, .sl (σ.next + 2) 0 n (.known n), .sl (σ.next + 3) 0 0 (.known 0), .int .i64 0] = _
      simp only [sbs, sb, hcap, hne, and_self, false_and, if_true, if_false, hvV.sb]
      rfl
    · exact ((((Keep.refl H).new _).new _).kill (by omega))
    · refine PSl.own (.inr rfl) ?_ (by rfl) (by omega) ?_
      · rw [pobj_kill, if_neg (by omega)]; exact ho3
      · show σ.next + 3 < H.next + 2
        omega
  rintro m us h' ⟨i, vZ, vX, rows, hi, rfl, rfl, hkp, hZ, hX, hall⟩
  have q0 : h'.rd1 σ.next 0 = some (.fz w0 a0 O.length (pis O)) := by rw [obj_rd1 ((hkp.obj _ (by omega)).trans hob)]; rfl
  have q1 : h'.rd1 σ.next 1 = some (.fz w1 a1 P.length rP) := by rw [obj_rd1 ((hkp.obj _ (by omega)).trans hob)]; rfl
  have q3 : h'.rd1 (σ.next + 1) 0 = some (.int .i64 p) := by rw [obj_rd1 ((hkp.obj _ (by omega)).trans hob2)]; rfl
  have q4 : h'.rd (σ.next + 1) 0 3 = some [.int .i64 p, .int .i64 n, vA] := by rw [obj_rd ((hkp.obj _ (by omega)).trans hob2)]; rfl
  have hz0 := ve_zeros (p := p) (n := n) (by omega)
  have ew : IntKind.i64.wrap (p - 1) = p - 1 := wrap64 (by omega) (by omega)
  simp only [pwA, if_true, if_false, eq_self, nm_eq, reduceCtorEq, ↓reduceIte, Nat.reduceEqDiff, Nat.reduceLeDiff, Nat.reduceBEq, Nat.reduceAdd, Nat.reduceLT, Nat.reduceSub, Nat.reduceMul, Int.reduceEq, Int.reduceLT, Int.reduceLE, Int.reduceNeg, Int.reduceToNat, List.reduceReplicate, Int.ofNat_le, List.getElem?_drop]
  refine iteI (fun hlt => ?_) fun hge => ?_
  · have bO := sh.pr i hlt
    have hnO : ((nx O i : Nat) : Int) = O[i] := by unfold nx; rw [Int.toNat_of_nonneg (by omega), at_eq hlt]
    have hnO7 : nx O i ≤ 7 := by unfold nx; omega
    have hiA : i < As.length := by omega
    simp only [pwA, if_true, if_false, eq_self, nm_eq, reduceCtorEq, ↓reduceIte, Nat.reduceEqDiff, Nat.reduceLeDiff, Nat.reduceBEq, Nat.reduceAdd, Nat.reduceLT, Nat.reduceSub, Nat.reduceMul, Int.reduceEq, Int.reduceLT, Int.reduceLE, Int.reduceNeg, Int.reduceToNat, List.reduceReplicate, Int.ofNat_le, List.getElem?_drop]
    refine vp_loop (fun m us h2 => ∃ (k : Nat) (vL : PV), k ≤ nx O i ∧ m = nx O i - k ∧ us = [vV, .ptr σ.next 0, .ptr (σ.next + 1) 0, .int .i64 O.length, vZ, vX, .int .i64 i, vL, .int .i64 k] ∧ h2 = h' ∧ FI vL (repF (vs p n As vals) i k (List.replicate n 0))) (nx O i) ?_ ?_
    · exact ⟨0, vZ, by omega, by omega, rfl, rfl, hZ⟩
    rintro m us h2 ⟨k, vL, hk', rfl, rfl, rfl, hL⟩
    have hsk := repF_in (S := Ve p n) (f := vs p n As vals) (i := i) (fun a ha => vs_in (by omega) hq hvs (by omega) hiA ha) k hz0
    simp only [pwA, if_true, if_false, eq_self, nm_eq, reduceCtorEq, ↓reduceIte, Nat.reduceEqDiff, Nat.reduceLeDiff, Nat.reduceBEq, Nat.reduceAdd, Nat.reduceLT, Nat.reduceSub, Nat.reduceMul, Int.reduceEq, Int.reduceLT, Int.reduceLE, Int.reduceNeg, Int.reduceToNat, List.reduceReplicate, Int.ofNat_le, List.getElem?_drop, q0, hlt, gi hlt, pis_get, List.getElem?_drop]
    rw [← hnO]
    by_cases hlk : k < nx O i
    · have hlkI : (k : Int) < ((nx O i : Nat) : Int) := by omega
      simp only [pwA, if_true, if_false, eq_self, nm_eq, reduceCtorEq, ↓reduceIte, Nat.reduceEqDiff, Nat.reduceLeDiff, Nat.reduceBEq, Nat.reduceAdd, Nat.reduceLT, Nat.reduceSub, Nat.reduceMul, Int.reduceEq, Int.reduceLT, Int.reduceLE, Int.reduceNeg, Int.reduceToNat, List.reduceReplicate, Int.ofNat_le, List.getElem?_drop, hlkI, q4, hA1, hV1]
      refine l22Step_ok hp hn hq hiA hvs (by omega) hsk hvA0 hvV hL fun z hz => ?_
      simp only [pwA, if_true, if_false, eq_self, nm_eq, reduceCtorEq, ↓reduceIte, Nat.reduceEqDiff, Nat.reduceLeDiff, Nat.reduceBEq, Nat.reduceAdd, Nat.reduceLT, Nat.reduceSub, Nat.reduceMul, Int.reduceEq, Int.reduceLT, Int.reduceLE, Int.reduceNeg, Int.reduceToNat, List.reduceReplicate, Int.ofNat_le, List.getElem?_drop, wrapS hlk (by omega : nx O i ≤ 4611686018427387904)]
      refine ⟨nx O i - (k + 1), by omega, k + 1, z, by omega, rfl, rfl, ?_⟩
      rw [repF_succ]
      exact hz
    have hke : k = nx O i := by omega
    subst hke
    have hlkI : ¬ ((nx O i : Nat) : Int) < ((nx O i : Nat) : Int) := by omega
    have hiP : i < P.length := by rw [sh.pl]; exact hlt
    obtain ⟨w5, a5, hpr⟩ := hP.rowI hiP
    have hpv := sh.pw i hlt
    have gP : P.getD i [] = P[i] := getD_row' hiP
    rw [show pvec P i = P[i] from gP] at hpv
    simp only [pwA, if_true, if_false, eq_self, nm_eq, reduceCtorEq, ↓reduceIte, Nat.reduceEqDiff, Nat.reduceLeDiff, Nat.reduceBEq, Nat.reduceAdd, Nat.reduceLT, Nat.reduceSub, Nat.reduceMul, Int.reduceEq, Int.reduceLT, Int.reduceLE, Int.reduceNeg, Int.reduceToNat, List.reduceReplicate, Int.ofNat_le, List.getElem?_drop, hlkI, q1, q3, q4, hiP, hpr, ew, hA1, hV1, List.getElem?_drop]
    refine l22Behind_ok hp hn hq (by omega) hvs (by omega) (TT.nx7 sh hpv) (by rw [hpv.len]; omega) hz0 hvA0 hvV hZ ⟨w5, a5, rfl⟩ fun z1 hz1 => ?_
    have hbe := expF_in (S := Ve p n) (f := vs p n As vals) (x := P[i]) (n := As.length) (fun a i hi ha => vs_in (by omega) hq hvs (by omega) hi ha) P[i].length (by rw [hpv.len]; omega) hz0
    simp only [pwA, if_true, if_false, eq_self, nm_eq, reduceCtorEq, ↓reduceIte, Nat.reduceEqDiff, Nat.reduceLeDiff, Nat.reduceBEq, Nat.reduceAdd, Nat.reduceLT, Nat.reduceSub, Nat.reduceMul, Int.reduceEq, Int.reduceLT, Int.reduceLE, Int.reduceNeg, Int.reduceToNat, List.reduceReplicate, Int.ofNat_le, List.getElem?_drop, q1, q3, q4, hiP, hpr, ew, hA1, hV1, List.getElem?_drop]
    refine l02Add_ok (n := n) hp (by omega) hsk hbe (by omega) hL hz1 fun z2 hz2 => ?_
    have e1 : gapOf p n As vals (powR O P i) = vadd p (p - 1) (repF (vs p n As vals) i (nx O i) (List.replicate n 0)) (expF (vs p n As vals) P[i] P[i].length (List.replicate n 0)) := by
      obtain ⟨f1, f2⟩ := pow_fold (O := O) (P := P) (vs p n As vals) i (List.replicate n 0)
      unfold gapOf
      rw [f1, f2, gP]
      exact vadd_congr (by omega) hsk.len hbe.len (neg_one_mod p)
    rw [← e1] at hz2
    simp only [pwA, if_true, if_false, eq_self, nm_eq, reduceCtorEq, ↓reduceIte, Nat.reduceEqDiff, Nat.reduceLeDiff, Nat.reduceBEq, Nat.reduceAdd, Nat.reduceLT, Nat.reduceSub, Nat.reduceMul, Int.reduceEq, Int.reduceLT, Int.reduceLE, Int.reduceNeg, Int.reduceToNat, List.reduceReplicate, Int.ofNat_le, List.getElem?_drop, q1, q3, q4, hiP, hpr, ew, hA1, hV1, hz2.one, hz2.cells, List.getElem?_drop]
    refine PSl.push (σb := H) (bytes := 24) hkp hX (by omega) (by omega) fun v3 h3 k3 ac3 => ?_
    simp only [pwA, if_true, if_false, eq_self, nm_eq, reduceCtorEq, ↓reduceIte, Nat.reduceEqDiff, Nat.reduceLeDiff, Nat.reduceBEq, Nat.reduceAdd, Nat.reduceLT, Nat.reduceSub, Nat.reduceMul, Int.reduceEq, Int.reduceLT, Int.reduceLE, Int.reduceNeg, Int.reduceToNat, List.reduceReplicate, Int.ofNat_le, List.getElem?_drop, wrapS hlt (by omega : O.length ≤ 4611686018427387904)]
    refine ⟨O.length - (i + 1), by omega, .here ⟨i + 1, vZ, v3, rows ++ [z2], by omega, rfl, rfl, k3, hZ, ac3, ?_⟩⟩
    rw [List.range_succ, List.map_append, List.map_append]
    exact hall.snoc hz2
  have hie : i = O.length := by omega
  subst hie
  clear q0 q1 q3 q4
  have hlen0 : (List.range O.length).length = O.length := List.length_range
  simp only [pwA, if_true, if_false, eq_self, nm_eq, reduceCtorEq, ↓reduceIte, Nat.reduceEqDiff, Nat.reduceLeDiff, Nat.reduceBEq, Nat.reduceAdd, Nat.reduceLT, Nat.reduceSub, Nat.reduceMul, Int.reduceEq, Int.reduceLT, Int.reduceLE, Int.reduceNeg, Int.reduceToNat, List.reduceReplicate, Int.ofNat_le, List.getElem?_drop]
  have hbnd : ∀ j, j ≤ O.length → (relA O P C j).length ≤ 6 + 6 * j := fun j hj => relA_len sh hj
  refine vp_loop (fun m us h' => ∃ (i : Nat) (vX : PV) (rows : List PV), i ≤ O.length ∧ m = O.length - i ∧ us = [vV, .ptr σ.next 0, .ptr (σ.next + 1) 0, .int .i64 O.length, vZ, vX, .int .i64 i] ∧ Keep H h' ∧ PSl H.next 1 h' vX (relA O P C i).length rows ∧ All2 FI rows ((relA O P C i).map (gapOf p n As vals))) O.length ?_ ?_
  · refine ⟨0, vX, rows, by omega, by omega, rfl, hkp, ?_, ?_⟩
    · simpa [relA] using hX
    · simpa [relA] using hall
  clear hX hall hkp vX rows h' hi hge
  rintro m us h' ⟨i, vX, rows, hi, rfl, rfl, hkp, hX, hall⟩
  simp only [pwA, if_true, if_false, eq_self, nm_eq, reduceCtorEq, ↓reduceIte, Nat.reduceEqDiff, Nat.reduceLeDiff, Nat.reduceBEq, Nat.reduceAdd, Nat.reduceLT, Nat.reduceSub, Nat.reduceMul, Int.reduceEq, Int.reduceLT, Int.reduceLE, Int.reduceNeg, Int.reduceToNat, List.reduceReplicate, Int.ofNat_le, List.getElem?_drop]
  refine iteI (fun hlt => ?_) fun hge => ?_
  rotate_left
  · have hie : i = O.length := by omega
    subst hie
    have e : relA O P C O.length = relL O P C := rfl
    rw [e] at hX hall
    obtain ⟨t, cap, rfl, hc, c2, c3, c4, c5⟩ := hX
    have hgl : (gaps p n As vals O P C).length = (relL O P C).length := by simp [gaps]
    exact Gh.finF (hHk.trans hkp) c2 (by omega) (hall.bI 0) hc.ok fun o => hk _ ⟨true, .sl o 0 (relL O P C).length cap, rows, by rw [hgl], hall⟩
  have hiA : i < As.length := by omega
  have ei1 : IntKind.i64.wrap ((i : Int) + 1) = ((i + (1 + 0) : Nat) : Int) := by rw [wrap64 (by omega) (by omega)]; omega
  have hiC : i < C.length := by rw [sh.cl]; exact hlt
  obtain ⟨w8, a8, rs6, hrb, hrs6⟩ := cvRow sh hC hlt
  have hlr := sh.row i hlt
  simp only [pwA, if_true, if_false, eq_self, nm_eq, reduceCtorEq, ↓reduceIte, Nat.reduceEqDiff, Nat.reduceLeDiff, Nat.reduceBEq, Nat.reduceAdd, Nat.reduceLT, Nat.reduceSub, Nat.reduceMul, Int.reduceEq, Int.reduceLT, Int.reduceLE, Int.reduceNeg, Int.reduceToNat, List.reduceReplicate, Int.ofNat_le, List.getElem?_drop, ei1]
  refine vp_loop (fun m us h' => ∃ (k : Nat) (vX : PV) (rows : List PV), k ≤ O.length - 1 - i ∧ m = O.length - 1 - i - k ∧ us = [vV, .ptr σ.next 0, .ptr (σ.next + 1) 0, .int .i64 O.length, vZ, vX, .int .i64 i, .int .i64 ((i + (1 + k) : Nat) : Int)] ∧ Keep H h' ∧ PSl H.next 1 h' vX (relA O P C i ++ (List.range k).map (conR C i)).length rows ∧ All2 FI rows ((relA O P C i ++ (List.range k).map (conR C i)).map (gapOf p n As vals))) (O.length - 1 - i) ?_ ?_
  · exact ⟨0, vX, rows, by omega, by omega, rfl, hkp, by simpa using hX, by simpa using hall⟩
  clear hX hall hkp vX rows h'
  rintro m us h' ⟨k, vX, rows, hkq, rfl, rfl, hkp, hX, hall⟩
  have q2 : h'.rd1 σ.next 2 = some (.fz w3 a3 C.length rC) := by rw [obj_rd1 ((hkp.obj _ (by omega)).trans hob)]; rfl
  have q3 : h'.rd1 (σ.next + 1) 0 = some (.int .i64 p) := by rw [obj_rd1 ((hkp.obj _ (by omega)).trans hob2)]; rfl
  have q4 : h'.rd (σ.next + 1) 0 3 = some [.int .i64 p, .int .i64 n, vA] := by rw [obj_rd ((hkp.obj _ (by omega)).trans hob2)]; rfl
  by_cases hlk2 : k < O.length - 1 - i
  rotate_left
  · have hcnd : ¬ ((i + (1 + k) : Nat) : Int) < (O.length : Int) := by omega
    have hcnd2 : ¬ i + (1 + k) < O.length := by omega
    have hke : k = O.length - 1 - i := by omega
    subst hke
    have hra : relA O P C i ++ (List.range (O.length - 1 - i)).map (conR C i) = relA O P C (i + 1) := by
      rw [← hlr]; exact (relA_succ i).symm
    rw [hra] at hX hall
    simp only [pwA, if_true, if_false, eq_self, nm_eq, reduceCtorEq, ↓reduceIte, Nat.reduceEqDiff, Nat.reduceLeDiff, Nat.reduceBEq, Nat.reduceAdd, Nat.reduceLT, Nat.reduceSub, Nat.reduceMul, Int.reduceEq, Int.reduceLT, Int.reduceLE, Int.reduceNeg, Int.reduceToNat, List.reduceReplicate, Int.ofNat_le, List.getElem?_drop, hcnd, hcnd2, wrapS hlt (by omega : O.length ≤ 4611686018427387904)]
    exact ⟨O.length - (i + 1), by omega, i + 1, vX, rows, by omega, rfl, rfl, hkp, hX, hall⟩
  have hj : i + (1 + k) < O.length := by omega
  have hjA : i + (1 + k) < As.length := by omega
  obtain ⟨w9, a9, hr8⟩ := hrs6 k hlk2
  have hcv := sh.cj i (i + (1 + k)) (by omega) hj
  have gC : (C.getD i []).getD k [] = cvec C i (i + (1 + k)) := by
    show _ = (C.getD i []).getD (i + (1 + k) - i - 1) []
    rw [show i + (1 + k) - i - 1 = k by omega]
  generalize hc : cvec C i (i + (1 + k)) = c at *
  have e1q : IntKind.i64.wrap (((i + (1 + k) : Nat) : Int) - (i : Int)) = ((1 + k : Nat) : Int) := by rw [wrap64 (by omega) (by omega)]; omega
  have e2q : IntKind.i64.wrap (((1 + k : Nat) : Int) - 1) = (k : Int) := by rw [wrap64 (by omega) (by omega)]; omega
  have e3q : IntKind.i64.wrap (((i + (1 + k) : Nat) : Int) + 1) = ((i + (1 + (k + 1)) : Nat) : Int) := by rw [wrap64 (by omega) (by omega)]; omega
  have hs1 := vs_in (p := p) (by omega) hq hvs (by omega) hjA hz0
  have hs2 := vs_in (p := p) (by omega) hq hvs (by omega) hiA hs1
  have hs3 := vs_in (p := p) (by omega) hq hvs (by omega) hiA hz0
  simp only [pwA, if_true, if_false, eq_self, nm_eq, reduceCtorEq, ↓reduceIte, Nat.reduceEqDiff, Nat.reduceLeDiff, Nat.reduceBEq, Nat.reduceAdd, Nat.reduceLT, Nat.reduceSub, Nat.reduceMul, Int.reduceEq, Int.reduceLT, Int.reduceLE, Int.reduceNeg, Int.reduceToNat, List.reduceReplicate, Int.ofNat_le, List.getElem?_drop, hj, q4, hA1, hV1]
  refine l22Step_ok hp hn hq hjA hvs (by omega) hz0 hvA0 hvV hZ fun z1 hz1 => ?_
  simp only [pwA, if_true, if_false, eq_self, nm_eq, reduceCtorEq, ↓reduceIte, Nat.reduceEqDiff, Nat.reduceLeDiff, Nat.reduceBEq, Nat.reduceAdd, Nat.reduceLT, Nat.reduceSub, Nat.reduceMul, Int.reduceEq, Int.reduceLT, Int.reduceLE, Int.reduceNeg, Int.reduceToNat, List.reduceReplicate, Int.ofNat_le, List.getElem?_drop, q4, hA1, hV1]
  refine l22Step_ok hp hn hq hiA hvs (by omega) hs1 hvA0 hvV hz1 fun z2 hz2 => ?_
  simp only [pwA, if_true, if_false, eq_self, nm_eq, reduceCtorEq, ↓reduceIte, Nat.reduceEqDiff, Nat.reduceLeDiff, Nat.reduceBEq, Nat.reduceAdd, Nat.reduceLT, Nat.reduceSub, Nat.reduceMul, Int.reduceEq, Int.reduceLT, Int.reduceLE, Int.reduceNeg, Int.reduceToNat, List.reduceReplicate, Int.ofNat_le, List.getElem?_drop, q4, q2, hiC, hrb, hr8, hlk2, e1q, e2q, hA1, hV1, List.getElem?_drop]
  refine l22Step_ok hp hn hq hiA hvs (by omega) hz0 hvA0 hvV hZ fun z3 hz3 => ?_
  simp only [pwA, if_true, if_false, eq_self, nm_eq, reduceCtorEq, ↓reduceIte, Nat.reduceEqDiff, Nat.reduceLeDiff, Nat.reduceBEq, Nat.reduceAdd, Nat.reduceLT, Nat.reduceSub, Nat.reduceMul, Int.reduceEq, Int.reduceLT, Int.reduceLE, Int.reduceNeg, Int.reduceToNat, List.reduceReplicate, Int.ofNat_le, List.getElem?_drop, q4, q2, hiC, hrb, hr8, hlk2, e1q, e2q, hA1, hV1, List.getElem?_drop]
  refine l22Behind_ok hp hn hq (by omega) hvs (by omega) (TT.nx7 sh hcv) (by rw [hcv.len]; omega) hs3 hvA0 hvV hz3 ⟨w9, a9, by rw [hcv.len]⟩ fun z4 hz4 => ?_
  have hbe4 := expF_in (S := Ve p n) (f := vs p n As vals) (x := c) (n := As.length) (fun a i hi ha => vs_in (by omega) hq hvs (by omega) hi ha) c.length (by rw [hcv.len]; omega) hs3
  simp only [pwA, if_true, if_false, eq_self, nm_eq, reduceCtorEq, ↓reduceIte, Nat.reduceEqDiff, Nat.reduceLeDiff, Nat.reduceBEq, Nat.reduceAdd, Nat.reduceLT, Nat.reduceSub, Nat.reduceMul, Int.reduceEq, Int.reduceLT, Int.reduceLE, Int.reduceNeg, Int.reduceToNat, List.reduceReplicate, Int.ofNat_le, List.getElem?_drop, q4, q2, q3, hiC, hrb, hr8, hlk2, e1q, e2q, hA1, hV1, ew, List.getElem?_drop]
  refine l02Add_ok (n := n) hp (by omega) hs2 hbe4 (by omega) hz2 hz4 fun z5 hz5 => ?_
  have e2 : gapOf p n As vals (conR C i k) = vadd p (p - 1) (vs p n As vals (vs p n As vals (List.replicate n 0) (i + (1 + k))) i) (expF (vs p n As vals) c c.length (vs p n As vals (List.replicate n 0) i)) := by
    obtain ⟨f1, f2⟩ := con_fold (C := C) (vs p n As vals) i k (List.replicate n 0)
    unfold gapOf
    rw [f1, f2, gC]
    exact vadd_congr (by omega) hs2.len hbe4.len (neg_one_mod p)
  rw [← e2] at hz5
  have hbL := hbnd i (by omega)
  have hbL2 : (relA O P C i ++ (List.range k).map (conR C i)).length ≤ 48 := by simp; omega
  simp only [pwA, if_true, if_false, eq_self, nm_eq, reduceCtorEq, ↓reduceIte, Nat.reduceEqDiff, Nat.reduceLeDiff, Nat.reduceBEq, Nat.reduceAdd, Nat.reduceLT, Nat.reduceSub, Nat.reduceMul, Int.reduceEq, Int.reduceLT, Int.reduceLE, Int.reduceNeg, Int.reduceToNat, List.reduceReplicate, Int.ofNat_le, List.getElem?_drop, q4, q3, hA1, hV1, ew, hz5.one, hz5.cells, List.getElem?_drop]
  refine PSl.push (σb := H) (bytes := 24) hkp hX (by omega) (by omega) fun v4 h4 k4 a4 => ?_
  simp only [pwA, if_true, if_false, eq_self, nm_eq, reduceCtorEq, ↓reduceIte, Nat.reduceEqDiff, Nat.reduceLeDiff, Nat.reduceBEq, Nat.reduceAdd, Nat.reduceLT, Nat.reduceSub, Nat.reduceMul, Int.reduceEq, Int.reduceLT, Int.reduceLE, Int.reduceNeg, Int.reduceToNat, List.reduceReplicate, Int.ofNat_le, List.getElem?_drop, e3q]
  refine ⟨_, by omega, k + 1, v4, rows ++ [z5], by omega, rfl, rfl, k4, ?_, ?_⟩
  · have hlen1 : (relA O P C i ++ (List.range (k + 1)).map (conR C i)).length = (relA O P C i ++ (List.range k).map (conR C i)).length + 1 := by simp; omega
    rw [hlen1]; exact a4
  · have e8 : (relA O P C i ++ (List.range (k + 1)).map (conR C i)).map (gapOf p n As vals) = (relA O P C i ++ (List.range k).map (conR C i)).map (gapOf p n As vals) ++ [gapOf p n As vals (conR C i k)] := by rw [List.range_succ]; simp
    rw [e8]
    exact hall.snoc hz5
end Go.Proofs
set_option linter.unusedSimpArgs false
set_option linter.unusedVariables false
namespace Go.Proofs
open Go.Ab Go.Lie Go.Grp Go.Mx
variable {σ : PHeap} {K : PV → PHeap → Prop} {p d : Int} {n na : Nat} {v w x xs ys : List Int} {A B M vals : List (List Int)} {As : List (List (List Int))} {vA vB vM vv vx vw vV v0 : PV} {O : List Int} {P : List (List Int)} {C : List (List (List Int))} {vO vP vC : PV} {s sp : Nat}
open Classical in
noncomputable def cobRes (O : List Int) (P : List (List Int)) (C : List (List (List Int))) (p d : Int) (As : List (List (List Int))) (vals : List (List Int)) : List (List Int) × Int :=
  if derFit O P C p d As vals then (gaps p d.toNat As vals O P C, 0) else ([], 1)
theorem cob_bd {z : List (List Int)} {c : Int} (h : ResR (cobRes O P C p d As vals) z c) : SzL z := by
  have e := h.eq
  unfold cobRes at e
  split at e
  · rename_i hf
    simp only [Prod.mk.injEq] at e
    obtain ⟨rfl, _⟩ := e
    have hd := hf.1.2.2.1
    have hpb := hf.1.2.1.bd
    have hd' : d.toNat ≤ 3 := by omega
    refine ⟨by have := (gaps_small (p := p) (n := d.toNat) (by omega) hd' hf.1.1.1.shp hf.1.2.2.2.2.1 hf.1.2.2.2.1 hf.2.2 hf.2.1).1; omega, fun r hr => ?_⟩
    unfold gaps at hr
    obtain ⟨q, hq', rfl⟩ := List.mem_map.1 hr
    have := (gapOf_ve (by omega) hf.1.1.1.shp hf.1.2.2.2.2.1 hf.1.2.2.2.1 hf.2.2 hf.2.1 hq').len
    show (gapOf p d.toNat As vals q).length ≤ _
    omega
  · simp only [Prod.mk.injEq] at e
    obtain ⟨rfl, _⟩ := e
    exact ⟨by simp, fun r hr => by cases hr⟩
theorem CoboundaryOf_T (hR : IsPr vO vP vC O P C) (sz : SzP O P C) (hA : FIII vA As) (szA : SzM As) (hV : FII vV vals) (szV : SzL vals) (hk : ∀ v z c t, ResR (cobRes O P C p d As vals) z c → FII v z → Own σ.top t v → σ.top ≤ t → K (.tup [v, .int .i64 c]) (σ.up t)) :
    PCalls Try.prog 50 [.agg [vO, vP, vC], .agg [.int .i64 p, .int .i64 d, vA], vV] σ K := by
  have h0 := hR.O.one
  have h1 := hR.P.one
  have h2 := hR.C.one
  have h3 := hA.one
  have hV1 := hV.one
  refine PCalls.gh ?_
  generalize hH : (σ.new [vO, vP, vC]).new [.int .i64 p, .int .i64 d, vA] = H
  have hkp : Keep σ H := by rw [← hH]; exact (keep_new σ _).new _
  have htop : H.top = σ.top := by rw [← hH]; rfl
  have no : ¬ derFit O P C p d As vals → Gh σ K (.tup [.fz true .nils 0 [], .int .i64 1]) H := fun h => Gh.fin0T (t := σ.top) hkp hkp.top ⟨trivial, trivial, trivial⟩ fun _ => hk _ [] _ σ.top ⟨by unfold cobRes; rw [if_neg h]⟩ ⟨_, _, [], rfl, All2.nil _⟩ (Own.empty _ _ _ _ _) (Nat.le_refl _)
  have hsp : PtrG H σ.next vO vP vC := by rw [← hH]; exact (PtrG.new ⟨by simp only [pwA, if_true, if_false, eq_self, nm_eq, reduceCtorEq, ↓reduceIte, Nat.reduceEqDiff, Nat.reduceLeDiff, Nat.reduceBEq, Nat.reduceAdd, Nat.reduceLT, Nat.reduceSub, Nat.reduceMul, Int.reduceEq, Int.reduceLT, Int.reduceLE, Int.reduceNeg, Int.reduceToNat, List.reduceReplicate, Int.ofNat_le, List.getElem?_drop], by simp only [pwA, if_true, if_false, eq_self, nm_eq, reduceCtorEq, ↓reduceIte, Nat.reduceEqDiff, Nat.reduceLeDiff, Nat.reduceBEq, Nat.reduceAdd, Nat.reduceLT, Nat.reduceSub, Nat.reduceMul, Int.reduceEq, Int.reduceLT, Int.reduceLE, Int.reduceNeg, Int.reduceToNat, List.reduceReplicate, Int.ofNat_le, List.getElem?_drop]⟩ _)
  have hs : PtrR H (σ.next + 1) p (.int .i64 d) vA := by rw [← hH]; exact ⟨by simp only [pwA, if_true, if_false, eq_self, nm_eq, reduceCtorEq, ↓reduceIte, Nat.reduceEqDiff, Nat.reduceLeDiff, Nat.reduceBEq, Nat.reduceAdd, Nat.reduceLT, Nat.reduceSub, Nat.reduceMul, Int.reduceEq, Int.reduceLT, Int.reduceLE, Int.reduceNeg, Int.reduceToNat, List.reduceReplicate, Int.ofNat_le, List.getElem?_drop], by simp only [pwA, if_true, if_false, eq_self, nm_eq, reduceCtorEq, ↓reduceIte, Nat.reduceEqDiff, Nat.reduceLeDiff, Nat.reduceBEq, Nat.reduceAdd, Nat.reduceLT, Nat.reduceSub, Nat.reduceMul, Int.reduceEq, Int.reduceLT, Int.reduceLE, Int.reduceNeg, Int.reduceToNat, List.reduceReplicate, Int.ofNat_le, List.getElem?_drop]⟩
  refine pcalls_of_vp mix Try.func50 cf50 rfl ?_
  dsimp only [if50, qI, eI, nI, qD, eD]
  simp only [pwA, if_true, if_false, eq_self, nm_eq, reduceCtorEq, ↓reduceIte, Nat.reduceEqDiff, Nat.reduceLeDiff, Nat.reduceBEq, Nat.reduceAdd, Nat.reduceLT, Nat.reduceSub, Nat.reduceMul, Int.reduceEq, Int.reduceLT, Int.reduceLE, Int.reduceNeg, Int.reduceToNat, List.reduceReplicate, Int.ofNat_le, List.getElem?_drop, h0, h1, h2, h3, hV1]
  rw [hH]
  refine isModule_ok hsp hR sz hs hA szA fun t ht => ?_
  cases t with
  | false =>
    simp only [pwA, if_true, if_false, eq_self, nm_eq, reduceCtorEq, ↓reduceIte, Nat.reduceEqDiff, Nat.reduceLeDiff, Nat.reduceBEq, Nat.reduceAdd, Nat.reduceLT, Nat.reduceSub, Nat.reduceMul, Int.reduceEq, Int.reduceLT, Int.reduceLE, Int.reduceNeg, Int.reduceToNat, List.reduceReplicate, Int.ofNat_le, List.getElem?_drop]
    exact no fun h => by cases ht.2 h.1
  | true =>
  have hm := ht.1 rfl
  obtain ⟨n, hn⟩ : ∃ n : Nat, d = (n : Int) := ⟨d.toNat, by have := hm.2.2.1; omega⟩
  subst hn
  have b1 := hm.2.2.1
  simp only [pwA, if_true, if_false, eq_self, nm_eq, reduceCtorEq, ↓reduceIte, Nat.reduceEqDiff, Nat.reduceLeDiff, Nat.reduceBEq, Nat.reduceAdd, Nat.reduceLT, Nat.reduceSub, Nat.reduceMul, Int.reduceEq, Int.reduceLT, Int.reduceLE, Int.reduceNeg, Int.reduceToNat, List.reduceReplicate, Int.ofNat_le, List.getElem?_drop]
  refine areValues_ok hm.2.1 (by omega) szV hsp hR.O hs hV fun t ht => ?_
  cases t with
  | false =>
    simp only [pwA, if_true, if_false, eq_self, nm_eq, reduceCtorEq, ↓reduceIte, Nat.reduceEqDiff, Nat.reduceLeDiff, Nat.reduceBEq, Nat.reduceAdd, Nat.reduceLT, Nat.reduceSub, Nat.reduceMul, Int.reduceEq, Int.reduceLT, Int.reduceLE, Int.reduceNeg, Int.reduceToNat, List.reduceReplicate, Int.ofNat_le, List.getElem?_drop]
    exact no fun h => by cases ht.2 h.2
  | true =>
  have hv := ht.1 rfl
  have hpb := hm.2.1.bd
  simp only [pwA, if_true, if_false, eq_self, nm_eq, reduceCtorEq, ↓reduceIte, Nat.reduceEqDiff, Nat.reduceLeDiff, Nat.reduceBEq, Nat.reduceAdd, Nat.reduceLT, Nat.reduceSub, Nat.reduceMul, Int.reduceEq, Int.reduceLT, Int.reduceLE, Int.reduceNeg, Int.reduceToNat, List.reduceReplicate, Int.ofNat_le, List.getElem?_drop]
  refine defects_T (by omega) (by omega) hm.1.1.shp hm.2.2.2.2.1 hm.2.2.2.1 hv.2 hv.1 hsp hR hs hA hV fun z t hz ho ht => ?_
  simp only [pwA, if_true, if_false, eq_self, nm_eq, reduceCtorEq, ↓reduceIte, Nat.reduceEqDiff, Nat.reduceLeDiff, Nat.reduceBEq, Nat.reduceAdd, Nat.reduceLT, Nat.reduceSub, Nat.reduceMul, Int.reduceEq, Int.reduceLT, Int.reduceLE, Int.reduceNeg, Int.reduceToNat, List.reduceReplicate, Int.ofNat_le, List.getElem?_drop]
  rw [htop] at ho ht
  exact Gh.fin0T (t := t) (hkp.up (by rw [htop]; exact ht)) (Nat.le_refl _) ⟨hz.bel _, trivial, trivial⟩ fun _ => hk _ (gaps p n As vals O P C) _ t ⟨by unfold cobRes; rw [if_pos ⟨hm, hv⟩]; rfl⟩ hz ho ht
theorem l23Coboundary_ok (hR : IsPr vO vP vC O P C) (sz : SzP O P C) (hA : FIII vA As) (szA : SzM As) (hV : FII vV vals) (szV : SzL vals) (hk : ∀ v z c, ResR (cobRes O P C p d As vals) z c → FII v z → K (.tup [v, .int .i64 c]) σ) :
    PCalls Try.prog 49 [.agg [vO, vP, vC], .agg [.int .i64 p, .int .i64 d, vA], vV] σ K := by
  have h0 := hR.O.one
  have h1 := hR.P.one
  have h2 := hR.C.one
  have h3 := hA.one
  have hV1 := hV.one
  refine PCalls.gh ?_
  generalize hH : (σ.new [vO, vP, vC]).new [.int .i64 p, .int .i64 d, vA] = H
  have hkp : Keep σ H := by rw [← hH]; exact (keep_new σ _).new _
  have no : ¬ derFit O P C p d As vals → Gh σ K (.tup [.fz true .nils 0 [], .int .i64 1]) H := fun h => Gh.fin0 hkp ⟨trivial, trivial, trivial⟩ (hk _ [] _ ⟨by unfold cobRes; rw [if_neg h]⟩ ⟨_, _, [], rfl, All2.nil _⟩)
  have gp : H.rd σ.next 0 3 = some [vO, vP, vC] := by rw [← hH]; simp only [pwA, if_true, if_false, eq_self, nm_eq, reduceCtorEq, ↓reduceIte, Nat.reduceEqDiff, Nat.reduceLeDiff, Nat.reduceBEq, Nat.reduceAdd, Nat.reduceLT, Nat.reduceSub, Nat.reduceMul, Int.reduceEq, Int.reduceLT, Int.reduceLE, Int.reduceNeg, Int.reduceToNat, List.reduceReplicate, Int.ofNat_le, List.getElem?_drop]
  have g1 : H.rd (σ.next + 1) 0 3 = some [.int .i64 p, .int .i64 d, vA] := by rw [← hH]; simp only [pwA, if_true, if_false, eq_self, nm_eq, reduceCtorEq, ↓reduceIte, Nat.reduceEqDiff, Nat.reduceLeDiff, Nat.reduceBEq, Nat.reduceAdd, Nat.reduceLT, Nat.reduceSub, Nat.reduceMul, Int.reduceEq, Int.reduceLT, Int.reduceLE, Int.reduceNeg, Int.reduceToNat, List.reduceReplicate, Int.ofNat_le, List.getElem?_drop]
  refine pcalls_of_vp mix Try.func49 cf49 rfl ?_
  dsimp only [if49, qI, eI, nI, qD, eD]
  simp only [pwA, if_true, if_false, eq_self, nm_eq, reduceCtorEq, ↓reduceIte, Nat.reduceEqDiff, Nat.reduceLeDiff, Nat.reduceBEq, Nat.reduceAdd, Nat.reduceLT, Nat.reduceSub, Nat.reduceMul, Int.reduceEq, Int.reduceLT, Int.reduceLE, Int.reduceNeg, Int.reduceToNat, List.reduceReplicate, Int.ofNat_le, List.getElem?_drop, h0, h1, h2, h3, hV1, hH, gp, g1]
  refine l21Module_ok hR sz hA szA fun t ht => ?_
  cases t with
  | false =>
    simp only [pwA, if_true, if_false, eq_self, nm_eq, reduceCtorEq, ↓reduceIte, Nat.reduceEqDiff, Nat.reduceLeDiff, Nat.reduceBEq, Nat.reduceAdd, Nat.reduceLT, Nat.reduceSub, Nat.reduceMul, Int.reduceEq, Int.reduceLT, Int.reduceLE, Int.reduceNeg, Int.reduceToNat, List.reduceReplicate, Int.ofNat_le, List.getElem?_drop, hH]
    exact no fun h => by cases ht.2 h.1
  | true =>
  have hm := ht.1 rfl
  obtain ⟨n, hn⟩ : ∃ n : Nat, d = (n : Int) := ⟨d.toNat, by have := hm.2.2.1; omega⟩
  subst hn
  have b1 := hm.2.2.1
  simp only [pwA, if_true, if_false, eq_self, nm_eq, reduceCtorEq, ↓reduceIte, Nat.reduceEqDiff, Nat.reduceLeDiff, Nat.reduceBEq, Nat.reduceAdd, Nat.reduceLT, Nat.reduceSub, Nat.reduceMul, Int.reduceEq, Int.reduceLT, Int.reduceLE, Int.reduceNeg, Int.reduceToNat, List.reduceReplicate, Int.ofNat_le, List.getElem?_drop, hH, gp, g1]
  refine l22Values_ok hm.2.1 (by omega) szV h1 h2 hR.O h3 hV fun t ht => ?_
  cases t with
  | false =>
    simp only [pwA, if_true, if_false, eq_self, nm_eq, reduceCtorEq, ↓reduceIte, Nat.reduceEqDiff, Nat.reduceLeDiff, Nat.reduceBEq, Nat.reduceAdd, Nat.reduceLT, Nat.reduceSub, Nat.reduceMul, Int.reduceEq, Int.reduceLT, Int.reduceLE, Int.reduceNeg, Int.reduceToNat, List.reduceReplicate, Int.ofNat_le, List.getElem?_drop]
    exact no fun h => by cases ht.2 h.2
  | true =>
  have hv := ht.1 rfl
  have hpb := hm.2.1.bd
  simp only [pwA, if_true, if_false, eq_self, nm_eq, reduceCtorEq, ↓reduceIte, Nat.reduceEqDiff, Nat.reduceLeDiff, Nat.reduceBEq, Nat.reduceAdd, Nat.reduceLT, Nat.reduceSub, Nat.reduceMul, Int.reduceEq, Int.reduceLT, Int.reduceLE, Int.reduceNeg, Int.reduceToNat, List.reduceReplicate, Int.ofNat_le, List.getElem?_drop, gp, g1]
  refine l23Delta_ok (by omega) (by omega) hm.1.1.shp hm.2.2.2.2.1 hm.2.2.2.1 hv.2 hv.1 hR hA hV fun z hz => ?_
  simp only [pwA, if_true, if_false, eq_self, nm_eq, reduceCtorEq, ↓reduceIte, Nat.reduceEqDiff, Nat.reduceLeDiff, Nat.reduceBEq, Nat.reduceAdd, Nat.reduceLT, Nat.reduceSub, Nat.reduceMul, Int.reduceEq, Int.reduceLT, Int.reduceLE, Int.reduceNeg, Int.reduceToNat, List.reduceReplicate, Int.ofNat_le, List.getElem?_drop]
  exact Gh.fin0 hkp ⟨hz.bel _, trivial, trivial⟩ (hk _ (gaps p n As vals O P C) _ ⟨by unfold cobRes; rw [if_pos ⟨hm, hv⟩]; rfl⟩ hz)
end Go.Proofs
set_option linter.unusedSimpArgs false
set_option linter.unusedVariables false
namespace Go.Proofs
open Go.Ab Go.Lie
section
variable {h : AHeap} {K : AV → AHeap → Prop}
theorem markInt64S_A {v : PV} {xs : List Int} {k : Int} (hI : FI v xs) (hW : Wh v) (hw : HWF h) (hv : VOK (zlt h) h 0 v) (hb : xs.length ≤ 4294967296) (hk0 : 0 ≤ k) (hk1 : k ≤ 4611686018427387904)
    (hk : ∀ h', Upd h (mkI k v xs) h' → K (.int .i64 (k + xs.length)) h') : ACalls Try.prog 26 [er idz v, .int .i64 k] h K := by
  refine acalls_of_vc mix Try.func26 cf26 rfl ?_
  dsimp only [if26]
  by_cases hne : xs = []
  · subst hne
    have hlen : aLen (er idz v) = some (.int .i64 ((0 : Nat) : Int)) := by
      obtain ⟨w, a, rfl⟩ := hI
      obtain ⟨rfl, _⟩ | ⟨o, off, cap, rfl, _⟩ := hv.1 <;> rfl
    simp only [nm_eq, ↓reduceIte, vc_skip, vc_region, vc_draw, vc_seq, vc_cond, vc_block, vc_exit, vc_ret, RV_nil, RV_q, RV_e, DV_nil, DV_q, DV_e, gq_none, gq_some, ge_none, ge_some, condK_true, condK_false, condK_dec, condK_ndec, guardK_bool, guardO_bool, guardO_skip, guardK_skip, ev_t, ev_c, mk_cons, put_some, put_none, qv_mv, qv_pick, qv_bin, qv_un, qv_conv, qv_nilCheck, qv_build, qv_field, qv_fieldAddr, qv_indexAddr, qv_indexStr, qv_extract, qv_len, qv_lenStr, qv_cap, qv_slice, qv_sliceStr, qv_maxmin, qv_makeFunc, qv_load, qv_rev, eff_alloc, eff_box, eff_buildSl, eff_store, aStore_ptr, eff_makeSl, aMake_int, eff_append, eff_copy, eff_call, eff_callV, aCallV_clo, abin_add, abin_sub, abin_mul, abin_quo, abin_rem, abin_eql, abin_neq, abin_lss, abin_leq, abin_gtr, abin_geq, abin_beql, abin_bneq, abin_nn, abin_sn, abin_ns, abin_nnx, abin_snx, abin_nsx, abin_str, aun_neg, aun_not, aPick_true, aPick_false, aConv_int, aNil_ptr, aNil_clo, aField_agg, aField_one, aFieldAddr_ptr, Int.toNat_natCast, rd1_new, rd_new, new_next, Nat.left_eq_add, Nat.add_eq_left, Nat.succ_ne_self, Nat.one_ne_zero, Nat.add_left_cancel_iff, Nat.add_assoc, List.getElem?_cons_zero, List.getElem?_cons_succ, List.take_succ_cons, List.take_zero, List.drop_succ_cons, List.drop_zero, List.take_nil, List.drop_nil, Nat.reduceLeDiff, Nat.le_refl, afill_nil, afill_cons, zeros_zero, zeros_one1, zeros_single, Nat.lt_add_one, Int.reduceEq, Int.reduceLT, Int.reduceLE, Int.reduceNeg, aExtract_tup, aLen_sl, aLen_nils, aLenStr_str, aMaxmin_int, ldv_one, ldv_agg, news_nil, news_cons, RecOK_nil, RecOK_none, RecOK_cons, recOf, wantedI, rvals_nil, rvals_tmp, rvals_cell, retQ_normal, retQ_ret, packR_one, packR_nil, packR_two, optK_some, optK_none, optK_bind, optK_map, List.map_cons, List.map_nil, Nat.reduceEqDiff, if_true, if_false, ite_true, ite_false, List.nil_append, List.cons_append, Option.map_some, Option.map_none, reduceCtorEq, decide_true, decide_false, Bool.not_true, Bool.not_false, cells_int, cells_bool, cells_str, cells_nilp, cells_ptr, cells_nils, cells_sl, cells_nilf, cells_clo, cells_agg, List.all_cons, List.all_nil, one_int, one_bool, one_str, one_nilp, one_ptr, one_nils, one_sl, one_nilf, one_clo, List.length_cons, List.length_nil, Bool.and_true, Bool.true_and, Bool.and_self, true_and, and_true, Bool.true_eq_false, Bool.false_eq_true, List.contains_cons, List.contains_nil, Bool.or_false, Bool.or_true, Bool.true_or, Bool.false_or, eq_self, Nat.reduceBEq, Nat.reduceAdd, Nat.mul_one, Nat.zero_add, Nat.add_zero]
    refine vc_loop (fun m vs h' => vs = [er idz v, .int .i64 k, .int .i64 0] ∧ h' = h) 0 ⟨rfl, rfl⟩ ?_
    rintro m vs h' ⟨rfl, rfl⟩
    simp only [nm_eq, ↓reduceIte, vc_skip, vc_region, vc_draw, vc_seq, vc_cond, vc_block, vc_exit, vc_ret, RV_nil, RV_q, RV_e, DV_nil, DV_q, DV_e, gq_none, gq_some, ge_none, ge_some, condK_true, condK_false, condK_dec, condK_ndec, guardK_bool, guardO_bool, guardO_skip, guardK_skip, ev_t, ev_c, mk_cons, put_some, put_none, qv_mv, qv_pick, qv_bin, qv_un, qv_conv, qv_nilCheck, qv_build, qv_field, qv_fieldAddr, qv_indexAddr, qv_indexStr, qv_extract, qv_len, qv_lenStr, qv_cap, qv_slice, qv_sliceStr, qv_maxmin, qv_makeFunc, qv_load, qv_rev, eff_alloc, eff_box, eff_buildSl, eff_store, aStore_ptr, eff_makeSl, aMake_int, eff_append, eff_copy, eff_call, eff_callV, aCallV_clo, abin_add, abin_sub, abin_mul, abin_quo, abin_rem, abin_eql, abin_neq, abin_lss, abin_leq, abin_gtr, abin_geq, abin_beql, abin_bneq, abin_nn, abin_sn, abin_ns, abin_nnx, abin_snx, abin_nsx, abin_str, aun_neg, aun_not, aPick_true, aPick_false, aConv_int, aNil_ptr, aNil_clo, aField_agg, aField_one, aFieldAddr_ptr, Int.toNat_natCast, rd1_new, rd_new, new_next, Nat.left_eq_add, Nat.add_eq_left, Nat.succ_ne_self, Nat.one_ne_zero, Nat.add_left_cancel_iff, Nat.add_assoc, List.getElem?_cons_zero, List.getElem?_cons_succ, List.take_succ_cons, List.take_zero, List.drop_succ_cons, List.drop_zero, List.take_nil, List.drop_nil, Nat.reduceLeDiff, Nat.le_refl, afill_nil, afill_cons, zeros_zero, zeros_one1, zeros_single, Nat.lt_add_one, Int.reduceEq, Int.reduceLT, Int.reduceLE, Int.reduceNeg, aExtract_tup, aLen_sl, aLen_nils, aLenStr_str, aMaxmin_int, ldv_one, ldv_agg, news_nil, news_cons, RecOK_nil, RecOK_none, RecOK_cons, recOf, wantedI, rvals_nil, rvals_tmp, rvals_cell, retQ_normal, retQ_ret, packR_one, packR_nil, packR_two, optK_some, optK_none, optK_bind, optK_map, List.map_cons, List.map_nil, Nat.reduceEqDiff, if_true, if_false, ite_true, ite_false, List.nil_append, List.cons_append, Option.map_some, Option.map_none, reduceCtorEq, decide_true, decide_false, Bool.not_true, Bool.not_false, cells_int, cells_bool, cells_str, cells_nilp, cells_ptr, cells_nils, cells_sl, cells_nilf, cells_clo, cells_agg, List.all_cons, List.all_nil, one_int, one_bool, one_str, one_nilp, one_ptr, one_nils, one_sl, one_nilf, one_clo, List.length_cons, List.length_nil, Bool.and_true, Bool.true_and, Bool.and_self, true_and, and_true, Bool.true_eq_false, Bool.false_eq_true, List.contains_cons, List.contains_nil, Bool.or_false, Bool.or_true, Bool.true_or, Bool.false_or, eq_self, Nat.reduceBEq, Nat.reduceAdd, Nat.mul_one, Nat.zero_add, Nat.add_zero, hlen, Int.lt_irrefl]
    have := hk h' (Upd.refl hw)
    simpa using this
  · obtain ⟨w, a, rfl⟩ := hI
    obtain ⟨hwt, _, _⟩ := hW.resolve_left (pis_ne hne)
    obtain ⟨o, cap, rfl, ho, hz⟩ := hv.whole hwt (pis_ne hne)
    have ho' : h.obj o = some ⟨true, ints xs⟩ := by rw [ho, ers_map]; congr 2; simp only [pis, ints, List.map_map]; rfl
    simp only [nm_eq, ↓reduceIte, vc_skip, vc_region, vc_draw, vc_seq, vc_cond, vc_block, vc_exit, vc_ret, RV_nil, RV_q, RV_e, DV_nil, DV_q, DV_e, gq_none, gq_some, ge_none, ge_some, condK_true, condK_false, condK_dec, condK_ndec, guardK_bool, guardO_bool, guardO_skip, guardK_skip, ev_t, ev_c, mk_cons, put_some, put_none, qv_mv, qv_pick, qv_bin, qv_un, qv_conv, qv_nilCheck, qv_build, qv_field, qv_fieldAddr, qv_indexAddr, qv_indexStr, qv_extract, qv_len, qv_lenStr, qv_cap, qv_slice, qv_sliceStr, qv_maxmin, qv_makeFunc, qv_load, qv_rev, eff_alloc, eff_box, eff_buildSl, eff_store, aStore_ptr, eff_makeSl, aMake_int, eff_append, eff_copy, eff_call, eff_callV, aCallV_clo, abin_add, abin_sub, abin_mul, abin_quo, abin_rem, abin_eql, abin_neq, abin_lss, abin_leq, abin_gtr, abin_geq, abin_beql, abin_bneq, abin_nn, abin_sn, abin_ns, abin_nnx, abin_snx, abin_nsx, abin_str, aun_neg, aun_not, aPick_true, aPick_false, aConv_int, aNil_ptr, aNil_clo, aField_agg, aField_one, aFieldAddr_ptr, Int.toNat_natCast, rd1_new, rd_new, new_next, Nat.left_eq_add, Nat.add_eq_left, Nat.succ_ne_self, Nat.one_ne_zero, Nat.add_left_cancel_iff, Nat.add_assoc, List.getElem?_cons_zero, List.getElem?_cons_succ, List.take_succ_cons, List.take_zero, List.drop_succ_cons, List.drop_zero, List.take_nil, List.drop_nil, Nat.reduceLeDiff, Nat.le_refl, afill_nil, afill_cons, zeros_zero, zeros_one1, zeros_single, Nat.lt_add_one, Int.reduceEq, Int.reduceLT, Int.reduceLE, Int.reduceNeg, aExtract_tup, aLen_sl, aLen_nils, aLenStr_str, aMaxmin_int, ldv_one, ldv_agg, news_nil, news_cons, RecOK_nil, RecOK_none, RecOK_cons, recOf, wantedI, rvals_nil, rvals_tmp, rvals_cell, retQ_normal, retQ_ret, packR_one, packR_nil, packR_two, optK_some, optK_none, optK_bind, optK_map, List.map_cons, List.map_nil, Nat.reduceEqDiff, if_true, if_false, ite_true, ite_false, List.nil_append, List.cons_append, Option.map_some, Option.map_none, reduceCtorEq, decide_true, decide_false, Bool.not_true, Bool.not_false, cells_int, cells_bool, cells_str, cells_nilp, cells_ptr, cells_nils, cells_sl, cells_nilf, cells_clo, cells_agg, List.all_cons, List.all_nil, one_int, one_bool, one_str, one_nilp, one_ptr, one_nils, one_sl, one_nilf, one_clo, List.length_cons, List.length_nil, Bool.and_true, Bool.true_and, Bool.and_self, true_and, and_true, Bool.true_eq_false, Bool.false_eq_true, List.contains_cons, List.contains_nil, Bool.or_false, Bool.or_true, Bool.true_or, Bool.false_or, eq_self, Nat.reduceBEq, Nat.reduceAdd, Nat.mul_one, Nat.zero_add, Nat.add_zero, er]
    refine vc_loop (fun m vs h' => ∃ i : Nat, i ≤ xs.length ∧ m = xs.length - i ∧ vs = [.sl o 0 xs.length cap, .int .i64 (k + i), .int .i64 i] ∧ h' = h.set o (ints ((seqI k xs.length).take i ++ xs.drop i))) xs.length ?_ ?_
    · exact ⟨0, by omega, by omega, (by (simp only [nm_eq, ↓reduceIte, vc_skip, vc_region, vc_draw, vc_seq, vc_cond, vc_block, vc_exit, vc_ret, RV_nil, RV_q, RV_e, DV_nil, DV_q, DV_e, gq_none, gq_some, ge_none, ge_some, condK_true, condK_false, condK_dec, condK_ndec, guardK_bool, guardO_bool, guardO_skip, guardK_skip, ev_t, ev_c, mk_cons, put_some, put_none, qv_mv, qv_pick, qv_bin, qv_un, qv_conv, qv_nilCheck, qv_build, qv_field, qv_fieldAddr, qv_indexAddr, qv_indexStr, qv_extract, qv_len, qv_lenStr, qv_cap, qv_slice, qv_sliceStr, qv_maxmin, qv_makeFunc, qv_load, qv_rev, eff_alloc, eff_box, eff_buildSl, eff_store, aStore_ptr, eff_makeSl, aMake_int, eff_append, eff_copy, eff_call, eff_callV, aCallV_clo, abin_add, abin_sub, abin_mul, abin_quo, abin_rem, abin_eql, abin_neq, abin_lss, abin_leq, abin_gtr, abin_geq, abin_beql, abin_bneq, abin_nn, abin_sn, abin_ns, abin_nnx, abin_snx, abin_nsx, abin_str, aun_neg, aun_not, aPick_true, aPick_false, aConv_int, aNil_ptr, aNil_clo, aField_agg, aField_one, aFieldAddr_ptr, Int.toNat_natCast, rd1_new, rd_new, new_next, Nat.left_eq_add, Nat.add_eq_left, Nat.succ_ne_self, Nat.one_ne_zero, Nat.add_left_cancel_iff, Nat.add_assoc, List.getElem?_cons_zero, List.getElem?_cons_succ, List.take_succ_cons, List.take_zero, List.drop_succ_cons, List.drop_zero, List.take_nil, List.drop_nil, Nat.reduceLeDiff, Nat.le_refl, afill_nil, afill_cons, zeros_zero, zeros_one1, zeros_single, Nat.lt_add_one, Int.reduceEq, Int.reduceLT, Int.reduceLE, Int.reduceNeg, aExtract_tup, aLen_sl, aLen_nils, aLenStr_str, aMaxmin_int, ldv_one, ldv_agg, news_nil, news_cons, RecOK_nil, RecOK_none, RecOK_cons, recOf, wantedI, rvals_nil, rvals_tmp, rvals_cell, retQ_normal, retQ_ret, packR_one, packR_nil, packR_two, optK_some, optK_none, optK_bind, optK_map, List.map_cons, List.map_nil, Nat.reduceEqDiff, if_true, if_false, ite_true, ite_false, List.nil_append, List.cons_append, Option.map_some, Option.map_none, reduceCtorEq, decide_true, decide_false, Bool.not_true, Bool.not_false, cells_int, cells_bool, cells_str, cells_nilp, cells_ptr, cells_nils, cells_sl, cells_nilf, cells_clo, cells_agg, List.all_cons, List.all_nil, one_int, one_bool, one_str, one_nilp, one_ptr, one_nils, one_sl, one_nilf, one_clo, List.length_cons, List.length_nil, Bool.and_true, Bool.true_and, Bool.and_self, true_and, and_true, Bool.true_eq_false, Bool.false_eq_true, List.contains_cons, List.contains_nil, Bool.or_false, Bool.or_true, Bool.true_or, Bool.false_or, eq_self, Nat.reduceBEq, Nat.reduceAdd, Nat.mul_one, Nat.zero_add, Nat.add_zero, List.cons.injEq, AV.int.injEq, AV.sl.injEq, and_self]) <;> omega), by simp [set_self ho']⟩
    · rintro m vs h' ⟨i, hi, rfl, rfl, rfl⟩
      simp only [nm_eq, ↓reduceIte, vc_skip, vc_region, vc_draw, vc_seq, vc_cond, vc_block, vc_exit, vc_ret, RV_nil, RV_q, RV_e, DV_nil, DV_q, DV_e, gq_none, gq_some, ge_none, ge_some, condK_true, condK_false, condK_dec, condK_ndec, guardK_bool, guardO_bool, guardO_skip, guardK_skip, ev_t, ev_c, mk_cons, put_some, put_none, qv_mv, qv_pick, qv_bin, qv_un, qv_conv, qv_nilCheck, qv_build, qv_field, qv_fieldAddr, qv_indexAddr, qv_indexStr, qv_extract, qv_len, qv_lenStr, qv_cap, qv_slice, qv_sliceStr, qv_maxmin, qv_makeFunc, qv_load, qv_rev, eff_alloc, eff_box, eff_buildSl, eff_store, aStore_ptr, eff_makeSl, aMake_int, eff_append, eff_copy, eff_call, eff_callV, aCallV_clo, abin_add, abin_sub, abin_mul, abin_quo, abin_rem, abin_eql, abin_neq, abin_lss, abin_leq, abin_gtr, abin_geq, abin_beql, abin_bneq, abin_nn, abin_sn, abin_ns, abin_nnx, abin_snx, abin_nsx, abin_str, aun_neg, aun_not, aPick_true, aPick_false, aConv_int, aNil_ptr, aNil_clo, aField_agg, aField_one, aFieldAddr_ptr, Int.toNat_natCast, rd1_new, rd_new, new_next, Nat.left_eq_add, Nat.add_eq_left, Nat.succ_ne_self, Nat.one_ne_zero, Nat.add_left_cancel_iff, Nat.add_assoc, List.getElem?_cons_zero, List.getElem?_cons_succ, List.take_succ_cons, List.take_zero, List.drop_succ_cons, List.drop_zero, List.take_nil, List.drop_nil, Nat.reduceLeDiff, Nat.le_refl, afill_nil, afill_cons, zeros_zero, zeros_one1, zeros_single, Nat.lt_add_one, Int.reduceEq, Int.reduceLT, Int.reduceLE, Int.reduceNeg, aExtract_tup, aLen_sl, aLen_nils, aLenStr_str, aMaxmin_int, ldv_one, ldv_agg, news_nil, news_cons, RecOK_nil, RecOK_none, RecOK_cons, recOf, wantedI, rvals_nil, rvals_tmp, rvals_cell, retQ_normal, retQ_ret, packR_one, packR_nil, packR_two, optK_some, optK_none, optK_bind, optK_map, List.map_cons, List.map_nil, Nat.reduceEqDiff, if_true, if_false, ite_true, ite_false, List.nil_append, List.cons_append, Option.map_some, Option.map_none, reduceCtorEq, decide_true, decide_false, Bool.not_true, Bool.not_false, cells_int, cells_bool, cells_str, cells_nilp, cells_ptr, cells_nils, cells_sl, cells_nilf, cells_clo, cells_agg, List.all_cons, List.all_nil, one_int, one_bool, one_str, one_nilp, one_ptr, one_nils, one_sl, one_nilf, one_clo, List.length_cons, List.length_nil, Bool.and_true, Bool.true_and, Bool.and_self, true_and, and_true, Bool.true_eq_false, Bool.false_eq_true, List.contains_cons, List.contains_nil, Bool.or_false, Bool.or_true, Bool.true_or, Bool.false_or, eq_self, Nat.reduceBEq, Nat.reduceAdd, Nat.mul_one, Nat.zero_add, Nat.add_zero]
      split
      · have hlt : i < xs.length := by omega
        simp only [nm_eq, ↓reduceIte, vc_skip, vc_region, vc_draw, vc_seq, vc_cond, vc_block, vc_exit, vc_ret, RV_nil, RV_q, RV_e, DV_nil, DV_q, DV_e, gq_none, gq_some, ge_none, ge_some, condK_true, condK_false, condK_dec, condK_ndec, guardK_bool, guardO_bool, guardO_skip, guardK_skip, ev_t, ev_c, mk_cons, put_some, put_none, qv_mv, qv_pick, qv_bin, qv_un, qv_conv, qv_nilCheck, qv_build, qv_field, qv_fieldAddr, qv_indexAddr, qv_indexStr, qv_extract, qv_len, qv_lenStr, qv_cap, qv_slice, qv_sliceStr, qv_maxmin, qv_makeFunc, qv_load, qv_rev, eff_alloc, eff_box, eff_buildSl, eff_store, aStore_ptr, eff_makeSl, aMake_int, eff_append, eff_copy, eff_call, eff_callV, aCallV_clo, abin_add, abin_sub, abin_mul, abin_quo, abin_rem, abin_eql, abin_neq, abin_lss, abin_leq, abin_gtr, abin_geq, abin_beql, abin_bneq, abin_nn, abin_sn, abin_ns, abin_nnx, abin_snx, abin_nsx, abin_str, aun_neg, aun_not, aPick_true, aPick_false, aConv_int, aNil_ptr, aNil_clo, aField_agg, aField_one, aFieldAddr_ptr, Int.toNat_natCast, rd1_new, rd_new, new_next, Nat.left_eq_add, Nat.add_eq_left, Nat.succ_ne_self, Nat.one_ne_zero, Nat.add_left_cancel_iff, Nat.add_assoc, List.getElem?_cons_zero, List.getElem?_cons_succ, List.take_succ_cons, List.take_zero, List.drop_succ_cons, List.drop_zero, List.take_nil, List.drop_nil, Nat.reduceLeDiff, Nat.le_refl, afill_nil, afill_cons, zeros_zero, zeros_one1, zeros_single, Nat.lt_add_one, Int.reduceEq, Int.reduceLT, Int.reduceLE, Int.reduceNeg, aExtract_tup, aLen_sl, aLen_nils, aLenStr_str, aMaxmin_int, ldv_one, ldv_agg, news_nil, news_cons, RecOK_nil, RecOK_none, RecOK_cons, recOf, wantedI, rvals_nil, rvals_tmp, rvals_cell, retQ_normal, retQ_ret, packR_one, packR_nil, packR_two, optK_some, optK_none, optK_bind, optK_map, List.map_cons, List.map_nil, Nat.reduceEqDiff, if_true, if_false, ite_true, ite_false, List.nil_append, List.cons_append, Option.map_some, Option.map_none, reduceCtorEq, decide_true, decide_false, Bool.not_true, Bool.not_false, cells_int, cells_bool, cells_str, cells_nilp, cells_ptr, cells_nils, cells_sl, cells_nilf, cells_clo, cells_agg, List.all_cons, List.all_nil, one_int, one_bool, one_str, one_nilp, one_ptr, one_nils, one_sl, one_nilf, one_clo, List.length_cons, List.length_nil, Bool.and_true, Bool.true_and, Bool.and_self, true_and, and_true, Bool.true_eq_false, Bool.false_eq_true, List.contains_cons, List.contains_nil, Bool.or_false, Bool.or_true, Bool.true_or, Bool.false_or, eq_self, Nat.reduceBEq, Nat.reduceAdd, Nat.mul_one, Nat.zero_add, Nat.add_zero, aIndex_nat hlt, wrapS hlt (by omega : xs.length ≤ 4611686018427387904), wrap64 (n := k + (i : Int) + 1) (by omega) (by omega)]
        have hls : i < (seqI k xs.length).length := by rw [seqI_length]; exact hlt
        rw [wr_one (set_obj_eq _ _) (by rw [ints_length]; simp [seqI_length]; omega) rfl, optK_some]
        refine ⟨_, by omega, i + 1, by omega, rfl, (by (simp only [nm_eq, ↓reduceIte, vc_skip, vc_region, vc_draw, vc_seq, vc_cond, vc_block, vc_exit, vc_ret, RV_nil, RV_q, RV_e, DV_nil, DV_q, DV_e, gq_none, gq_some, ge_none, ge_some, condK_true, condK_false, condK_dec, condK_ndec, guardK_bool, guardO_bool, guardO_skip, guardK_skip, ev_t, ev_c, mk_cons, put_some, put_none, qv_mv, qv_pick, qv_bin, qv_un, qv_conv, qv_nilCheck, qv_build, qv_field, qv_fieldAddr, qv_indexAddr, qv_indexStr, qv_extract, qv_len, qv_lenStr, qv_cap, qv_slice, qv_sliceStr, qv_maxmin, qv_makeFunc, qv_load, qv_rev, eff_alloc, eff_box, eff_buildSl, eff_store, aStore_ptr, eff_makeSl, aMake_int, eff_append, eff_copy, eff_call, eff_callV, aCallV_clo, abin_add, abin_sub, abin_mul, abin_quo, abin_rem, abin_eql, abin_neq, abin_lss, abin_leq, abin_gtr, abin_geq, abin_beql, abin_bneq, abin_nn, abin_sn, abin_ns, abin_nnx, abin_snx, abin_nsx, abin_str, aun_neg, aun_not, aPick_true, aPick_false, aConv_int, aNil_ptr, aNil_clo, aField_agg, aField_one, aFieldAddr_ptr, Int.toNat_natCast, rd1_new, rd_new, new_next, Nat.left_eq_add, Nat.add_eq_left, Nat.succ_ne_self, Nat.one_ne_zero, Nat.add_left_cancel_iff, Nat.add_assoc, List.getElem?_cons_zero, List.getElem?_cons_succ, List.take_succ_cons, List.take_zero, List.drop_succ_cons, List.drop_zero, List.take_nil, List.drop_nil, Nat.reduceLeDiff, Nat.le_refl, afill_nil, afill_cons, zeros_zero, zeros_one1, zeros_single, Nat.lt_add_one, Int.reduceEq, Int.reduceLT, Int.reduceLE, Int.reduceNeg, aExtract_tup, aLen_sl, aLen_nils, aLenStr_str, aMaxmin_int, ldv_one, ldv_agg, news_nil, news_cons, RecOK_nil, RecOK_none, RecOK_cons, recOf, wantedI, rvals_nil, rvals_tmp, rvals_cell, retQ_normal, retQ_ret, packR_one, packR_nil, packR_two, optK_some, optK_none, optK_bind, optK_map, List.map_cons, List.map_nil, Nat.reduceEqDiff, if_true, if_false, ite_true, ite_false, List.nil_append, List.cons_append, Option.map_some, Option.map_none, reduceCtorEq, decide_true, decide_false, Bool.not_true, Bool.not_false, cells_int, cells_bool, cells_str, cells_nilp, cells_ptr, cells_nils, cells_sl, cells_nilf, cells_clo, cells_agg, List.all_cons, List.all_nil, one_int, one_bool, one_str, one_nilp, one_ptr, one_nils, one_sl, one_nilf, one_clo, List.length_cons, List.length_nil, Bool.and_true, Bool.true_and, Bool.and_self, true_and, and_true, Bool.true_eq_false, Bool.false_eq_true, List.contains_cons, List.contains_nil, Bool.or_false, Bool.or_true, Bool.true_or, Bool.false_or, eq_self, Nat.reduceBEq, Nat.reduceAdd, Nat.mul_one, Nat.zero_add, Nat.add_zero, List.cons.injEq, AV.int.injEq, AV.sl.injEq, and_self]) <;> omega), ?_⟩
        rw [set_set, ints_set, ← mix_set _ _ hlt hls, seqI_get]
      · have hie : i = xs.length := by omega
        subst hie
        rw [List.take_of_length_le (by rw [seqI_length]; exact Nat.le_refl _), List.drop_length, List.append_nil]
        have hlt := hw.lt ho
        refine hk _ ⟨Nat.le_refl _, hw.set hlt _, fun x hx hn => set_obj_ne (fun e => ?_) _, fun x ms hx => ?_⟩
        · subst e
          rw [mkI, if_neg hne] at hn
          simp [aof] at hn
        · rw [mkI, if_neg hne] at hx
          simp only [List.lookup_cons, List.lookup_nil, aof] at hx
          split at hx
          · rename_i hxo
            cases hx
            have hxo : x = o := by simpa using hxo
            subst hxo
            refine ⟨?_, pis_flat _, pis_ne fun e => ?_, _, ho', by rw [ints_length, pis_length, seqI_length]⟩
            · rw [set_obj_eq, ers_map]; congr 2; simp only [pis, ints, List.map_map]; rfl
            · have := seqI_length xs.length k
              rw [e] at this
              exact hne (List.eq_nil_of_length_eq_zero this.symm)
          · cases hx
theorem markInt64SS_A {v : PV} {xs : List (List Int)} {k : Int} (hI : FII v xs) (hW : Wh v) (hnd : (ead v).Nodup) (hw : HWF h) (hv : VOK (zlt h) h 0 v) (hb : xs.length ≤ 4294967296) (hb2 : ∀ x ∈ xs, x.length ≤ 4294967296) (hk0 : 0 ≤ k) (hk1 : k + totL List.length xs ≤ 4611686018427387904)
    (hk : ∀ h', Upd h (mkF mkI List.length k v xs) h' → K (.int .i64 (k + totL List.length xs)) h') : ACalls Try.prog 43 [er idz v, .int .i64 k] h K := by
  refine acalls_of_vc mix Try.func43 cf43 rfl ?_
  dsimp only [if43]
  obtain ⟨w, a, rows, rfl, hr⟩ := hI
  by_cases hne : rows = []
  · have hx := hr.nil_iff.1 hne
    subst hne
    subst hx
    have hlen : aLen a = some (.int .i64 ((0 : Nat) : Int)) := by
      obtain ⟨rfl, _⟩ | ⟨o, off, cap, rfl, _⟩ := hv.1 <;> rfl
    simp only [nm_eq, ↓reduceIte, vc_skip, vc_region, vc_draw, vc_seq, vc_cond, vc_block, vc_exit, vc_ret, RV_nil, RV_q, RV_e, DV_nil, DV_q, DV_e, gq_none, gq_some, ge_none, ge_some, condK_true, condK_false, condK_dec, condK_ndec, guardK_bool, guardO_bool, guardO_skip, guardK_skip, ev_t, ev_c, mk_cons, put_some, put_none, qv_mv, qv_pick, qv_bin, qv_un, qv_conv, qv_nilCheck, qv_build, qv_field, qv_fieldAddr, qv_indexAddr, qv_indexStr, qv_extract, qv_len, qv_lenStr, qv_cap, qv_slice, qv_sliceStr, qv_maxmin, qv_makeFunc, qv_load, qv_rev, eff_alloc, eff_box, eff_buildSl, eff_store, aStore_ptr, eff_makeSl, aMake_int, eff_append, eff_copy, eff_call, eff_callV, aCallV_clo, abin_add, abin_sub, abin_mul, abin_quo, abin_rem, abin_eql, abin_neq, abin_lss, abin_leq, abin_gtr, abin_geq, abin_beql, abin_bneq, abin_nn, abin_sn, abin_ns, abin_nnx, abin_snx, abin_nsx, abin_str, aun_neg, aun_not, aPick_true, aPick_false, aConv_int, aNil_ptr, aNil_clo, aField_agg, aField_one, aFieldAddr_ptr, Int.toNat_natCast, rd1_new, rd_new, new_next, Nat.left_eq_add, Nat.add_eq_left, Nat.succ_ne_self, Nat.one_ne_zero, Nat.add_left_cancel_iff, Nat.add_assoc, List.getElem?_cons_zero, List.getElem?_cons_succ, List.take_succ_cons, List.take_zero, List.drop_succ_cons, List.drop_zero, List.take_nil, List.drop_nil, Nat.reduceLeDiff, Nat.le_refl, afill_nil, afill_cons, zeros_zero, zeros_one1, zeros_single, Nat.lt_add_one, Int.reduceEq, Int.reduceLT, Int.reduceLE, Int.reduceNeg, aExtract_tup, aLen_sl, aLen_nils, aLenStr_str, aMaxmin_int, ldv_one, ldv_agg, news_nil, news_cons, RecOK_nil, RecOK_none, RecOK_cons, recOf, wantedI, rvals_nil, rvals_tmp, rvals_cell, retQ_normal, retQ_ret, packR_one, packR_nil, packR_two, optK_some, optK_none, optK_bind, optK_map, List.map_cons, List.map_nil, Nat.reduceEqDiff, if_true, if_false, ite_true, ite_false, List.nil_append, List.cons_append, Option.map_some, Option.map_none, reduceCtorEq, decide_true, decide_false, Bool.not_true, Bool.not_false, cells_int, cells_bool, cells_str, cells_nilp, cells_ptr, cells_nils, cells_sl, cells_nilf, cells_clo, cells_agg, List.all_cons, List.all_nil, one_int, one_bool, one_str, one_nilp, one_ptr, one_nils, one_sl, one_nilf, one_clo, List.length_cons, List.length_nil, Bool.and_true, Bool.true_and, Bool.and_self, true_and, and_true, Bool.true_eq_false, Bool.false_eq_true, List.contains_cons, List.contains_nil, Bool.or_false, Bool.or_true, Bool.true_or, Bool.false_or, eq_self, Nat.reduceBEq, Nat.reduceAdd, Nat.mul_one, Nat.zero_add, Nat.add_zero, er]
    refine vc_loop (fun m vs h' => vs = [a, .int .i64 k, .int .i64 0] ∧ h' = h) 0 ⟨rfl, rfl⟩ ?_
    rintro m vs h' ⟨rfl, rfl⟩
    simp only [nm_eq, ↓reduceIte, vc_skip, vc_region, vc_draw, vc_seq, vc_cond, vc_block, vc_exit, vc_ret, RV_nil, RV_q, RV_e, DV_nil, DV_q, DV_e, gq_none, gq_some, ge_none, ge_some, condK_true, condK_false, condK_dec, condK_ndec, guardK_bool, guardO_bool, guardO_skip, guardK_skip, ev_t, ev_c, mk_cons, put_some, put_none, qv_mv, qv_pick, qv_bin, qv_un, qv_conv, qv_nilCheck, qv_build, qv_field, qv_fieldAddr, qv_indexAddr, qv_indexStr, qv_extract, qv_len, qv_lenStr, qv_cap, qv_slice, qv_sliceStr, qv_maxmin, qv_makeFunc, qv_load, qv_rev, eff_alloc, eff_box, eff_buildSl, eff_store, aStore_ptr, eff_makeSl, aMake_int, eff_append, eff_copy, eff_call, eff_callV, aCallV_clo, abin_add, abin_sub, abin_mul, abin_quo, abin_rem, abin_eql, abin_neq, abin_lss, abin_leq, abin_gtr, abin_geq, abin_beql, abin_bneq, abin_nn, abin_sn, abin_ns, abin_nnx, abin_snx, abin_nsx, abin_str, aun_neg, aun_not, aPick_true, aPick_false, aConv_int, aNil_ptr, aNil_clo, aField_agg, aField_one, aFieldAddr_ptr, Int.toNat_natCast, rd1_new, rd_new, new_next, Nat.left_eq_add, Nat.add_eq_left, Nat.succ_ne_self, Nat.one_ne_zero, Nat.add_left_cancel_iff, Nat.add_assoc, List.getElem?_cons_zero, List.getElem?_cons_succ, List.take_succ_cons, List.take_zero, List.drop_succ_cons, List.drop_zero, List.take_nil, List.drop_nil, Nat.reduceLeDiff, Nat.le_refl, afill_nil, afill_cons, zeros_zero, zeros_one1, zeros_single, Nat.lt_add_one, Int.reduceEq, Int.reduceLT, Int.reduceLE, Int.reduceNeg, aExtract_tup, aLen_sl, aLen_nils, aLenStr_str, aMaxmin_int, ldv_one, ldv_agg, news_nil, news_cons, RecOK_nil, RecOK_none, RecOK_cons, recOf, wantedI, rvals_nil, rvals_tmp, rvals_cell, retQ_normal, retQ_ret, packR_one, packR_nil, packR_two, optK_some, optK_none, optK_bind, optK_map, List.map_cons, List.map_nil, Nat.reduceEqDiff, if_true, if_false, ite_true, ite_false, List.nil_append, List.cons_append, Option.map_some, Option.map_none, reduceCtorEq, decide_true, decide_false, Bool.not_true, Bool.not_false, cells_int, cells_bool, cells_str, cells_nilp, cells_ptr, cells_nils, cells_sl, cells_nilf, cells_clo, cells_agg, List.all_cons, List.all_nil, one_int, one_bool, one_str, one_nilp, one_ptr, one_nils, one_sl, one_nilf, one_clo, List.length_cons, List.length_nil, Bool.and_true, Bool.true_and, Bool.and_self, true_and, and_true, Bool.true_eq_false, Bool.false_eq_true, List.contains_cons, List.contains_nil, Bool.or_false, Bool.or_true, Bool.true_or, Bool.false_or, eq_self, Nat.reduceBEq, Nat.reduceAdd, Nat.mul_one, Nat.zero_add, Nat.add_zero, hlen, Int.lt_irrefl]
    have := hk h' (Upd.refl hw)
    simpa [totL] using this
  · obtain ⟨hwt, _, hWs⟩ := hW.resolve_left hne
    obtain ⟨o, cap, rfl, ho, hz⟩ := hv.whole hwt hne
    rw [ead_fz hne] at hnd
    obtain ⟨n1, n2⟩ := List.nodup_cons.1 hnd
    simp only [nm_eq, ↓reduceIte, vc_skip, vc_region, vc_draw, vc_seq, vc_cond, vc_block, vc_exit, vc_ret, RV_nil, RV_q, RV_e, DV_nil, DV_q, DV_e, gq_none, gq_some, ge_none, ge_some, condK_true, condK_false, condK_dec, condK_ndec, guardK_bool, guardO_bool, guardO_skip, guardK_skip, ev_t, ev_c, mk_cons, put_some, put_none, qv_mv, qv_pick, qv_bin, qv_un, qv_conv, qv_nilCheck, qv_build, qv_field, qv_fieldAddr, qv_indexAddr, qv_indexStr, qv_extract, qv_len, qv_lenStr, qv_cap, qv_slice, qv_sliceStr, qv_maxmin, qv_makeFunc, qv_load, qv_rev, eff_alloc, eff_box, eff_buildSl, eff_store, aStore_ptr, eff_makeSl, aMake_int, eff_append, eff_copy, eff_call, eff_callV, aCallV_clo, abin_add, abin_sub, abin_mul, abin_quo, abin_rem, abin_eql, abin_neq, abin_lss, abin_leq, abin_gtr, abin_geq, abin_beql, abin_bneq, abin_nn, abin_sn, abin_ns, abin_nnx, abin_snx, abin_nsx, abin_str, aun_neg, aun_not, aPick_true, aPick_false, aConv_int, aNil_ptr, aNil_clo, aField_agg, aField_one, aFieldAddr_ptr, Int.toNat_natCast, rd1_new, rd_new, new_next, Nat.left_eq_add, Nat.add_eq_left, Nat.succ_ne_self, Nat.one_ne_zero, Nat.add_left_cancel_iff, Nat.add_assoc, List.getElem?_cons_zero, List.getElem?_cons_succ, List.take_succ_cons, List.take_zero, List.drop_succ_cons, List.drop_zero, List.take_nil, List.drop_nil, Nat.reduceLeDiff, Nat.le_refl, afill_nil, afill_cons, zeros_zero, zeros_one1, zeros_single, Nat.lt_add_one, Int.reduceEq, Int.reduceLT, Int.reduceLE, Int.reduceNeg, aExtract_tup, aLen_sl, aLen_nils, aLenStr_str, aMaxmin_int, ldv_one, ldv_agg, news_nil, news_cons, RecOK_nil, RecOK_none, RecOK_cons, recOf, wantedI, rvals_nil, rvals_tmp, rvals_cell, retQ_normal, retQ_ret, packR_one, packR_nil, packR_two, optK_some, optK_none, optK_bind, optK_map, List.map_cons, List.map_nil, Nat.reduceEqDiff, if_true, if_false, ite_true, ite_false, List.nil_append, List.cons_append, Option.map_some, Option.map_none, reduceCtorEq, decide_true, decide_false, Bool.not_true, Bool.not_false, cells_int, cells_bool, cells_str, cells_nilp, cells_ptr, cells_nils, cells_sl, cells_nilf, cells_clo, cells_agg, List.all_cons, List.all_nil, one_int, one_bool, one_str, one_nilp, one_ptr, one_nils, one_sl, one_nilf, one_clo, List.length_cons, List.length_nil, Bool.and_true, Bool.true_and, Bool.and_self, true_and, and_true, Bool.true_eq_false, Bool.false_eq_true, List.contains_cons, List.contains_nil, Bool.or_false, Bool.or_true, Bool.true_or, Bool.false_or, eq_self, Nat.reduceBEq, Nat.reduceAdd, Nat.mul_one, Nat.zero_add, Nat.add_zero, er]
    refine vc_loop (fun m vs h' => ∃ i : Nat, i ≤ xs.length ∧ m = xs.length - i ∧ vs = [.sl o 0 xs.length cap, .int .i64 (k + totL List.length (xs.take i)), .int .i64 i] ∧ Upd h (mkS mkI List.length k (rows.take i) (xs.take i)) h') xs.length ?_ ?_
    · exact ⟨0, by omega, by omega, by rw [List.take_zero, totL_nil]; exact (by (simp only [nm_eq, ↓reduceIte, vc_skip, vc_region, vc_draw, vc_seq, vc_cond, vc_block, vc_exit, vc_ret, RV_nil, RV_q, RV_e, DV_nil, DV_q, DV_e, gq_none, gq_some, ge_none, ge_some, condK_true, condK_false, condK_dec, condK_ndec, guardK_bool, guardO_bool, guardO_skip, guardK_skip, ev_t, ev_c, mk_cons, put_some, put_none, qv_mv, qv_pick, qv_bin, qv_un, qv_conv, qv_nilCheck, qv_build, qv_field, qv_fieldAddr, qv_indexAddr, qv_indexStr, qv_extract, qv_len, qv_lenStr, qv_cap, qv_slice, qv_sliceStr, qv_maxmin, qv_makeFunc, qv_load, qv_rev, eff_alloc, eff_box, eff_buildSl, eff_store, aStore_ptr, eff_makeSl, aMake_int, eff_append, eff_copy, eff_call, eff_callV, aCallV_clo, abin_add, abin_sub, abin_mul, abin_quo, abin_rem, abin_eql, abin_neq, abin_lss, abin_leq, abin_gtr, abin_geq, abin_beql, abin_bneq, abin_nn, abin_sn, abin_ns, abin_nnx, abin_snx, abin_nsx, abin_str, aun_neg, aun_not, aPick_true, aPick_false, aConv_int, aNil_ptr, aNil_clo, aField_agg, aField_one, aFieldAddr_ptr, Int.toNat_natCast, rd1_new, rd_new, new_next, Nat.left_eq_add, Nat.add_eq_left, Nat.succ_ne_self, Nat.one_ne_zero, Nat.add_left_cancel_iff, Nat.add_assoc, List.getElem?_cons_zero, List.getElem?_cons_succ, List.take_succ_cons, List.take_zero, List.drop_succ_cons, List.drop_zero, List.take_nil, List.drop_nil, Nat.reduceLeDiff, Nat.le_refl, afill_nil, afill_cons, zeros_zero, zeros_one1, zeros_single, Nat.lt_add_one, Int.reduceEq, Int.reduceLT, Int.reduceLE, Int.reduceNeg, aExtract_tup, aLen_sl, aLen_nils, aLenStr_str, aMaxmin_int, ldv_one, ldv_agg, news_nil, news_cons, RecOK_nil, RecOK_none, RecOK_cons, recOf, wantedI, rvals_nil, rvals_tmp, rvals_cell, retQ_normal, retQ_ret, packR_one, packR_nil, packR_two, optK_some, optK_none, optK_bind, optK_map, List.map_cons, List.map_nil, Nat.reduceEqDiff, if_true, if_false, ite_true, ite_false, List.nil_append, List.cons_append, Option.map_some, Option.map_none, reduceCtorEq, decide_true, decide_false, Bool.not_true, Bool.not_false, cells_int, cells_bool, cells_str, cells_nilp, cells_ptr, cells_nils, cells_sl, cells_nilf, cells_clo, cells_agg, List.all_cons, List.all_nil, one_int, one_bool, one_str, one_nilp, one_ptr, one_nils, one_sl, one_nilf, one_clo, List.length_cons, List.length_nil, Bool.and_true, Bool.true_and, Bool.and_self, true_and, and_true, Bool.true_eq_false, Bool.false_eq_true, List.contains_cons, List.contains_nil, Bool.or_false, Bool.or_true, Bool.true_or, Bool.false_or, eq_self, Nat.reduceBEq, Nat.reduceAdd, Nat.mul_one, Nat.zero_add, Nat.add_zero, List.cons.injEq, AV.int.injEq, AV.sl.injEq, and_self]) <;> omega), by simp only [List.take_zero, mkS_nil]; exact Upd.refl hw⟩
    · rintro m vs h' ⟨i, hi, rfl, rfl, u⟩
      simp only [nm_eq, ↓reduceIte, vc_skip, vc_region, vc_draw, vc_seq, vc_cond, vc_block, vc_exit, vc_ret, RV_nil, RV_q, RV_e, DV_nil, DV_q, DV_e, gq_none, gq_some, ge_none, ge_some, condK_true, condK_false, condK_dec, condK_ndec, guardK_bool, guardO_bool, guardO_skip, guardK_skip, ev_t, ev_c, mk_cons, put_some, put_none, qv_mv, qv_pick, qv_bin, qv_un, qv_conv, qv_nilCheck, qv_build, qv_field, qv_fieldAddr, qv_indexAddr, qv_indexStr, qv_extract, qv_len, qv_lenStr, qv_cap, qv_slice, qv_sliceStr, qv_maxmin, qv_makeFunc, qv_load, qv_rev, eff_alloc, eff_box, eff_buildSl, eff_store, aStore_ptr, eff_makeSl, aMake_int, eff_append, eff_copy, eff_call, eff_callV, aCallV_clo, abin_add, abin_sub, abin_mul, abin_quo, abin_rem, abin_eql, abin_neq, abin_lss, abin_leq, abin_gtr, abin_geq, abin_beql, abin_bneq, abin_nn, abin_sn, abin_ns, abin_nnx, abin_snx, abin_nsx, abin_str, aun_neg, aun_not, aPick_true, aPick_false, aConv_int, aNil_ptr, aNil_clo, aField_agg, aField_one, aFieldAddr_ptr, Int.toNat_natCast, rd1_new, rd_new, new_next, Nat.left_eq_add, Nat.add_eq_left, Nat.succ_ne_self, Nat.one_ne_zero, Nat.add_left_cancel_iff, Nat.add_assoc, List.getElem?_cons_zero, List.getElem?_cons_succ, List.take_succ_cons, List.take_zero, List.drop_succ_cons, List.drop_zero, List.take_nil, List.drop_nil, Nat.reduceLeDiff, Nat.le_refl, afill_nil, afill_cons, zeros_zero, zeros_one1, zeros_single, Nat.lt_add_one, Int.reduceEq, Int.reduceLT, Int.reduceLE, Int.reduceNeg, aExtract_tup, aLen_sl, aLen_nils, aLenStr_str, aMaxmin_int, ldv_one, ldv_agg, news_nil, news_cons, RecOK_nil, RecOK_none, RecOK_cons, recOf, wantedI, rvals_nil, rvals_tmp, rvals_cell, retQ_normal, retQ_ret, packR_one, packR_nil, packR_two, optK_some, optK_none, optK_bind, optK_map, List.map_cons, List.map_nil, Nat.reduceEqDiff, if_true, if_false, ite_true, ite_false, List.nil_append, List.cons_append, Option.map_some, Option.map_none, reduceCtorEq, decide_true, decide_false, Bool.not_true, Bool.not_false, cells_int, cells_bool, cells_str, cells_nilp, cells_ptr, cells_nils, cells_sl, cells_nilf, cells_clo, cells_agg, List.all_cons, List.all_nil, one_int, one_bool, one_str, one_nilp, one_ptr, one_nils, one_sl, one_nilf, one_clo, List.length_cons, List.length_nil, Bool.and_true, Bool.true_and, Bool.and_self, true_and, and_true, Bool.true_eq_false, Bool.false_eq_true, List.contains_cons, List.contains_nil, Bool.or_false, Bool.or_true, Bool.true_or, Bool.false_or, eq_self, Nat.reduceBEq, Nat.reduceAdd, Nat.mul_one, Nat.zero_add, Nat.add_zero]
      split
      · have hlt : i < xs.length := by omega
        obtain ⟨v, hv1, hv2, hv3, hv4, hv5, hv6⟩ := mkT_I.step hr hWs n2 hv.2 hlt u
        have hld : h'.rd1 o i = some (er idz v) := by
          rw [rd1_of_obj (by rw [u.same o hz (lookup_none.2 fun hm => n1 (eads_take (mkT_I.keysS (hr.take i) (Whs_iff.2 fun c hc => Whs_iff.1 hWs c (List.mem_of_mem_take hc)) o hm)))]; exact ho)]
          rw [ers_get, hv1]; rfl
        have ht := totL_snoc (len := List.length) hlt
        have htl := totL_le List.length xs (i + 1)
        have hbi := hb2 _ (List.getElem_mem hlt)
        simp only [nm_eq, ↓reduceIte, vc_skip, vc_region, vc_draw, vc_seq, vc_cond, vc_block, vc_exit, vc_ret, RV_nil, RV_q, RV_e, DV_nil, DV_q, DV_e, gq_none, gq_some, ge_none, ge_some, condK_true, condK_false, condK_dec, condK_ndec, guardK_bool, guardO_bool, guardO_skip, guardK_skip, ev_t, ev_c, mk_cons, put_some, put_none, qv_mv, qv_pick, qv_bin, qv_un, qv_conv, qv_nilCheck, qv_build, qv_field, qv_fieldAddr, qv_indexAddr, qv_indexStr, qv_extract, qv_len, qv_lenStr, qv_cap, qv_slice, qv_sliceStr, qv_maxmin, qv_makeFunc, qv_load, qv_rev, eff_alloc, eff_box, eff_buildSl, eff_store, aStore_ptr, eff_makeSl, aMake_int, eff_append, eff_copy, eff_call, eff_callV, aCallV_clo, abin_add, abin_sub, abin_mul, abin_quo, abin_rem, abin_eql, abin_neq, abin_lss, abin_leq, abin_gtr, abin_geq, abin_beql, abin_bneq, abin_nn, abin_sn, abin_ns, abin_nnx, abin_snx, abin_nsx, abin_str, aun_neg, aun_not, aPick_true, aPick_false, aConv_int, aNil_ptr, aNil_clo, aField_agg, aField_one, aFieldAddr_ptr, Int.toNat_natCast, rd1_new, rd_new, new_next, Nat.left_eq_add, Nat.add_eq_left, Nat.succ_ne_self, Nat.one_ne_zero, Nat.add_left_cancel_iff, Nat.add_assoc, List.getElem?_cons_zero, List.getElem?_cons_succ, List.take_succ_cons, List.take_zero, List.drop_succ_cons, List.drop_zero, List.take_nil, List.drop_nil, Nat.reduceLeDiff, Nat.le_refl, afill_nil, afill_cons, zeros_zero, zeros_one1, zeros_single, Nat.lt_add_one, Int.reduceEq, Int.reduceLT, Int.reduceLE, Int.reduceNeg, aExtract_tup, aLen_sl, aLen_nils, aLenStr_str, aMaxmin_int, ldv_one, ldv_agg, news_nil, news_cons, RecOK_nil, RecOK_none, RecOK_cons, recOf, wantedI, rvals_nil, rvals_tmp, rvals_cell, retQ_normal, retQ_ret, packR_one, packR_nil, packR_two, optK_some, optK_none, optK_bind, optK_map, List.map_cons, List.map_nil, Nat.reduceEqDiff, if_true, if_false, ite_true, ite_false, List.nil_append, List.cons_append, Option.map_some, Option.map_none, reduceCtorEq, decide_true, decide_false, Bool.not_true, Bool.not_false, cells_int, cells_bool, cells_str, cells_nilp, cells_ptr, cells_nils, cells_sl, cells_nilf, cells_clo, cells_agg, List.all_cons, List.all_nil, one_int, one_bool, one_str, one_nilp, one_ptr, one_nils, one_sl, one_nilf, one_clo, List.length_cons, List.length_nil, Bool.and_true, Bool.true_and, Bool.and_self, true_and, and_true, Bool.true_eq_false, Bool.false_eq_true, List.contains_cons, List.contains_nil, Bool.or_false, Bool.or_true, Bool.true_or, Bool.false_or, eq_self, Nat.reduceBEq, Nat.reduceAdd, Nat.mul_one, Nat.zero_add, Nat.add_zero, aIndex_nat hlt, hld, wrapS hlt (by omega : xs.length ≤ 4611686018427387904)]
        refine markInt64S_A hv2 hv3 u.wf hv5 hbi (by omega) (by omega) fun h'' u' => ?_
        simp only [nm_eq, ↓reduceIte, vc_skip, vc_region, vc_draw, vc_seq, vc_cond, vc_block, vc_exit, vc_ret, RV_nil, RV_q, RV_e, DV_nil, DV_q, DV_e, gq_none, gq_some, ge_none, ge_some, condK_true, condK_false, condK_dec, condK_ndec, guardK_bool, guardO_bool, guardO_skip, guardK_skip, ev_t, ev_c, mk_cons, put_some, put_none, qv_mv, qv_pick, qv_bin, qv_un, qv_conv, qv_nilCheck, qv_build, qv_field, qv_fieldAddr, qv_indexAddr, qv_indexStr, qv_extract, qv_len, qv_lenStr, qv_cap, qv_slice, qv_sliceStr, qv_maxmin, qv_makeFunc, qv_load, qv_rev, eff_alloc, eff_box, eff_buildSl, eff_store, aStore_ptr, eff_makeSl, aMake_int, eff_append, eff_copy, eff_call, eff_callV, aCallV_clo, abin_add, abin_sub, abin_mul, abin_quo, abin_rem, abin_eql, abin_neq, abin_lss, abin_leq, abin_gtr, abin_geq, abin_beql, abin_bneq, abin_nn, abin_sn, abin_ns, abin_nnx, abin_snx, abin_nsx, abin_str, aun_neg, aun_not, aPick_true, aPick_false, aConv_int, aNil_ptr, aNil_clo, aField_agg, aField_one, aFieldAddr_ptr, Int.toNat_natCast, rd1_new, rd_new, new_next, Nat.left_eq_add, Nat.add_eq_left, Nat.succ_ne_self, Nat.one_ne_zero, Nat.add_left_cancel_iff, Nat.add_assoc, List.getElem?_cons_zero, List.getElem?_cons_succ, List.take_succ_cons, List.take_zero, List.drop_succ_cons, List.drop_zero, List.take_nil, List.drop_nil, Nat.reduceLeDiff, Nat.le_refl, afill_nil, afill_cons, zeros_zero, zeros_one1, zeros_single, Nat.lt_add_one, Int.reduceEq, Int.reduceLT, Int.reduceLE, Int.reduceNeg, aExtract_tup, aLen_sl, aLen_nils, aLenStr_str, aMaxmin_int, ldv_one, ldv_agg, news_nil, news_cons, RecOK_nil, RecOK_none, RecOK_cons, recOf, wantedI, rvals_nil, rvals_tmp, rvals_cell, retQ_normal, retQ_ret, packR_one, packR_nil, packR_two, optK_some, optK_none, optK_bind, optK_map, List.map_cons, List.map_nil, Nat.reduceEqDiff, if_true, if_false, ite_true, ite_false, List.nil_append, List.cons_append, Option.map_some, Option.map_none, reduceCtorEq, decide_true, decide_false, Bool.not_true, Bool.not_false, cells_int, cells_bool, cells_str, cells_nilp, cells_ptr, cells_nils, cells_sl, cells_nilf, cells_clo, cells_agg, List.all_cons, List.all_nil, one_int, one_bool, one_str, one_nilp, one_ptr, one_nils, one_sl, one_nilf, one_clo, List.length_cons, List.length_nil, Bool.and_true, Bool.true_and, Bool.and_self, true_and, and_true, Bool.true_eq_false, Bool.false_eq_true, List.contains_cons, List.contains_nil, Bool.or_false, Bool.or_true, Bool.true_or, Bool.false_or, eq_self, Nat.reduceBEq, Nat.reduceAdd, Nat.mul_one, Nat.zero_add, Nat.add_zero, wrapS hlt (by omega : xs.length ≤ 4611686018427387904)]
        exact ⟨_, by omega, i + 1, by omega, rfl, (by (simp only [nm_eq, ↓reduceIte, vc_skip, vc_region, vc_draw, vc_seq, vc_cond, vc_block, vc_exit, vc_ret, RV_nil, RV_q, RV_e, DV_nil, DV_q, DV_e, gq_none, gq_some, ge_none, ge_some, condK_true, condK_false, condK_dec, condK_ndec, guardK_bool, guardO_bool, guardO_skip, guardK_skip, ev_t, ev_c, mk_cons, put_some, put_none, qv_mv, qv_pick, qv_bin, qv_un, qv_conv, qv_nilCheck, qv_build, qv_field, qv_fieldAddr, qv_indexAddr, qv_indexStr, qv_extract, qv_len, qv_lenStr, qv_cap, qv_slice, qv_sliceStr, qv_maxmin, qv_makeFunc, qv_load, qv_rev, eff_alloc, eff_box, eff_buildSl, eff_store, aStore_ptr, eff_makeSl, aMake_int, eff_append, eff_copy, eff_call, eff_callV, aCallV_clo, abin_add, abin_sub, abin_mul, abin_quo, abin_rem, abin_eql, abin_neq, abin_lss, abin_leq, abin_gtr, abin_geq, abin_beql, abin_bneq, abin_nn, abin_sn, abin_ns, abin_nnx, abin_snx, abin_nsx, abin_str, aun_neg, aun_not, aPick_true, aPick_false, aConv_int, aNil_ptr, aNil_clo, aField_agg, aField_one, aFieldAddr_ptr, Int.toNat_natCast, rd1_new, rd_new, new_next, Nat.left_eq_add, Nat.add_eq_left, Nat.succ_ne_self, Nat.one_ne_zero, Nat.add_left_cancel_iff, Nat.add_assoc, List.getElem?_cons_zero, List.getElem?_cons_succ, List.take_succ_cons, List.take_zero, List.drop_succ_cons, List.drop_zero, List.take_nil, List.drop_nil, Nat.reduceLeDiff, Nat.le_refl, afill_nil, afill_cons, zeros_zero, zeros_one1, zeros_single, Nat.lt_add_one, Int.reduceEq, Int.reduceLT, Int.reduceLE, Int.reduceNeg, aExtract_tup, aLen_sl, aLen_nils, aLenStr_str, aMaxmin_int, ldv_one, ldv_agg, news_nil, news_cons, RecOK_nil, RecOK_none, RecOK_cons, recOf, wantedI, rvals_nil, rvals_tmp, rvals_cell, retQ_normal, retQ_ret, packR_one, packR_nil, packR_two, optK_some, optK_none, optK_bind, optK_map, List.map_cons, List.map_nil, Nat.reduceEqDiff, if_true, if_false, ite_true, ite_false, List.nil_append, List.cons_append, Option.map_some, Option.map_none, reduceCtorEq, decide_true, decide_false, Bool.not_true, Bool.not_false, cells_int, cells_bool, cells_str, cells_nilp, cells_ptr, cells_nils, cells_sl, cells_nilf, cells_clo, cells_agg, List.all_cons, List.all_nil, one_int, one_bool, one_str, one_nilp, one_ptr, one_nils, one_sl, one_nilf, one_clo, List.length_cons, List.length_nil, Bool.and_true, Bool.true_and, Bool.and_self, true_and, and_true, Bool.true_eq_false, Bool.false_eq_true, List.contains_cons, List.contains_nil, Bool.or_false, Bool.or_true, Bool.true_or, Bool.false_or, eq_self, Nat.reduceBEq, Nat.reduceAdd, Nat.mul_one, Nat.zero_add, Nat.add_zero, List.cons.injEq, AV.int.injEq, AV.sl.injEq, and_self]) <;> omega), hv6 _ u'⟩
      · have hie : i = xs.length := by omega
        subst hie
        rw [List.take_length, List.take_of_length_le (by rw [hr.1]; exact Nat.le_refl _)] at u
        rw [List.take_length]
        exact hk _ u
theorem markInt64SSS_A {v : PV} {xs : List (List (List Int))} {k : Int} (hI : FIII v xs) (hW : Wh v) (hnd : (ead v).Nodup) (hw : HWF h) (hv : VOK (zlt h) h 0 v) (hb : xs.length ≤ 4294967296) (hb2 : ∀ x ∈ xs, x.length ≤ 4294967296 ∧ ∀ y ∈ x, y.length ≤ 4294967296) (hk0 : 0 ≤ k) (hk1 : k + totL (totL List.length) xs ≤ 4611686018427387904)
    (hk : ∀ h', Upd h (mkF (mkF mkI List.length) (totL List.length) k v xs) h' → K (.int .i64 (k + totL (totL List.length) xs)) h') : ACalls Try.prog 72 [er idz v, .int .i64 k] h K := by
  refine acalls_of_vc mix Try.func72 cf72 rfl ?_
  dsimp only [if72]
  obtain ⟨w, a, rows, rfl, hr⟩ := hI
  by_cases hne : rows = []
  · have hx := hr.nil_iff.1 hne
    subst hne
    subst hx
    have hlen : aLen a = some (.int .i64 ((0 : Nat) : Int)) := by
      obtain ⟨rfl, _⟩ | ⟨o, off, cap, rfl, _⟩ := hv.1 <;> rfl
    simp only [nm_eq, ↓reduceIte, vc_skip, vc_region, vc_draw, vc_seq, vc_cond, vc_block, vc_exit, vc_ret, RV_nil, RV_q, RV_e, DV_nil, DV_q, DV_e, gq_none, gq_some, ge_none, ge_some, condK_true, condK_false, condK_dec, condK_ndec, guardK_bool, guardO_bool, guardO_skip, guardK_skip, ev_t, ev_c, mk_cons, put_some, put_none, qv_mv, qv_pick, qv_bin, qv_un, qv_conv, qv_nilCheck, qv_build, qv_field, qv_fieldAddr, qv_indexAddr, qv_indexStr, qv_extract, qv_len, qv_lenStr, qv_cap, qv_slice, qv_sliceStr, qv_maxmin, qv_makeFunc, qv_load, qv_rev, eff_alloc, eff_box, eff_buildSl, eff_store, aStore_ptr, eff_makeSl, aMake_int, eff_append, eff_copy, eff_call, eff_callV, aCallV_clo, abin_add, abin_sub, abin_mul, abin_quo, abin_rem, abin_eql, abin_neq, abin_lss, abin_leq, abin_gtr, abin_geq, abin_beql, abin_bneq, abin_nn, abin_sn, abin_ns, abin_nnx, abin_snx, abin_nsx, abin_str, aun_neg, aun_not, aPick_true, aPick_false, aConv_int, aNil_ptr, aNil_clo, aField_agg, aField_one, aFieldAddr_ptr, Int.toNat_natCast, rd1_new, rd_new, new_next, Nat.left_eq_add, Nat.add_eq_left, Nat.succ_ne_self, Nat.one_ne_zero, Nat.add_left_cancel_iff, Nat.add_assoc, List.getElem?_cons_zero, List.getElem?_cons_succ, List.take_succ_cons, List.take_zero, List.drop_succ_cons, List.drop_zero, List.take_nil, List.drop_nil, Nat.reduceLeDiff, Nat.le_refl, afill_nil, afill_cons, zeros_zero, zeros_one1, zeros_single, Nat.lt_add_one, Int.reduceEq, Int.reduceLT, Int.reduceLE, Int.reduceNeg, aExtract_tup, aLen_sl, aLen_nils, aLenStr_str, aMaxmin_int, ldv_one, ldv_agg, news_nil, news_cons, RecOK_nil, RecOK_none, RecOK_cons, recOf, wantedI, rvals_nil, rvals_tmp, rvals_cell, retQ_normal, retQ_ret, packR_one, packR_nil, packR_two, optK_some, optK_none, optK_bind, optK_map, List.map_cons, List.map_nil, Nat.reduceEqDiff, if_true, if_false, ite_true, ite_false, List.nil_append, List.cons_append, Option.map_some, Option.map_none, reduceCtorEq, decide_true, decide_false, Bool.not_true, Bool.not_false, cells_int, cells_bool, cells_str, cells_nilp, cells_ptr, cells_nils, cells_sl, cells_nilf, cells_clo, cells_agg, List.all_cons, List.all_nil, one_int, one_bool, one_str, one_nilp, one_ptr, one_nils, one_sl, one_nilf, one_clo, List.length_cons, List.length_nil, Bool.and_true, Bool.true_and, Bool.and_self, true_and, and_true, Bool.true_eq_false, Bool.false_eq_true, List.contains_cons, List.contains_nil, Bool.or_false, Bool.or_true, Bool.true_or, Bool.false_or, eq_self, Nat.reduceBEq, Nat.reduceAdd, Nat.mul_one, Nat.zero_add, Nat.add_zero, er]
    refine vc_loop (fun m vs h' => vs = [a, .int .i64 k, .int .i64 0] ∧ h' = h) 0 ⟨rfl, rfl⟩ ?_
    rintro m vs h' ⟨rfl, rfl⟩
    simp only [nm_eq, ↓reduceIte, vc_skip, vc_region, vc_draw, vc_seq, vc_cond, vc_block, vc_exit, vc_ret, RV_nil, RV_q, RV_e, DV_nil, DV_q, DV_e, gq_none, gq_some, ge_none, ge_some, condK_true, condK_false, condK_dec, condK_ndec, guardK_bool, guardO_bool, guardO_skip, guardK_skip, ev_t, ev_c, mk_cons, put_some, put_none, qv_mv, qv_pick, qv_bin, qv_un, qv_conv, qv_nilCheck, qv_build, qv_field, qv_fieldAddr, qv_indexAddr, qv_indexStr, qv_extract, qv_len, qv_lenStr, qv_cap, qv_slice, qv_sliceStr, qv_maxmin, qv_makeFunc, qv_load, qv_rev, eff_alloc, eff_box, eff_buildSl, eff_store, aStore_ptr, eff_makeSl, aMake_int, eff_append, eff_copy, eff_call, eff_callV, aCallV_clo, abin_add, abin_sub, abin_mul, abin_quo, abin_rem, abin_eql, abin_neq, abin_lss, abin_leq, abin_gtr, abin_geq, abin_beql, abin_bneq, abin_nn, abin_sn, abin_ns, abin_nnx, abin_snx, abin_nsx, abin_str, aun_neg, aun_not, aPick_true, aPick_false, aConv_int, aNil_ptr, aNil_clo, aField_agg, aField_one, aFieldAddr_ptr, Int.toNat_natCast, rd1_new, rd_new, new_next, Nat.left_eq_add, Nat.add_eq_left, Nat.succ_ne_self, Nat.one_ne_zero, Nat.add_left_cancel_iff, Nat.add_assoc, List.getElem?_cons_zero, List.getElem?_cons_succ, List.take_succ_cons, List.take_zero, List.drop_succ_cons, List.drop_zero, List.take_nil, List.drop_nil, Nat.reduceLeDiff, Nat.le_refl, afill_nil, afill_cons, zeros_zero, zeros_one1, zeros_single, Nat.lt_add_one, Int.reduceEq, Int.reduceLT, Int.reduceLE, Int.reduceNeg, aExtract_tup, aLen_sl, aLen_nils, aLenStr_str, aMaxmin_int, ldv_one, ldv_agg, news_nil, news_cons, RecOK_nil, RecOK_none, RecOK_cons, recOf, wantedI, rvals_nil, rvals_tmp, rvals_cell, retQ_normal, retQ_ret, packR_one, packR_nil, packR_two, optK_some, optK_none, optK_bind, optK_map, List.map_cons, List.map_nil, Nat.reduceEqDiff, if_true, if_false, ite_true, ite_false, List.nil_append, List.cons_append, Option.map_some, Option.map_none, reduceCtorEq, decide_true, decide_false, Bool.not_true, Bool.not_false, cells_int, cells_bool, cells_str, cells_nilp, cells_ptr, cells_nils, cells_sl, cells_nilf, cells_clo, cells_agg, List.all_cons, List.all_nil, one_int, one_bool, one_str, one_nilp, one_ptr, one_nils, one_sl, one_nilf, one_clo, List.length_cons, List.length_nil, Bool.and_true, Bool.true_and, Bool.and_self, true_and, and_true, Bool.true_eq_false, Bool.false_eq_true, List.contains_cons, List.contains_nil, Bool.or_false, Bool.or_true, Bool.true_or, Bool.false_or, eq_self, Nat.reduceBEq, Nat.reduceAdd, Nat.mul_one, Nat.zero_add, Nat.add_zero, hlen, Int.lt_irrefl]
    have := hk h' (Upd.refl hw)
    simpa [totL] using this
  · obtain ⟨hwt, _, hWs⟩ := hW.resolve_left hne
    obtain ⟨o, cap, rfl, ho, hz⟩ := hv.whole hwt hne
    rw [ead_fz hne] at hnd
    obtain ⟨n1, n2⟩ := List.nodup_cons.1 hnd
    simp only [nm_eq, ↓reduceIte, vc_skip, vc_region, vc_draw, vc_seq, vc_cond, vc_block, vc_exit, vc_ret, RV_nil, RV_q, RV_e, DV_nil, DV_q, DV_e, gq_none, gq_some, ge_none, ge_some, condK_true, condK_false, condK_dec, condK_ndec, guardK_bool, guardO_bool, guardO_skip, guardK_skip, ev_t, ev_c, mk_cons, put_some, put_none, qv_mv, qv_pick, qv_bin, qv_un, qv_conv, qv_nilCheck, qv_build, qv_field, qv_fieldAddr, qv_indexAddr, qv_indexStr, qv_extract, qv_len, qv_lenStr, qv_cap, qv_slice, qv_sliceStr, qv_maxmin, qv_makeFunc, qv_load, qv_rev, eff_alloc, eff_box, eff_buildSl, eff_store, aStore_ptr, eff_makeSl, aMake_int, eff_append, eff_copy, eff_call, eff_callV, aCallV_clo, abin_add, abin_sub, abin_mul, abin_quo, abin_rem, abin_eql, abin_neq, abin_lss, abin_leq, abin_gtr, abin_geq, abin_beql, abin_bneq, abin_nn, abin_sn, abin_ns, abin_nnx, abin_snx, abin_nsx, abin_str, aun_neg, aun_not, aPick_true, aPick_false, aConv_int, aNil_ptr, aNil_clo, aField_agg, aField_one, aFieldAddr_ptr, Int.toNat_natCast, rd1_new, rd_new, new_next, Nat.left_eq_add, Nat.add_eq_left, Nat.succ_ne_self, Nat.one_ne_zero, Nat.add_left_cancel_iff, Nat.add_assoc, List.getElem?_cons_zero, List.getElem?_cons_succ, List.take_succ_cons, List.take_zero, List.drop_succ_cons, List.drop_zero, List.take_nil, List.drop_nil, Nat.reduceLeDiff, Nat.le_refl, afill_nil, afill_cons, zeros_zero, zeros_one1, zeros_single, Nat.lt_add_one, Int.reduceEq, Int.reduceLT, Int.reduceLE, Int.reduceNeg, aExtract_tup, aLen_sl, aLen_nils, aLenStr_str, aMaxmin_int, ldv_one, ldv_agg, news_nil, news_cons, RecOK_nil, RecOK_none, RecOK_cons, recOf, wantedI, rvals_nil, rvals_tmp, rvals_cell, retQ_normal, retQ_ret, packR_one, packR_nil, packR_two, optK_some, optK_none, optK_bind, optK_map, List.map_cons, List.map_nil, Nat.reduceEqDiff, if_true, if_false, ite_true, ite_false, List.nil_append, List.cons_append, Option.map_some, Option.map_none, reduceCtorEq, decide_true, decide_false, Bool.not_true, Bool.not_false, cells_int, cells_bool, cells_str, cells_nilp, cells_ptr, cells_nils, cells_sl, cells_nilf, cells_clo, cells_agg, List.all_cons, List.all_nil, one_int, one_bool, one_str, one_nilp, one_ptr, one_nils, one_sl, one_nilf, one_clo, List.length_cons, List.length_nil, Bool.and_true, Bool.true_and, Bool.and_self, true_and, and_true, Bool.true_eq_false, Bool.false_eq_true, List.contains_cons, List.contains_nil, Bool.or_false, Bool.or_true, Bool.true_or, Bool.false_or, eq_self, Nat.reduceBEq, Nat.reduceAdd, Nat.mul_one, Nat.zero_add, Nat.add_zero, er]
    refine vc_loop (fun m vs h' => ∃ i : Nat, i ≤ xs.length ∧ m = xs.length - i ∧ vs = [.sl o 0 xs.length cap, .int .i64 (k + totL (totL List.length) (xs.take i)), .int .i64 i] ∧ Upd h (mkS (mkF mkI List.length) (totL List.length) k (rows.take i) (xs.take i)) h') xs.length ?_ ?_
    · exact ⟨0, by omega, by omega, by rw [List.take_zero, totL_nil]; exact (by (simp only [nm_eq, ↓reduceIte, vc_skip, vc_region, vc_draw, vc_seq, vc_cond, vc_block, vc_exit, vc_ret, RV_nil, RV_q, RV_e, DV_nil, DV_q, DV_e, gq_none, gq_some, ge_none, ge_some, condK_true, condK_false, condK_dec, condK_ndec, guardK_bool, guardO_bool, guardO_skip, guardK_skip, ev_t, ev_c, mk_cons, put_some, put_none, qv_mv, qv_pick, qv_bin, qv_un, qv_conv, qv_nilCheck, qv_build, qv_field, qv_fieldAddr, qv_indexAddr, qv_indexStr, qv_extract, qv_len, qv_lenStr, qv_cap, qv_slice, qv_sliceStr, qv_maxmin, qv_makeFunc, qv_load, qv_rev, eff_alloc, eff_box, eff_buildSl, eff_store, aStore_ptr, eff_makeSl, aMake_int, eff_append, eff_copy, eff_call, eff_callV, aCallV_clo, abin_add, abin_sub, abin_mul, abin_quo, abin_rem, abin_eql, abin_neq, abin_lss, abin_leq, abin_gtr, abin_geq, abin_beql, abin_bneq, abin_nn, abin_sn, abin_ns, abin_nnx, abin_snx, abin_nsx, abin_str, aun_neg, aun_not, aPick_true, aPick_false, aConv_int, aNil_ptr, aNil_clo, aField_agg, aField_one, aFieldAddr_ptr, Int.toNat_natCast, rd1_new, rd_new, new_next, Nat.left_eq_add, Nat.add_eq_left, Nat.succ_ne_self, Nat.one_ne_zero, Nat.add_left_cancel_iff, Nat.add_assoc, List.getElem?_cons_zero, List.getElem?_cons_succ, List.take_succ_cons, List.take_zero, List.drop_succ_cons, List.drop_zero, List.take_nil, List.drop_nil, Nat.reduceLeDiff, Nat.le_refl, afill_nil, afill_cons, zeros_zero, zeros_one1, zeros_single, Nat.lt_add_one, Int.reduceEq, Int.reduceLT, Int.reduceLE, Int.reduceNeg, aExtract_tup, aLen_sl, aLen_nils, aLenStr_str, aMaxmin_int, ldv_one, ldv_agg, news_nil, news_cons, RecOK_nil, RecOK_none, RecOK_cons, recOf, wantedI, rvals_nil, rvals_tmp, rvals_cell, retQ_normal, retQ_ret, packR_one, packR_nil, packR_two, optK_some, optK_none, optK_bind, optK_map, List.map_cons, List.map_nil, Nat.reduceEqDiff, if_true, if_false, ite_true, ite_false, List.nil_append, List.cons_append, Option.map_some, Option.map_none, reduceCtorEq, decide_true, decide_false, Bool.not_true, Bool.not_false, cells_int, cells_bool, cells_str, cells_nilp, cells_ptr, cells_nils, cells_sl, cells_nilf, cells_clo, cells_agg, List.all_cons, List.all_nil, one_int, one_bool, one_str, one_nilp, one_ptr, one_nils, one_sl, one_nilf, one_clo, List.length_cons, List.length_nil, Bool.and_true, Bool.true_and, Bool.and_self, true_and, and_true, Bool.true_eq_false, Bool.false_eq_true, List.contains_cons, List.contains_nil, Bool.or_false, Bool.or_true, Bool.true_or, Bool.false_or, eq_self, Nat.reduceBEq, Nat.reduceAdd, Nat.mul_one, Nat.zero_add, Nat.add_zero, List.cons.injEq, AV.int.injEq, AV.sl.injEq, and_self]) <;> omega), by simp only [List.take_zero, mkS_nil]; exact Upd.refl hw⟩
    · rintro m vs h' ⟨i, hi, rfl, rfl, u⟩
      simp only [nm_eq, ↓reduceIte, vc_skip, vc_region, vc_draw, vc_seq, vc_cond, vc_block, vc_exit, vc_ret, RV_nil, RV_q, RV_e, DV_nil, DV_q, DV_e, gq_none, gq_some, ge_none, ge_some, condK_true, condK_false, condK_dec, condK_ndec, guardK_bool, guardO_bool, guardO_skip, guardK_skip, ev_t, ev_c, mk_cons, put_some, put_none, qv_mv, qv_pick, qv_bin, qv_un, qv_conv, qv_nilCheck, qv_build, qv_field, qv_fieldAddr, qv_indexAddr, qv_indexStr, qv_extract, qv_len, qv_lenStr, qv_cap, qv_slice, qv_sliceStr, qv_maxmin, qv_makeFunc, qv_load, qv_rev, eff_alloc, eff_box, eff_buildSl, eff_store, aStore_ptr, eff_makeSl, aMake_int, eff_append, eff_copy, eff_call, eff_callV, aCallV_clo, abin_add, abin_sub, abin_mul, abin_quo, abin_rem, abin_eql, abin_neq, abin_lss, abin_leq, abin_gtr, abin_geq, abin_beql, abin_bneq, abin_nn, abin_sn, abin_ns, abin_nnx, abin_snx, abin_nsx, abin_str, aun_neg, aun_not, aPick_true, aPick_false, aConv_int, aNil_ptr, aNil_clo, aField_agg, aField_one, aFieldAddr_ptr, Int.toNat_natCast, rd1_new, rd_new, new_next, Nat.left_eq_add, Nat.add_eq_left, Nat.succ_ne_self, Nat.one_ne_zero, Nat.add_left_cancel_iff, Nat.add_assoc, List.getElem?_cons_zero, List.getElem?_cons_succ, List.take_succ_cons, List.take_zero, List.drop_succ_cons, List.drop_zero, List.take_nil, List.drop_nil, Nat.reduceLeDiff, Nat.le_refl, afill_nil, afill_cons, zeros_zero, zeros_one1, zeros_single, Nat.lt_add_one, Int.reduceEq, Int.reduceLT, Int.reduceLE, Int.reduceNeg, aExtract_tup, aLen_sl, aLen_nils, aLenStr_str, aMaxmin_int, ldv_one, ldv_agg, news_nil, news_cons, RecOK_nil, RecOK_none, RecOK_cons, recOf, wantedI, rvals_nil, rvals_tmp, rvals_cell, retQ_normal, retQ_ret, packR_one, packR_nil, packR_two, optK_some, optK_none, optK_bind, optK_map, List.map_cons, List.map_nil, Nat.reduceEqDiff, if_true, if_false, ite_true, ite_false, List.nil_append, List.cons_append, Option.map_some, Option.map_none, reduceCtorEq, decide_true, decide_false, Bool.not_true, Bool.not_false, cells_int, cells_bool, cells_str, cells_nilp, cells_ptr, cells_nils, cells_sl, cells_nilf, cells_clo, cells_agg, List.all_cons, List.all_nil, one_int, one_bool, one_str, one_nilp, one_ptr, one_nils, one_sl, one_nilf, one_clo, List.length_cons, List.length_nil, Bool.and_true, Bool.true_and, Bool.and_self, true_and, and_true, Bool.true_eq_false, Bool.false_eq_true, List.contains_cons, List.contains_nil, Bool.or_false, Bool.or_true, Bool.true_or, Bool.false_or, eq_self, Nat.reduceBEq, Nat.reduceAdd, Nat.mul_one, Nat.zero_add, Nat.add_zero]
      split
      · have hlt : i < xs.length := by omega
        obtain ⟨v, hv1, hv2, hv3, hv4, hv5, hv6⟩ := mkT_I.F.step hr hWs n2 hv.2 hlt u
        have hld : h'.rd1 o i = some (er idz v) := by
          rw [rd1_of_obj (by rw [u.same o hz (lookup_none.2 fun hm => n1 (eads_take (mkT_I.F.keysS (hr.take i) (Whs_iff.2 fun c hc => Whs_iff.1 hWs c (List.mem_of_mem_take hc)) o hm)))]; exact ho)]
          rw [ers_get, hv1]; rfl
        have ht := totL_snoc (len := totL List.length) hlt
        have htl := totL_le (totL List.length) xs (i + 1)
        have hbi := hb2 _ (List.getElem_mem hlt)
        simp only [nm_eq, ↓reduceIte, vc_skip, vc_region, vc_draw, vc_seq, vc_cond, vc_block, vc_exit, vc_ret, RV_nil, RV_q, RV_e, DV_nil, DV_q, DV_e, gq_none, gq_some, ge_none, ge_some, condK_true, condK_false, condK_dec, condK_ndec, guardK_bool, guardO_bool, guardO_skip, guardK_skip, ev_t, ev_c, mk_cons, put_some, put_none, qv_mv, qv_pick, qv_bin, qv_un, qv_conv, qv_nilCheck, qv_build, qv_field, qv_fieldAddr, qv_indexAddr, qv_indexStr, qv_extract, qv_len, qv_lenStr, qv_cap, qv_slice, qv_sliceStr, qv_maxmin, qv_makeFunc, qv_load, qv_rev, eff_alloc, eff_box, eff_buildSl, eff_store, aStore_ptr, eff_makeSl, aMake_int, eff_append, eff_copy, eff_call, eff_callV, aCallV_clo, abin_add, abin_sub, abin_mul, abin_quo, abin_rem, abin_eql, abin_neq, abin_lss, abin_leq, abin_gtr, abin_geq, abin_beql, abin_bneq, abin_nn, abin_sn, abin_ns, abin_nnx, abin_snx, abin_nsx, abin_str, aun_neg, aun_not, aPick_true, aPick_false, aConv_int, aNil_ptr, aNil_clo, aField_agg, aField_one, aFieldAddr_ptr, Int.toNat_natCast, rd1_new, rd_new, new_next, Nat.left_eq_add, Nat.add_eq_left, Nat.succ_ne_self, Nat.one_ne_zero, Nat.add_left_cancel_iff, Nat.add_assoc, List.getElem?_cons_zero, List.getElem?_cons_succ, List.take_succ_cons, List.take_zero, List.drop_succ_cons, List.drop_zero, List.take_nil, List.drop_nil, Nat.reduceLeDiff, Nat.le_refl, afill_nil, afill_cons, zeros_zero, zeros_one1, zeros_single, Nat.lt_add_one, Int.reduceEq, Int.reduceLT, Int.reduceLE, Int.reduceNeg, aExtract_tup, aLen_sl, aLen_nils, aLenStr_str, aMaxmin_int, ldv_one, ldv_agg, news_nil, news_cons, RecOK_nil, RecOK_none, RecOK_cons, recOf, wantedI, rvals_nil, rvals_tmp, rvals_cell, retQ_normal, retQ_ret, packR_one, packR_nil, packR_two, optK_some, optK_none, optK_bind, optK_map, List.map_cons, List.map_nil, Nat.reduceEqDiff, if_true, if_false, ite_true, ite_false, List.nil_append, List.cons_append, Option.map_some, Option.map_none, reduceCtorEq, decide_true, decide_false, Bool.not_true, Bool.not_false, cells_int, cells_bool, cells_str, cells_nilp, cells_ptr, cells_nils, cells_sl, cells_nilf, cells_clo, cells_agg, List.all_cons, List.all_nil, one_int, one_bool, one_str, one_nilp, one_ptr, one_nils, one_sl, one_nilf, one_clo, List.length_cons, List.length_nil, Bool.and_true, Bool.true_and, Bool.and_self, true_and, and_true, Bool.true_eq_false, Bool.false_eq_true, List.contains_cons, List.contains_nil, Bool.or_false, Bool.or_true, Bool.true_or, Bool.false_or, eq_self, Nat.reduceBEq, Nat.reduceAdd, Nat.mul_one, Nat.zero_add, Nat.add_zero, aIndex_nat hlt, hld, wrapS hlt (by omega : xs.length ≤ 4611686018427387904)]
        refine markInt64SS_A hv2 hv3 hv4 u.wf hv5 hbi.1 hbi.2 (by omega) (by omega) fun h'' u' => ?_
        simp only [nm_eq, ↓reduceIte, vc_skip, vc_region, vc_draw, vc_seq, vc_cond, vc_block, vc_exit, vc_ret, RV_nil, RV_q, RV_e, DV_nil, DV_q, DV_e, gq_none, gq_some, ge_none, ge_some, condK_true, condK_false, condK_dec, condK_ndec, guardK_bool, guardO_bool, guardO_skip, guardK_skip, ev_t, ev_c, mk_cons, put_some, put_none, qv_mv, qv_pick, qv_bin, qv_un, qv_conv, qv_nilCheck, qv_build, qv_field, qv_fieldAddr, qv_indexAddr, qv_indexStr, qv_extract, qv_len, qv_lenStr, qv_cap, qv_slice, qv_sliceStr, qv_maxmin, qv_makeFunc, qv_load, qv_rev, eff_alloc, eff_box, eff_buildSl, eff_store, aStore_ptr, eff_makeSl, aMake_int, eff_append, eff_copy, eff_call, eff_callV, aCallV_clo, abin_add, abin_sub, abin_mul, abin_quo, abin_rem, abin_eql, abin_neq, abin_lss, abin_leq, abin_gtr, abin_geq, abin_beql, abin_bneq, abin_nn, abin_sn, abin_ns, abin_nnx, abin_snx, abin_nsx, abin_str, aun_neg, aun_not, aPick_true, aPick_false, aConv_int, aNil_ptr, aNil_clo, aField_agg, aField_one, aFieldAddr_ptr, Int.toNat_natCast, rd1_new, rd_new, new_next, Nat.left_eq_add, Nat.add_eq_left, Nat.succ_ne_self, Nat.one_ne_zero, Nat.add_left_cancel_iff, Nat.add_assoc, List.getElem?_cons_zero, List.getElem?_cons_succ, List.take_succ_cons, List.take_zero, List.drop_succ_cons, List.drop_zero, List.take_nil, List.drop_nil, Nat.reduceLeDiff, Nat.le_refl, afill_nil, afill_cons, zeros_zero, zeros_one1, zeros_single, Nat.lt_add_one, Int.reduceEq, Int.reduceLT, Int.reduceLE, Int.reduceNeg, aExtract_tup, aLen_sl, aLen_nils, aLenStr_str, aMaxmin_int, ldv_one, ldv_agg, news_nil, news_cons, RecOK_nil, RecOK_none, RecOK_cons, recOf, wantedI, rvals_nil, rvals_tmp, rvals_cell, retQ_normal, retQ_ret, packR_one, packR_nil, packR_two, optK_some, optK_none, optK_bind, optK_map, List.map_cons, List.map_nil, Nat.reduceEqDiff, if_true, if_false, ite_true, ite_false, List.nil_append, List.cons_append, Option.map_some, Option.map_none, reduceCtorEq, decide_true, decide_false, Bool.not_true, Bool.not_false, cells_int, cells_bool, cells_str, cells_nilp, cells_ptr, cells_nils, cells_sl, cells_nilf, cells_clo, cells_agg, List.all_cons, List.all_nil, one_int, one_bool, one_str, one_nilp, one_ptr, one_nils, one_sl, one_nilf, one_clo, List.length_cons, List.length_nil, Bool.and_true, Bool.true_and, Bool.and_self, true_and, and_true, Bool.true_eq_false, Bool.false_eq_true, List.contains_cons, List.contains_nil, Bool.or_false, Bool.or_true, Bool.true_or, Bool.false_or, eq_self, Nat.reduceBEq, Nat.reduceAdd, Nat.mul_one, Nat.zero_add, Nat.add_zero, wrapS hlt (by omega : xs.length ≤ 4611686018427387904)]
        exact ⟨_, by omega, i + 1, by omega, rfl, (by (simp only [nm_eq, ↓reduceIte, vc_skip, vc_region, vc_draw, vc_seq, vc_cond, vc_block, vc_exit, vc_ret, RV_nil, RV_q, RV_e, DV_nil, DV_q, DV_e, gq_none, gq_some, ge_none, ge_some, condK_true, condK_false, condK_dec, condK_ndec, guardK_bool, guardO_bool, guardO_skip, guardK_skip, ev_t, ev_c, mk_cons, put_some, put_none, qv_mv, qv_pick, qv_bin, qv_un, qv_conv, qv_nilCheck, qv_build, qv_field, qv_fieldAddr, qv_indexAddr, qv_indexStr, qv_extract, qv_len, qv_lenStr, qv_cap, qv_slice, qv_sliceStr, qv_maxmin, qv_makeFunc, qv_load, qv_rev, eff_alloc, eff_box, eff_buildSl, eff_store, aStore_ptr, eff_makeSl, aMake_int, eff_append, eff_copy, eff_call, eff_callV, aCallV_clo, abin_add, abin_sub, abin_mul, abin_quo, abin_rem, abin_eql, abin_neq, abin_lss, abin_leq, abin_gtr, abin_geq, abin_beql, abin_bneq, abin_nn, abin_sn, abin_ns, abin_nnx, abin_snx, abin_nsx, abin_str, aun_neg, aun_not, aPick_true, aPick_false, aConv_int, aNil_ptr, aNil_clo, aField_agg, aField_one, aFieldAddr_ptr, Int.toNat_natCast, rd1_new, rd_new, new_next, Nat.left_eq_add, Nat.add_eq_left, Nat.succ_ne_self, Nat.one_ne_zero, Nat.add_left_cancel_iff, Nat.add_assoc, List.getElem?_cons_zero, List.getElem?_cons_succ, List.take_succ_cons, List.take_zero, List.drop_succ_cons, List.drop_zero, List.take_nil, List.drop_nil, Nat.reduceLeDiff, Nat.le_refl, afill_nil, afill_cons, zeros_zero, zeros_one1, zeros_single, Nat.lt_add_one, Int.reduceEq, Int.reduceLT, Int.reduceLE, Int.reduceNeg, aExtract_tup, aLen_sl, aLen_nils, aLenStr_str, aMaxmin_int, ldv_one, ldv_agg, news_nil, news_cons, RecOK_nil, RecOK_none, RecOK_cons, recOf, wantedI, rvals_nil, rvals_tmp, rvals_cell, retQ_normal, retQ_ret, packR_one, packR_nil, packR_two, optK_some, optK_none, optK_bind, optK_map, List.map_cons, List.map_nil, Nat.reduceEqDiff, if_true, if_false, ite_true, ite_false, List.nil_append, List.cons_append, Option.map_some, Option.map_none, reduceCtorEq, decide_true, decide_false, Bool.not_true, Bool.not_false, cells_int, cells_bool, cells_str, cells_nilp, cells_ptr, cells_nils, cells_sl, cells_nilf, cells_clo, cells_agg, List.all_cons, List.all_nil, one_int, one_bool, one_str, one_nilp, one_ptr, one_nils, one_sl, one_nilf, one_clo, List.length_cons, List.length_nil, Bool.and_true, Bool.true_and, Bool.and_self, true_and, and_true, Bool.true_eq_false, Bool.false_eq_true, List.contains_cons, List.contains_nil, Bool.or_false, Bool.or_true, Bool.true_or, Bool.false_or, eq_self, Nat.reduceBEq, Nat.reduceAdd, Nat.mul_one, Nat.zero_add, Nat.add_zero, List.cons.injEq, AV.int.injEq, AV.sl.injEq, and_self]) <;> omega), hv6 _ u'⟩
      · have hie : i = xs.length := by omega
        subst hie
        rw [List.take_length, List.take_of_length_le (by rw [hr.1]; exact Nat.le_refl _)] at u
        rw [List.take_length]
        exact hk _ u
end
section
variable {σ : PHeap} {K : PV → PHeap → Prop} {p : Int} {W : List (List Int)} {B : List (List (List Int))} {vP vB : PV} {lo hi : Nat}
theorem keysII {v : PV} {xs : List (List Int)} {k : Int} (hI : FII v xs) (ho : Own lo hi v) : ∀ o ∈ (mkF mkI List.length k v xs).map Prod.fst, lo ≤ o ∧ o < hi := fun o hm => ho.lt o (mkT_I.F.keys hI ho.wh o hm)
theorem markInt64SS_M {v : PV} {xs : List (List Int)} {k : Int} (hI : FII v xs) (ho : Own lo hi v) (hb : xs.length ≤ 4294967296) (hb2 : ∀ x ∈ xs, x.length ≤ 4294967296) (hk0 : 0 ≤ k) (hk1 : k + totL List.length xs ≤ 4611686018427387904) :
    MarkOK Try.prog 43 [v, .int .i64 k] σ (mkF mkI List.length k v xs) .i64 (k + totL List.length xs) :=
  MarkOK.of (hI.bel 0) (mkT_I.F.keys hI ho.wh) fun h hw hv => markInt64SS_A hI ho.wh ho.nd hw hv hb hb2 hk0 hk1 fun h' u => ⟨rfl, u⟩
theorem heldInt64S_ok {v : PV} {xs : List Int} {k : Int} (hI : FI v (seqI k xs.length)) (hb : xs.length ≤ 4294967296) (hk0 : 0 ≤ k) (hk1 : k ≤ 4611686018427387904) (hk : K (.int .i64 (k + xs.length)) σ) : PCalls Try.prog 27 [v, .int .i64 k] σ K := by
  obtain ⟨w, a, rfl⟩ := hI
  have hl := seqI_length xs.length k
  have hg := seqI_get xs.length k
  generalize seqI k xs.length = ys at *
  refine pcalls_of_vp mix Try.func27 cf27 rfl ?_
  dsimp only [if27, qI, eI, nI, qD, eD]
  simp only [pwA, if_true, if_false, eq_self, nm_eq, reduceCtorEq, ↓reduceIte, Nat.reduceEqDiff, Nat.reduceLeDiff, Nat.reduceBEq, Nat.reduceAdd, Nat.reduceLT, Nat.reduceSub, Nat.reduceMul, Int.reduceEq, Int.reduceLT, Int.reduceLE, Int.reduceNeg, Int.reduceToNat, List.reduceReplicate, Int.ofNat_le, List.getElem?_drop]
  refine vp_loop (fun m vs h' => ∃ i : Nat, i ≤ ys.length ∧ m = ys.length - i ∧ vs = [.fz w a ys.length (pis ys), .int .i64 (k + (i : Int)), .int .i64 i] ∧ σ = h') ys.length ?_ ?_
  · exact ⟨0, by omega, by omega, by rw [show k + ((0 : Nat) : Int) = k by omega]; rfl, rfl⟩
  rintro m vs h' ⟨i, hi, rfl, rfl, rfl⟩
  simp only [pwA, if_true, if_false, eq_self, nm_eq, reduceCtorEq, ↓reduceIte, Nat.reduceEqDiff, Nat.reduceLeDiff, Nat.reduceBEq, Nat.reduceAdd, Nat.reduceLT, Nat.reduceSub, Nat.reduceMul, Int.reduceEq, Int.reduceLT, Int.reduceLE, Int.reduceNeg, Int.reduceToNat, List.reduceReplicate, Int.ofNat_le, List.getElem?_drop]
  refine iteI (fun hlt => ?_) fun hge => ?_
  · simp only [pwA, if_true, if_false, eq_self, nm_eq, reduceCtorEq, ↓reduceIte, Nat.reduceEqDiff, Nat.reduceLeDiff, Nat.reduceBEq, Nat.reduceAdd, Nat.reduceLT, Nat.reduceSub, Nat.reduceMul, Int.reduceEq, Int.reduceLT, Int.reduceLE, Int.reduceNeg, Int.reduceToNat, List.reduceReplicate, Int.ofNat_le, List.getElem?_drop, hlt, gi hlt, hg i hlt, pis_get, List.getElem?_drop, wrapS hlt (by omega : ys.length ≤ 4611686018427387904), wrap64 (n := k + (i : Int) + 1) (by omega) (by omega)]
    refine ⟨_, by omega, i + 1, by omega, rfl, ?_⟩
    have : k + (i : Int) + 1 = k + ((i + 1 : Nat) : Int) := by omega
    rw [this]
  · have hie : i = xs.length := by omega
    subst hie
    exact hk
theorem heldInt64SS_ok {v : PV} {xs : List (List Int)} {k : Int} (hI : FII v (sqL sqI List.length k xs)) (hb : xs.length ≤ 4294967296) (hb2 : ∀ x ∈ xs, x.length ≤ 4294967296) (hk0 : 0 ≤ k) (hk1 : k + totL List.length xs ≤ 4611686018427387904) (hk : K (.int .i64 (k + totL List.length xs)) σ) : PCalls Try.prog 44 [v, .int .i64 k] σ K := by
  obtain ⟨w, a, rows, rfl, hr⟩ := hI
  have hl := sqL_length sqI List.length xs k
  have hg : ∀ (i : Nat) (hi : i < xs.length) (h2 : i < (sqL sqI List.length k xs).length), (sqL sqI List.length k xs)[i] = sqI (k + totL List.length (xs.take i)) xs[i] := fun i hi _ => sqL_get sqI List.length xs k i hi
  generalize sqL sqI List.length k xs = ys at *
  refine pcalls_of_vp mix Try.func44 cf44 rfl ?_
  dsimp only [if44, qI, eI, nI, qD, eD]
  simp only [pwA, if_true, if_false, eq_self, nm_eq, reduceCtorEq, ↓reduceIte, Nat.reduceEqDiff, Nat.reduceLeDiff, Nat.reduceBEq, Nat.reduceAdd, Nat.reduceLT, Nat.reduceSub, Nat.reduceMul, Int.reduceEq, Int.reduceLT, Int.reduceLE, Int.reduceNeg, Int.reduceToNat, List.reduceReplicate, Int.ofNat_le, List.getElem?_drop]
  refine vp_loop (fun m vs h' => ∃ i : Nat, i ≤ ys.length ∧ m = ys.length - i ∧ vs = [.fz w a ys.length rows, .int .i64 (k + totL List.length (xs.take i)), .int .i64 i] ∧ σ = h') ys.length ?_ ?_
  · exact ⟨0, by omega, by omega, by rw [List.take_zero, totL_nil, show k + ((0 : Nat) : Int) = k by omega]; rfl, rfl⟩
  rintro m vs h' ⟨i, hi, rfl, rfl, rfl⟩
  simp only [pwA, if_true, if_false, eq_self, nm_eq, reduceCtorEq, ↓reduceIte, Nat.reduceEqDiff, Nat.reduceLeDiff, Nat.reduceBEq, Nat.reduceAdd, Nat.reduceLT, Nat.reduceSub, Nat.reduceMul, Int.reduceEq, Int.reduceLT, Int.reduceLE, Int.reduceNeg, Int.reduceToNat, List.reduceReplicate, Int.ofNat_le, List.getElem?_drop]
  refine iteI (fun hlt => ?_) fun hge => ?_
  · have hlx : i < xs.length := by omega
    obtain ⟨w4, a4, hrk⟩ := hr.rowI hlt
    have ht := totL_snoc (len := List.length) hlx
    have htl := totL_le List.length xs (i + 1)
    have hgi := hg i hlx hlt
    simp only [pwA, if_true, if_false, eq_self, nm_eq, reduceCtorEq, ↓reduceIte, Nat.reduceEqDiff, Nat.reduceLeDiff, Nat.reduceBEq, Nat.reduceAdd, Nat.reduceLT, Nat.reduceSub, Nat.reduceMul, Int.reduceEq, Int.reduceLT, Int.reduceLE, Int.reduceNeg, Int.reduceToNat, List.reduceReplicate, Int.ofNat_le, List.getElem?_drop, hlt, hrk, List.getElem?_drop]
    have hbi := hb2 _ (List.getElem_mem hlx)
    refine heldInt64S_ok (xs := xs[i]) ⟨w4, a4, by rw [hgi, sqI]⟩ hbi (by omega) (by omega) ?_
    have hn : ¬ (k + (totL List.length (xs.take i) : Int) + (xs[i].length : Int) < 0) := by omega
    simp only [pwA, if_true, if_false, eq_self, nm_eq, reduceCtorEq, ↓reduceIte, Nat.reduceEqDiff, Nat.reduceLeDiff, Nat.reduceBEq, Nat.reduceAdd, Nat.reduceLT, Nat.reduceSub, Nat.reduceMul, Int.reduceEq, Int.reduceLT, Int.reduceLE, Int.reduceNeg, Int.reduceToNat, List.reduceReplicate, Int.ofNat_le, List.getElem?_drop, hn, wrapS hlt (by omega : ys.length ≤ 4611686018427387904)]
    refine ⟨_, by omega, i + 1, by omega, rfl, ?_⟩
    have : k + (totL List.length (xs.take i) : Int) + (xs[i].length : Int) = k + (totL List.length (xs.take (i + 1)) : Int) := by omega
    rw [this]
  · have hie : i = xs.length := by omega
    subst hie
    rw [List.take_length]
    exact hk
theorem toInt64S_T {v : PV} {xs : List Int} (hI : FI v xs) (hb : xs.length ≤ 1048576) (hk : ∀ v t, FI v xs → Own σ.top t v → σ.top ≤ t → K v (σ.up t)) : PCalls Try.prog 21 [v] σ K :=
  PCalls.fzT (fun K' => toInt64S_ok hI hb) (pis_bel _ _) (Owns.pis _ _ _) fun o cap t h1 h2 => hk _ t ⟨_, _, rfl⟩ h1 h2
theorem toInt64SS_T {v : PV} {xs : List (List Int)} (hI : FII v xs) (sz : SzL xs) (hk : ∀ v t, FII v xs → Own σ.top t v → σ.top ≤ t → K v (σ.up t)) : PCalls Try.prog 47 [v] σ K := by
  obtain ⟨w, a, rs, rfl, hr⟩ := hI
  have hb := sz.l
  refine PCalls.gh ?_
  refine pcalls_of_vp mix Try.func47 cf47 rfl ?_
  dsimp only [if47, qI, eI, nI, qD, eD]
  simp only [pwA, if_true, if_false, eq_self, nm_eq, reduceCtorEq, ↓reduceIte, Nat.reduceEqDiff, Nat.reduceLeDiff, Nat.reduceBEq, Nat.reduceAdd, Nat.reduceLT, Nat.reduceSub, Nat.reduceMul, Int.reduceEq, Int.reduceLT, Int.reduceLE, Int.reduceNeg, Int.reduceToNat, List.reduceReplicate, Int.ofNat_le, List.getElem?_drop, mk24 (n := xs.length) (by omega), mkL (n := xs.length) (by omega)]
  refine vp_loop (fun m vs h' => ∃ i : Nat, i ≤ xs.length ∧ m = xs.length - i ∧ vs = [.fz w a xs.length rs, .sl σ.next 0 xs.length (.known xs.length), .int .i64 i] ∧ ∃ rows t, rows.length = i ∧ All2 FI rows (xs.take i) ∧ Owns σ.top t rows ∧ σ.top ≤ t ∧ h' = (σ.new (rows ++ List.replicate (xs.length - i) (.fz true .nils 0 []))).up t) xs.length ?_ ?_
  · exact ⟨0, by omega, by omega, rfl, [], σ.top, rfl, by simpa using All2.nil _, Owns.nil _ _, Nat.le_refl _, by simp [PHeap.up, PHeap.new]⟩
  rintro m vs h' ⟨i, hi, rfl, rfl, rows, t, hrl, hra, hro, htt, rfl⟩
  simp only [pwA, if_true, if_false, eq_self, nm_eq, reduceCtorEq, ↓reduceIte, Nat.reduceEqDiff, Nat.reduceLeDiff, Nat.reduceBEq, Nat.reduceAdd, Nat.reduceLT, Nat.reduceSub, Nat.reduceMul, Int.reduceEq, Int.reduceLT, Int.reduceLE, Int.reduceNeg, Int.reduceToNat, List.reduceReplicate, Int.ofNat_le, List.getElem?_drop]
  refine iteI (fun hlt => ?_) fun hge => ?_
  · obtain ⟨w4, a4, hrk⟩ := hr.rowI hlt
    simp only [pwA, if_true, if_false, eq_self, nm_eq, reduceCtorEq, ↓reduceIte, Nat.reduceEqDiff, Nat.reduceLeDiff, Nat.reduceBEq, Nat.reduceAdd, Nat.reduceLT, Nat.reduceSub, Nat.reduceMul, Int.reduceEq, Int.reduceLT, Int.reduceLE, Int.reduceNeg, Int.reduceToNat, List.reduceReplicate, Int.ofNat_le, List.getElem?_drop, hlt, hrk, List.getElem?_drop]
    refine toInt64S_T ⟨_, _, rfl⟩ (sz.r _ (List.getElem_mem hlt)) fun r t2 hr' ho' ht' => ?_
    have hlen : i + 1 ≤ (rows ++ List.replicate (xs.length - i) (PV.fz true .nils 0 [])).length := by simp; omega
    simp only [pwA, if_true, if_false, eq_self, nm_eq, reduceCtorEq, ↓reduceIte, Nat.reduceEqDiff, Nat.reduceLeDiff, Nat.reduceBEq, Nat.reduceAdd, Nat.reduceLT, Nat.reduceSub, Nat.reduceMul, Int.reduceEq, Int.reduceLT, Int.reduceLE, Int.reduceNeg, Int.reduceToNat, List.reduceReplicate, Int.ofNat_le, List.getElem?_drop, hlt, hlen, hr'.cells, hr'.one, wrapS hlt (by omega : xs.length ≤ 4611686018427387904)]
    refine ⟨_, by omega, i + 1, by omega, rfl, rfl, rows ++ [r], t2, by simp [hrl], ?_, hro.snoc ho' htt ht', Nat.le_trans htt ht', ?_⟩
    · rw [List.take_succ_eq_append_getElem hlt]; exact hra.snoc hr'
    · rw [rows_set hrl hlt]; rfl
  · have hie : i = xs.length := by omega
    subst hie
    rw [List.take_length] at hra
    rw [Nat.sub_self, List.replicate_zero, List.append_nil]
    exact Gh.own ((keep_new σ _).up htt) (by simp only [pwA, if_true, if_false, eq_self, nm_eq, reduceCtorEq, ↓reduceIte, Nat.reduceEqDiff, Nat.reduceLeDiff, Nat.reduceBEq, Nat.reduceAdd, Nat.reduceLT, Nat.reduceSub, Nat.reduceMul, Int.reduceEq, Int.reduceLT, Int.reduceLE, Int.reduceNeg, Int.reduceToNat, List.reduceReplicate, Int.ofNat_le, List.getElem?_drop]) (Nat.le_refl _) (hra.bI 0) (by simp [capOK]) hro fun o t h1 h2 => hk _ t ⟨_, _, _, rfl, hra⟩ h1 h2
theorem toInt64SSS_T {v : PV} {xs : List (List (List Int))} (hI : FIII v xs) (sz : SzM xs) (hk : ∀ v t, FIII v xs → Own σ.top t v → σ.top ≤ t → K v (σ.up t)) : PCalls Try.prog 60 [v] σ K := by
  obtain ⟨w, a, rs, rfl, hr⟩ := hI
  have hb := sz.l
  refine PCalls.gh ?_
  refine pcalls_of_vp mix Try.func60 cf60 rfl ?_
  dsimp only [if60, qI, eI, nI, qD, eD]
  simp only [pwA, if_true, if_false, eq_self, nm_eq, reduceCtorEq, ↓reduceIte, Nat.reduceEqDiff, Nat.reduceLeDiff, Nat.reduceBEq, Nat.reduceAdd, Nat.reduceLT, Nat.reduceSub, Nat.reduceMul, Int.reduceEq, Int.reduceLT, Int.reduceLE, Int.reduceNeg, Int.reduceToNat, List.reduceReplicate, Int.ofNat_le, List.getElem?_drop, mk24 (n := xs.length) (by omega), mkL (n := xs.length) (by omega)]
  refine vp_loop (fun m vs h' => ∃ i : Nat, i ≤ xs.length ∧ m = xs.length - i ∧ vs = [.fz w a xs.length rs, .sl σ.next 0 xs.length (.known xs.length), .int .i64 i] ∧ ∃ rows t, rows.length = i ∧ All2 FII rows (xs.take i) ∧ Owns σ.top t rows ∧ σ.top ≤ t ∧ h' = (σ.new (rows ++ List.replicate (xs.length - i) (.fz true .nils 0 []))).up t) xs.length ?_ ?_
  · exact ⟨0, by omega, by omega, rfl, [], σ.top, rfl, by simpa using All2.nil _, Owns.nil _ _, Nat.le_refl _, by simp [PHeap.up, PHeap.new]⟩
  rintro m vs h' ⟨i, hi, rfl, rfl, rows, t, hrl, hra, hro, htt, rfl⟩
  simp only [pwA, if_true, if_false, eq_self, nm_eq, reduceCtorEq, ↓reduceIte, Nat.reduceEqDiff, Nat.reduceLeDiff, Nat.reduceBEq, Nat.reduceAdd, Nat.reduceLT, Nat.reduceSub, Nat.reduceMul, Int.reduceEq, Int.reduceLT, Int.reduceLE, Int.reduceNeg, Int.reduceToNat, List.reduceReplicate, Int.ofNat_le, List.getElem?_drop]
  refine iteI (fun hlt => ?_) fun hge => ?_
  · obtain ⟨w4, a4, rk, hrk, hrs⟩ := hr.rowL hlt
    simp only [pwA, if_true, if_false, eq_self, nm_eq, reduceCtorEq, ↓reduceIte, Nat.reduceEqDiff, Nat.reduceLeDiff, Nat.reduceBEq, Nat.reduceAdd, Nat.reduceLT, Nat.reduceSub, Nat.reduceMul, Int.reduceEq, Int.reduceLT, Int.reduceLE, Int.reduceNeg, Int.reduceToNat, List.reduceReplicate, Int.ofNat_le, List.getElem?_drop, hlt, hrk, List.getElem?_drop]
    refine toInt64SS_T ⟨_, _, _, rfl, hrs⟩ (sz.r _ (List.getElem_mem hlt)) fun r t2 hr' ho' ht' => ?_
    have hlen : i + 1 ≤ (rows ++ List.replicate (xs.length - i) (PV.fz true .nils 0 [])).length := by simp; omega
    simp only [pwA, if_true, if_false, eq_self, nm_eq, reduceCtorEq, ↓reduceIte, Nat.reduceEqDiff, Nat.reduceLeDiff, Nat.reduceBEq, Nat.reduceAdd, Nat.reduceLT, Nat.reduceSub, Nat.reduceMul, Int.reduceEq, Int.reduceLT, Int.reduceLE, Int.reduceNeg, Int.reduceToNat, List.reduceReplicate, Int.ofNat_le, List.getElem?_drop, hlt, hlen, hr'.cells, hr'.one, wrapS hlt (by omega : xs.length ≤ 4611686018427387904)]
    refine ⟨_, by omega, i + 1, by omega, rfl, rfl, rows ++ [r], t2, by simp [hrl], ?_, hro.snoc ho' htt ht', Nat.le_trans htt ht', ?_⟩
    · rw [List.take_succ_eq_append_getElem hlt]; exact hra.snoc hr'
    · rw [rows_set hrl hlt]; rfl
  · have hie : i = xs.length := by omega
    subst hie
    rw [List.take_length] at hra
    rw [Nat.sub_self, List.replicate_zero, List.append_nil]
    exact Gh.own ((keep_new σ _).up htt) (by simp only [pwA, if_true, if_false, eq_self, nm_eq, reduceCtorEq, ↓reduceIte, Nat.reduceEqDiff, Nat.reduceLeDiff, Nat.reduceBEq, Nat.reduceAdd, Nat.reduceLT, Nat.reduceSub, Nat.reduceMul, Int.reduceEq, Int.reduceLT, Int.reduceLE, Int.reduceNeg, Int.reduceToNat, List.reduceReplicate, Int.ofNat_le, List.getElem?_drop]) (Nat.le_refl _) (hra.bL 0) (by simp [capOK]) hro fun o t h1 h2 => hk _ t ⟨_, _, _, rfl, hra⟩ h1 h2
end
end Go.Proofs
set_option linter.unusedSimpArgs false
set_option linter.unusedVariables false
namespace Go.Proofs
open Go.Ab Go.Lie Go.Grp Go.Mx
section
variable {h : AHeap} {K : AV → AHeap → Prop}
/-- What marking a presentation writes. -/
def mkPr (k : Int) (vO vP vC : PV) (O : List Int) (P : List (List Int)) (C : List (List (List Int))) : List (Nat × List PV) :=
  mkI k vO O ++ (mkF mkI List.length (k + O.length) vP P ++ mkF (mkF mkI List.length) (totL List.length) (k + O.length + totL List.length P) vC C)
def totP (O : List Int) (P : List (List Int)) (C : List (List (List Int))) : Nat := O.length + totL List.length P + totL (totL List.length) C
theorem markPresentation_A {k : Int} {vO vP vC : PV} {O : List Int} {P : List (List Int)} {C : List (List (List Int))} (hR : IsPr vO vP vC O P C) (hW : Wh (.agg [vO, vP, vC])) (hnd : (ead (.agg [vO, vP, vC])).Nodup) (hw : HWF h) (hv : VOK (zlt h) h 0 (.agg [vO, vP, vC])) (sz : SzP O P C) (hk0 : 0 ≤ k) (hk1 : k + totP O P C ≤ 4611686018427387904)
    (hk : ∀ h', Upd h (mkPr k vO vP vC O P C) h' → K (.int .i64 (k + totP O P C)) h') : ACalls Try.prog 24 [er idz (.agg [vO, vP, vC]), .int .i64 k] h K := by
  refine acalls_of_vc mix Try.func24 cf24 rfl ?_
  dsimp only [if24]
  simp only [er, ers]
  unfold totP at hk hk1
  obtain ⟨hvO, hvP, hvC, _⟩ := hv
  obtain ⟨wO, wP, wC, _⟩ := hW
  have oO : (er idz vO).one = true := by rw [er_one hvO]; exact hR.O.one
  have oP : (er idz vP).one = true := by rw [er_one hvP]; exact hR.P.one
  have oC : (er idz vC).one = true := by rw [er_one hvC]; exact hR.C.one
  have cO := cells_of_one oO
  have cP := cells_of_one oP
  have cC := cells_of_one oC
  simp only [ead, eads, List.nil_append, List.append_nil, List.nodup_append] at hnd
  obtain ⟨dO, ⟨dP, dC, dd⟩, dd0⟩ := hnd
  obtain ⟨hh, he, hx1, hn, qq⟩ := box1 hw [er idz vO, er idz vP, er idz vC]
  have hzz : ∀ o, zlt h o → zlt hh o ∧ hh.obj o = h.obj o := fun o ho => ⟨Nat.lt_of_lt_of_le ho hx1.next, hx1.obj o ho⟩
  have q := qq _ (Ext.refl hx1.wf)
  have kO := mkT_I.keys (k := k) hR.O wO
  have kP := (mkT_I.F).keys (k := k + O.length) hR.P wP
  have kC := (mkT_I.F.F).keys (k := k + O.length + totL List.length P) hR.C wC
  have szO := sz.O
  simp only [nm_eq, ↓reduceIte, vc_skip, vc_region, vc_draw, vc_seq, vc_cond, vc_block, vc_exit, vc_ret, RV_nil, RV_q, RV_e, DV_nil, DV_q, DV_e, gq_none, gq_some, ge_none, ge_some, condK_true, condK_false, condK_dec, condK_ndec, guardK_bool, guardO_bool, guardO_skip, guardK_skip, ev_t, ev_c, mk_cons, put_some, put_none, qv_mv, qv_pick, qv_bin, qv_un, qv_conv, qv_nilCheck, qv_build, qv_field, qv_fieldAddr, qv_indexAddr, qv_indexStr, qv_extract, qv_len, qv_lenStr, qv_cap, qv_slice, qv_sliceStr, qv_maxmin, qv_makeFunc, qv_load, qv_rev, eff_alloc, eff_box, eff_buildSl, eff_store, aStore_ptr, eff_makeSl, aMake_int, eff_append, eff_copy, eff_call, eff_callV, aCallV_clo, abin_add, abin_sub, abin_mul, abin_quo, abin_rem, abin_eql, abin_neq, abin_lss, abin_leq, abin_gtr, abin_geq, abin_beql, abin_bneq, abin_nn, abin_sn, abin_ns, abin_nnx, abin_snx, abin_nsx, abin_str, aun_neg, aun_not, aPick_true, aPick_false, aConv_int, aNil_ptr, aNil_clo, aField_agg, aField_one, aFieldAddr_ptr, Int.toNat_natCast, rd1_new, rd_new, new_next, Nat.left_eq_add, Nat.add_eq_left, Nat.succ_ne_self, Nat.one_ne_zero, Nat.add_left_cancel_iff, Nat.add_assoc, List.getElem?_cons_zero, List.getElem?_cons_succ, List.take_succ_cons, List.take_zero, List.drop_succ_cons, List.drop_zero, List.take_nil, List.drop_nil, Nat.reduceLeDiff, Nat.le_refl, afill_nil, afill_cons, zeros_zero, zeros_one1, zeros_single, Nat.lt_add_one, Int.reduceEq, Int.reduceLT, Int.reduceLE, Int.reduceNeg, aExtract_tup, aLen_sl, aLen_nils, aLenStr_str, aMaxmin_int, ldv_one, ldv_agg, news_nil, news_cons, RecOK_nil, RecOK_none, RecOK_cons, recOf, wantedI, rvals_nil, rvals_tmp, rvals_cell, retQ_normal, retQ_ret, packR_one, packR_nil, packR_two, optK_some, optK_none, optK_bind, optK_map, List.map_cons, List.map_nil, Nat.reduceEqDiff, if_true, if_false, ite_true, ite_false, List.nil_append, List.cons_append, Option.map_some, Option.map_none, reduceCtorEq, decide_true, decide_false, Bool.not_true, Bool.not_false, cells_int, cells_bool, cells_str, cells_nilp, cells_ptr, cells_nils, cells_sl, cells_nilf, cells_clo, cells_agg, List.all_cons, List.all_nil, one_int, one_bool, one_str, one_nilp, one_ptr, one_nils, one_sl, one_nilf, one_clo, List.length_cons, List.length_nil, Bool.and_true, Bool.true_and, Bool.and_self, true_and, and_true, Bool.true_eq_false, Bool.false_eq_true, List.contains_cons, List.contains_nil, Bool.or_false, Bool.or_true, Bool.true_or, Bool.false_or, eq_self, Nat.reduceBEq, Nat.reduceAdd, Nat.mul_one, Nat.zero_add, Nat.add_zero, he, oO, oP, oC, cO, cP, cC, rd1_of_obj q]
  refine markInt64S_A hR.O wO hx1.wf (hvO.mono hzz (Nat.le_refl _)) (by omega) hk0 (by omega) fun h1 u1 => ?_
  have qB : h1.obj h.next = some ⟨true, [er idz vO, er idz vP, er idz vC]⟩ := by
    rw [u1.same _ (by omega) (lookup_none.2 fun hm => by have : h.next < h.next := ead_z hvO _ (kO _ hm); omega)]; exact q
  have mv : ∀ {v : PV}, VOK (zlt hh) hh 0 v → (∀ o ∈ ead v, o ∉ (mkI k vO O).map Prod.fst) → VOK (zlt h1) h1 0 v := fun {v} hv' hno => by
    have h2 := rm_vok u1 (fun o ho => ho) hv'
    rw [rm_out fun o ho hm => hno o hm ho] at h2
    exact h2.mono (fun o ho => ⟨Nat.lt_of_lt_of_le ho u1.next, rfl⟩) (Nat.le_refl _)
  have hvP1 := mv (hvP.mono hzz (Nat.le_refl _)) fun o ho hm => dd0 o (kO o hm) o (List.mem_append.2 (.inl ho)) rfl
  have hvC1 := mv (hvC.mono hzz (Nat.le_refl _)) fun o ho hm => dd0 o (kO o hm) o (List.mem_append.2 (.inr ho)) rfl
  have hneg0 : ¬ (k + (O.length : Int) < 0) := by omega
  simp only [nm_eq, ↓reduceIte, vc_skip, vc_region, vc_draw, vc_seq, vc_cond, vc_block, vc_exit, vc_ret, RV_nil, RV_q, RV_e, DV_nil, DV_q, DV_e, gq_none, gq_some, ge_none, ge_some, condK_true, condK_false, condK_dec, condK_ndec, guardK_bool, guardO_bool, guardO_skip, guardK_skip, ev_t, ev_c, mk_cons, put_some, put_none, qv_mv, qv_pick, qv_bin, qv_un, qv_conv, qv_nilCheck, qv_build, qv_field, qv_fieldAddr, qv_indexAddr, qv_indexStr, qv_extract, qv_len, qv_lenStr, qv_cap, qv_slice, qv_sliceStr, qv_maxmin, qv_makeFunc, qv_load, qv_rev, eff_alloc, eff_box, eff_buildSl, eff_store, aStore_ptr, eff_makeSl, aMake_int, eff_append, eff_copy, eff_call, eff_callV, aCallV_clo, abin_add, abin_sub, abin_mul, abin_quo, abin_rem, abin_eql, abin_neq, abin_lss, abin_leq, abin_gtr, abin_geq, abin_beql, abin_bneq, abin_nn, abin_sn, abin_ns, abin_nnx, abin_snx, abin_nsx, abin_str, aun_neg, aun_not, aPick_true, aPick_false, aConv_int, aNil_ptr, aNil_clo, aField_agg, aField_one, aFieldAddr_ptr, Int.toNat_natCast, rd1_new, rd_new, new_next, Nat.left_eq_add, Nat.add_eq_left, Nat.succ_ne_self, Nat.one_ne_zero, Nat.add_left_cancel_iff, Nat.add_assoc, List.getElem?_cons_zero, List.getElem?_cons_succ, List.take_succ_cons, List.take_zero, List.drop_succ_cons, List.drop_zero, List.take_nil, List.drop_nil, Nat.reduceLeDiff, Nat.le_refl, afill_nil, afill_cons, zeros_zero, zeros_one1, zeros_single, Nat.lt_add_one, Int.reduceEq, Int.reduceLT, Int.reduceLE, Int.reduceNeg, aExtract_tup, aLen_sl, aLen_nils, aLenStr_str, aMaxmin_int, ldv_one, ldv_agg, news_nil, news_cons, RecOK_nil, RecOK_none, RecOK_cons, recOf, wantedI, rvals_nil, rvals_tmp, rvals_cell, retQ_normal, retQ_ret, packR_one, packR_nil, packR_two, optK_some, optK_none, optK_bind, optK_map, List.map_cons, List.map_nil, Nat.reduceEqDiff, if_true, if_false, ite_true, ite_false, List.nil_append, List.cons_append, Option.map_some, Option.map_none, reduceCtorEq, decide_true, decide_false, Bool.not_true, Bool.not_false, cells_int, cells_bool, cells_str, cells_nilp, cells_ptr, cells_nils, cells_sl, cells_nilf, cells_clo, cells_agg, List.all_cons, List.all_nil, one_int, one_bool, one_str, one_nilp, one_ptr, one_nils, one_sl, one_nilf, one_clo, List.length_cons, List.length_nil, Bool.and_true, Bool.true_and, Bool.and_self, true_and, and_true, Bool.true_eq_false, Bool.false_eq_true, List.contains_cons, List.contains_nil, Bool.or_false, Bool.or_true, Bool.true_or, Bool.false_or, eq_self, Nat.reduceBEq, Nat.reduceAdd, Nat.mul_one, Nat.zero_add, Nat.add_zero, rd1_of_obj qB, hneg0]
  refine markInt64SS_A hR.P wP dP u1.wf hvP1 (by have := sz.P.l; omega) (fun x hx => by have := sz.P.r x hx; omega) (by omega) (by omega) fun h2 u2 => ?_
  have qC : h2.obj h.next = some ⟨true, [er idz vO, er idz vP, er idz vC]⟩ := by
    rw [u2.same _ (by have := u1.next; omega) (lookup_none.2 fun hm => by have : h.next < h.next := ead_z hvP _ (kP _ hm); omega)]; exact qB
  have hvC2 : VOK (zlt h2) h2 0 vC := by
    have h3 := rm_vok u2 (fun o ho => ho) hvC1
    rw [rm_out fun o ho hm => dd o (kP o ho) o hm rfl] at h3
    exact h3.mono (fun o ho => ⟨Nat.lt_of_lt_of_le ho u2.next, rfl⟩) (Nat.le_refl _)
  have hneg : ¬ (k + (O.length : Int) + (totL List.length P : Int) < 0) := by omega
  simp only [nm_eq, ↓reduceIte, vc_skip, vc_region, vc_draw, vc_seq, vc_cond, vc_block, vc_exit, vc_ret, RV_nil, RV_q, RV_e, DV_nil, DV_q, DV_e, gq_none, gq_some, ge_none, ge_some, condK_true, condK_false, condK_dec, condK_ndec, guardK_bool, guardO_bool, guardO_skip, guardK_skip, ev_t, ev_c, mk_cons, put_some, put_none, qv_mv, qv_pick, qv_bin, qv_un, qv_conv, qv_nilCheck, qv_build, qv_field, qv_fieldAddr, qv_indexAddr, qv_indexStr, qv_extract, qv_len, qv_lenStr, qv_cap, qv_slice, qv_sliceStr, qv_maxmin, qv_makeFunc, qv_load, qv_rev, eff_alloc, eff_box, eff_buildSl, eff_store, aStore_ptr, eff_makeSl, aMake_int, eff_append, eff_copy, eff_call, eff_callV, aCallV_clo, abin_add, abin_sub, abin_mul, abin_quo, abin_rem, abin_eql, abin_neq, abin_lss, abin_leq, abin_gtr, abin_geq, abin_beql, abin_bneq, abin_nn, abin_sn, abin_ns, abin_nnx, abin_snx, abin_nsx, abin_str, aun_neg, aun_not, aPick_true, aPick_false, aConv_int, aNil_ptr, aNil_clo, aField_agg, aField_one, aFieldAddr_ptr, Int.toNat_natCast, rd1_new, rd_new, new_next, Nat.left_eq_add, Nat.add_eq_left, Nat.succ_ne_self, Nat.one_ne_zero, Nat.add_left_cancel_iff, Nat.add_assoc, List.getElem?_cons_zero, List.getElem?_cons_succ, List.take_succ_cons, List.take_zero, List.drop_succ_cons, List.drop_zero, List.take_nil, List.drop_nil, Nat.reduceLeDiff, Nat.le_refl, afill_nil, afill_cons, zeros_zero, zeros_one1, zeros_single, Nat.lt_add_one, Int.reduceEq, Int.reduceLT, Int.reduceLE, Int.reduceNeg, aExtract_tup, aLen_sl, aLen_nils, aLenStr_str, aMaxmin_int, ldv_one, ldv_agg, news_nil, news_cons, RecOK_nil, RecOK_none, RecOK_cons, recOf, wantedI, rvals_nil, rvals_tmp, rvals_cell, retQ_normal, retQ_ret, packR_one, packR_nil, packR_two, optK_some, optK_none, optK_bind, optK_map, List.map_cons, List.map_nil, Nat.reduceEqDiff, if_true, if_false, ite_true, ite_false, List.nil_append, List.cons_append, Option.map_some, Option.map_none, reduceCtorEq, decide_true, decide_false, Bool.not_true, Bool.not_false, cells_int, cells_bool, cells_str, cells_nilp, cells_ptr, cells_nils, cells_sl, cells_nilf, cells_clo, cells_agg, List.all_cons, List.all_nil, one_int, one_bool, one_str, one_nilp, one_ptr, one_nils, one_sl, one_nilf, one_clo, List.length_cons, List.length_nil, Bool.and_true, Bool.true_and, Bool.and_self, true_and, and_true, Bool.true_eq_false, Bool.false_eq_true, List.contains_cons, List.contains_nil, Bool.or_false, Bool.or_true, Bool.true_or, Bool.false_or, eq_self, Nat.reduceBEq, Nat.reduceAdd, Nat.mul_one, Nat.zero_add, Nat.add_zero, rd1_of_obj qC, hneg]
  refine markInt64SSS_A hR.C wC dC u2.wf hvC2 (by have := sz.C.l; omega) (fun x hx => ⟨by have := (sz.C.r x hx).l; omega, fun y hy => by have := (sz.C.r x hx).r y hy; omega⟩) (by omega) (by omega) fun h3 u3 => ?_
  have u23 : Upd h1 (mkF mkI List.length (k + O.length) vP P ++ mkF (mkF mkI List.length) (totL List.length) (k + O.length + totL List.length P) vC C) h3 := u2.trans u3 (fun o ho hm => dd o (kP o ho) o (kC o hm) rfl) fun o ho => by have : o < h.next := ead_z hvC o (kC o ho); have := u1.next; omega
  have kPC : ∀ o ∈ (mkF mkI List.length (k + O.length) vP P ++ mkF (mkF mkI List.length) (totL List.length) (k + O.length + totL List.length P) vC C).map Prod.fst, o ∈ ead vP ++ ead vC := fun o ho => by
    rw [List.map_append, List.mem_append] at ho
    exact List.mem_append.2 (ho.imp (kP o) (kC o))
  have hlt : ∀ o ∈ ead vP ++ ead vC, o < h.next := fun o ho => (List.mem_append.1 ho).elim (fun hm => ead_z hvP o hm) fun hm => ead_z hvC o hm
  have u4 : Upd hh (mkPr k vO vP vC O P C) h3 := u1.trans u23 (fun o ho hm => dd0 o (kO o ho) o (kPC o hm) rfl) fun o ho => by have := hlt o (kPC o ho); omega
  have u5 := hx1.upd.trans u4 (fun o ho => by cases ho) fun o ho => by
    unfold mkPr at ho
    rw [List.map_append, List.mem_append] at ho
    exact ho.elim (fun hm => ead_z hvO o (kO o hm)) fun hm => hlt o (kPC o hm)
  have e : k + (O.length : Int) + (totL List.length P : Int) + (totL (totL List.length) C : Int) = k + ((O.length + totL List.length P + totL (totL List.length) C : Nat) : Int) := by omega
  rw [e]
  simp only [nm_eq, ↓reduceIte, vc_skip, vc_region, vc_draw, vc_seq, vc_cond, vc_block, vc_exit, vc_ret, RV_nil, RV_q, RV_e, DV_nil, DV_q, DV_e, gq_none, gq_some, ge_none, ge_some, condK_true, condK_false, condK_dec, condK_ndec, guardK_bool, guardO_bool, guardO_skip, guardK_skip, ev_t, ev_c, mk_cons, put_some, put_none, qv_mv, qv_pick, qv_bin, qv_un, qv_conv, qv_nilCheck, qv_build, qv_field, qv_fieldAddr, qv_indexAddr, qv_indexStr, qv_extract, qv_len, qv_lenStr, qv_cap, qv_slice, qv_sliceStr, qv_maxmin, qv_makeFunc, qv_load, qv_rev, eff_alloc, eff_box, eff_buildSl, eff_store, aStore_ptr, eff_makeSl, aMake_int, eff_append, eff_copy, eff_call, eff_callV, aCallV_clo, abin_add, abin_sub, abin_mul, abin_quo, abin_rem, abin_eql, abin_neq, abin_lss, abin_leq, abin_gtr, abin_geq, abin_beql, abin_bneq, abin_nn, abin_sn, abin_ns, abin_nnx, abin_snx, abin_nsx, abin_str, aun_neg, aun_not, aPick_true, aPick_false, aConv_int, aNil_ptr, aNil_clo, aField_agg, aField_one, aFieldAddr_ptr, Int.toNat_natCast, rd1_new, rd_new, new_next, Nat.left_eq_add, Nat.add_eq_left, Nat.succ_ne_self, Nat.one_ne_zero, Nat.add_left_cancel_iff, Nat.add_assoc, List.getElem?_cons_zero, List.getElem?_cons_succ, List.take_succ_cons, List.take_zero, List.drop_succ_cons, List.drop_zero, List.take_nil, List.drop_nil, Nat.reduceLeDiff, Nat.le_refl, afill_nil, afill_cons, zeros_zero, zeros_one1, zeros_single, Nat.lt_add_one, Int.reduceEq, Int.reduceLT, Int.reduceLE, Int.reduceNeg, aExtract_tup, aLen_sl, aLen_nils, aLenStr_str, aMaxmin_int, ldv_one, ldv_agg, news_nil, news_cons, RecOK_nil, RecOK_none, RecOK_cons, recOf, wantedI, rvals_nil, rvals_tmp, rvals_cell, retQ_normal, retQ_ret, packR_one, packR_nil, packR_two, optK_some, optK_none, optK_bind, optK_map, List.map_cons, List.map_nil, Nat.reduceEqDiff, if_true, if_false, ite_true, ite_false, List.nil_append, List.cons_append, Option.map_some, Option.map_none, reduceCtorEq, decide_true, decide_false, Bool.not_true, Bool.not_false, cells_int, cells_bool, cells_str, cells_nilp, cells_ptr, cells_nils, cells_sl, cells_nilf, cells_clo, cells_agg, List.all_cons, List.all_nil, one_int, one_bool, one_str, one_nilp, one_ptr, one_nils, one_sl, one_nilf, one_clo, List.length_cons, List.length_nil, Bool.and_true, Bool.true_and, Bool.and_self, true_and, and_true, Bool.true_eq_false, Bool.false_eq_true, List.contains_cons, List.contains_nil, Bool.or_false, Bool.or_true, Bool.true_or, Bool.false_or, eq_self, Nat.reduceBEq, Nat.reduceAdd, Nat.mul_one, Nat.zero_add, Nat.add_zero]
  have e2 := hk h3 (by simpa using u5)
  simpa only [Nat.add_assoc] using e2
theorem markModule_A {p d k : Int} {vA : PV} {As : List (List (List Int))} (hA : FIII vA As) (hW : Wh (.agg [.int .i64 p, .int .i64 d, vA])) (hnd : (ead (.agg [.int .i64 p, .int .i64 d, vA])).Nodup) (hw : HWF h) (hv : VOK (zlt h) h 0 (.agg [.int .i64 p, .int .i64 d, vA])) (sz : SzM As) (hk0 : 0 ≤ k) (hk1 : k + totL (totL List.length) As ≤ 4611686018427387904)
    (hk : ∀ h', Upd h (mkF (mkF mkI List.length) (totL List.length) k vA As) h' → K (.int .i64 (k + totL (totL List.length) As)) h') : ACalls Try.prog 25 [er idz (.agg [.int .i64 p, .int .i64 d, vA]), .int .i64 k] h K := by
  refine acalls_of_vc mix Try.func25 cf25 rfl ?_
  dsimp only [if25]
  simp only [er, ers]
  obtain ⟨_, _, hvA, _⟩ := hv
  obtain ⟨_, _, wA, _⟩ := hW
  have oA : (er idz vA).one = true := by rw [er_one hvA]; exact hA.one
  have cA := cells_of_one oA
  simp only [ead, eads, List.nil_append, List.append_nil] at hnd
  obtain ⟨hh, he, hx1, hn, qq⟩ := box1 hw [.int .i64 p, .int .i64 d, er idz vA]
  have hzz : ∀ o, zlt h o → zlt hh o ∧ hh.obj o = h.obj o := fun o ho => ⟨Nat.lt_of_lt_of_le ho hx1.next, hx1.obj o ho⟩
  have q := qq _ (Ext.refl hx1.wf)
  have kA := (mkT_I.F.F).keys (k := k) hA wA
  simp only [nm_eq, ↓reduceIte, vc_skip, vc_region, vc_draw, vc_seq, vc_cond, vc_block, vc_exit, vc_ret, RV_nil, RV_q, RV_e, DV_nil, DV_q, DV_e, gq_none, gq_some, ge_none, ge_some, condK_true, condK_false, condK_dec, condK_ndec, guardK_bool, guardO_bool, guardO_skip, guardK_skip, ev_t, ev_c, mk_cons, put_some, put_none, qv_mv, qv_pick, qv_bin, qv_un, qv_conv, qv_nilCheck, qv_build, qv_field, qv_fieldAddr, qv_indexAddr, qv_indexStr, qv_extract, qv_len, qv_lenStr, qv_cap, qv_slice, qv_sliceStr, qv_maxmin, qv_makeFunc, qv_load, qv_rev, eff_alloc, eff_box, eff_buildSl, eff_store, aStore_ptr, eff_makeSl, aMake_int, eff_append, eff_copy, eff_call, eff_callV, aCallV_clo, abin_add, abin_sub, abin_mul, abin_quo, abin_rem, abin_eql, abin_neq, abin_lss, abin_leq, abin_gtr, abin_geq, abin_beql, abin_bneq, abin_nn, abin_sn, abin_ns, abin_nnx, abin_snx, abin_nsx, abin_str, aun_neg, aun_not, aPick_true, aPick_false, aConv_int, aNil_ptr, aNil_clo, aField_agg, aField_one, aFieldAddr_ptr, Int.toNat_natCast, rd1_new, rd_new, new_next, Nat.left_eq_add, Nat.add_eq_left, Nat.succ_ne_self, Nat.one_ne_zero, Nat.add_left_cancel_iff, Nat.add_assoc, List.getElem?_cons_zero, List.getElem?_cons_succ, List.take_succ_cons, List.take_zero, List.drop_succ_cons, List.drop_zero, List.take_nil, List.drop_nil, Nat.reduceLeDiff, Nat.le_refl, afill_nil, afill_cons, zeros_zero, zeros_one1, zeros_single, Nat.lt_add_one, Int.reduceEq, Int.reduceLT, Int.reduceLE, Int.reduceNeg, aExtract_tup, aLen_sl, aLen_nils, aLenStr_str, aMaxmin_int, ldv_one, ldv_agg, news_nil, news_cons, RecOK_nil, RecOK_none, RecOK_cons, recOf, wantedI, rvals_nil, rvals_tmp, rvals_cell, retQ_normal, retQ_ret, packR_one, packR_nil, packR_two, optK_some, optK_none, optK_bind, optK_map, List.map_cons, List.map_nil, Nat.reduceEqDiff, if_true, if_false, ite_true, ite_false, List.nil_append, List.cons_append, Option.map_some, Option.map_none, reduceCtorEq, decide_true, decide_false, Bool.not_true, Bool.not_false, cells_int, cells_bool, cells_str, cells_nilp, cells_ptr, cells_nils, cells_sl, cells_nilf, cells_clo, cells_agg, List.all_cons, List.all_nil, one_int, one_bool, one_str, one_nilp, one_ptr, one_nils, one_sl, one_nilf, one_clo, List.length_cons, List.length_nil, Bool.and_true, Bool.true_and, Bool.and_self, true_and, and_true, Bool.true_eq_false, Bool.false_eq_true, List.contains_cons, List.contains_nil, Bool.or_false, Bool.or_true, Bool.true_or, Bool.false_or, eq_self, Nat.reduceBEq, Nat.reduceAdd, Nat.mul_one, Nat.zero_add, Nat.add_zero, he, oA, cA, rd1_of_obj q]
  refine markInt64SSS_A hA wA hnd hx1.wf (hvA.mono hzz (Nat.le_refl _)) (by have := sz.l; omega) (fun x hx => ⟨by have := (sz.r x hx).l; omega, fun y hy => by have := (sz.r x hx).r y hy; omega⟩) (by omega) (by omega) fun h1 u1 => ?_
  have u4 := hx1.upd.trans u1 (fun o ho => by cases ho) fun o ho => ead_z hvA o (kA o ho)
  simp only [nm_eq, ↓reduceIte, vc_skip, vc_region, vc_draw, vc_seq, vc_cond, vc_block, vc_exit, vc_ret, RV_nil, RV_q, RV_e, DV_nil, DV_q, DV_e, gq_none, gq_some, ge_none, ge_some, condK_true, condK_false, condK_dec, condK_ndec, guardK_bool, guardO_bool, guardO_skip, guardK_skip, ev_t, ev_c, mk_cons, put_some, put_none, qv_mv, qv_pick, qv_bin, qv_un, qv_conv, qv_nilCheck, qv_build, qv_field, qv_fieldAddr, qv_indexAddr, qv_indexStr, qv_extract, qv_len, qv_lenStr, qv_cap, qv_slice, qv_sliceStr, qv_maxmin, qv_makeFunc, qv_load, qv_rev, eff_alloc, eff_box, eff_buildSl, eff_store, aStore_ptr, eff_makeSl, aMake_int, eff_append, eff_copy, eff_call, eff_callV, aCallV_clo, abin_add, abin_sub, abin_mul, abin_quo, abin_rem, abin_eql, abin_neq, abin_lss, abin_leq, abin_gtr, abin_geq, abin_beql, abin_bneq, abin_nn, abin_sn, abin_ns, abin_nnx, abin_snx, abin_nsx, abin_str, aun_neg, aun_not, aPick_true, aPick_false, aConv_int, aNil_ptr, aNil_clo, aField_agg, aField_one, aFieldAddr_ptr, Int.toNat_natCast, rd1_new, rd_new, new_next, Nat.left_eq_add, Nat.add_eq_left, Nat.succ_ne_self, Nat.one_ne_zero, Nat.add_left_cancel_iff, Nat.add_assoc, List.getElem?_cons_zero, List.getElem?_cons_succ, List.take_succ_cons, List.take_zero, List.drop_succ_cons, List.drop_zero, List.take_nil, List.drop_nil, Nat.reduceLeDiff, Nat.le_refl, afill_nil, afill_cons, zeros_zero, zeros_one1, zeros_single, Nat.lt_add_one, Int.reduceEq, Int.reduceLT, Int.reduceLE, Int.reduceNeg, aExtract_tup, aLen_sl, aLen_nils, aLenStr_str, aMaxmin_int, ldv_one, ldv_agg, news_nil, news_cons, RecOK_nil, RecOK_none, RecOK_cons, recOf, wantedI, rvals_nil, rvals_tmp, rvals_cell, retQ_normal, retQ_ret, packR_one, packR_nil, packR_two, optK_some, optK_none, optK_bind, optK_map, List.map_cons, List.map_nil, Nat.reduceEqDiff, if_true, if_false, ite_true, ite_false, List.nil_append, List.cons_append, Option.map_some, Option.map_none, reduceCtorEq, decide_true, decide_false, Bool.not_true, Bool.not_false, cells_int, cells_bool, cells_str, cells_nilp, cells_ptr, cells_nils, cells_sl, cells_nilf, cells_clo, cells_agg, List.all_cons, List.all_nil, one_int, one_bool, one_str, one_nilp, one_ptr, one_nils, one_sl, one_nilf, one_clo, List.length_cons, List.length_nil, Bool.and_true, Bool.true_and, Bool.and_self, true_and, and_true, Bool.true_eq_false, Bool.false_eq_true, List.contains_cons, List.contains_nil, Bool.or_false, Bool.or_true, Bool.true_or, Bool.false_or, eq_self, Nat.reduceBEq, Nat.reduceAdd, Nat.mul_one, Nat.zero_add, Nat.add_zero]
  exact hk _ (by simpa using u4)
end
section
variable {σ : PHeap} {K : PV → PHeap → Prop} {p d : Int} {O : List Int} {P : List (List Int)} {C As : List (List (List Int))} {F : List (List Int)} {vO vP vC vA : PV} {lo hi : Nat}
theorem mkPr_keys {k : Int} (hR : IsPr vO vP vC O P C) (hW : Wh (.agg [vO, vP, vC])) : ∀ o ∈ (mkPr k vO vP vC O P C).map Prod.fst, o ∈ ead (.agg [vO, vP, vC]) := by
  obtain ⟨wO, wP, wC, _⟩ := hW
  intro o ho
  unfold mkPr at ho
  rw [List.map_append, List.mem_append, List.map_append, List.mem_append] at ho
  simp only [ead, eads, List.nil_append, List.append_nil, List.mem_append]
  exact ho.imp (mkT_I.keys hR.O wO o) fun h => h.imp (mkT_I.F.keys hR.P wP o) (mkT_I.F.F.keys hR.C wC o)
theorem keysP {k : Int} (hR : IsPr vO vP vC O P C) (ho : Own lo hi (.agg [vO, vP, vC])) : ∀ o ∈ (mkPr k vO vP vC O P C).map Prod.fst, lo ≤ o ∧ o < hi := fun o hm => ho.lt o (mkPr_keys hR ho.wh o hm)
theorem markPresentation_M {k : Int} (hR : IsPr vO vP vC O P C) (ho : Own lo hi (.agg [vO, vP, vC])) (sz : SzP O P C) (hk0 : 0 ≤ k) (hk1 : k + totP O P C ≤ 4611686018427387904) :
    MarkOK Try.prog 24 [.agg [vO, vP, vC], .int .i64 k] σ (mkPr k vO vP vC O P C) .i64 (k + totP O P C) :=
  MarkOK.of ⟨hR.O.bel 0, hR.P.bel 0, hR.C.bel 0, trivial⟩ (mkPr_keys hR ho.wh) fun h hw hv => markPresentation_A hR ho.wh ho.nd hw hv sz hk0 hk1 fun h' u => ⟨rfl, u⟩
theorem mkMo_keys {k : Int} (hA : FIII vA As) (hW : Wh (.agg [.int .i64 p, .int .i64 d, vA])) : ∀ o ∈ (mkF (mkF mkI List.length) (totL List.length) k vA As).map Prod.fst, o ∈ ead (.agg [.int .i64 p, .int .i64 d, vA]) := by
  obtain ⟨_, _, wA, _⟩ := hW
  intro o ho
  simp only [ead, eads, List.nil_append, List.append_nil]
  exact mkT_I.F.F.keys hA wA o ho
theorem keysM {k : Int} (hA : FIII vA As) (ho : Own lo hi (.agg [.int .i64 p, .int .i64 d, vA])) : ∀ o ∈ (mkF (mkF mkI List.length) (totL List.length) k vA As).map Prod.fst, lo ≤ o ∧ o < hi := fun o hm => ho.lt o (mkMo_keys hA ho.wh o hm)
theorem markModule_M {k : Int} (hA : FIII vA As) (ho : Own lo hi (.agg [.int .i64 p, .int .i64 d, vA])) (sz : SzM As) (hk0 : 0 ≤ k) (hk1 : k + totL (totL List.length) As ≤ 4611686018427387904) :
    MarkOK Try.prog 25 [.agg [.int .i64 p, .int .i64 d, vA], .int .i64 k] σ (mkF (mkF mkI List.length) (totL List.length) k vA As) .i64 (k + totL (totL List.length) As) :=
  MarkOK.of ⟨trivial, trivial, hA.bel 0, trivial⟩ (mkMo_keys hA ho.wh) fun h hw hv => markModule_A hA ho.wh ho.nd hw hv sz hk0 hk1 fun h' u => ⟨rfl, u⟩
theorem toPresentation_T (hR : IsPr vO vP vC O P C) (sz : SzP O P C) (hk : ∀ vO vP vC t, IsPr vO vP vC O P C → Own σ.top t (.agg [vO, vP, vC]) → σ.top ≤ t → K (.agg [vO, vP, vC]) (σ.up t)) : PCalls Try.prog 15 [.agg [vO, vP, vC]] σ K := by
  have h0 := hR.O.one
  have h1 := hR.P.one
  have h2 := hR.C.one
  refine PCalls.gh ?_
  refine pcalls_of_vp mix Try.func15 cf15 rfl ?_
  dsimp only [if15, qI, eI, nI, qD, eD]
  simp only [pwA, if_true, if_false, eq_self, nm_eq, reduceCtorEq, ↓reduceIte, Nat.reduceEqDiff, Nat.reduceLeDiff, Nat.reduceBEq, Nat.reduceAdd, Nat.reduceLT, Nat.reduceSub, Nat.reduceMul, Int.reduceEq, Int.reduceLT, Int.reduceLE, Int.reduceNeg, Int.reduceToNat, List.reduceReplicate, Int.ofNat_le, List.getElem?_drop, h0, h1, h2]
  refine toInt64S_T hR.O sz.O fun v0 t0 hv0 ho0 ht0 => ?_
  simp only [pwA, if_true, if_false, eq_self, nm_eq, reduceCtorEq, ↓reduceIte, Nat.reduceEqDiff, Nat.reduceLeDiff, Nat.reduceBEq, Nat.reduceAdd, Nat.reduceLT, Nat.reduceSub, Nat.reduceMul, Int.reduceEq, Int.reduceLT, Int.reduceLE, Int.reduceNeg, Int.reduceToNat, List.reduceReplicate, Int.ofNat_le, List.getElem?_drop, hv0.cells, hv0.one]
  refine toInt64SS_T hR.P sz.P fun v1 t1 hv1 ho1 ht1 => ?_
  simp only [pwA, if_true, if_false, eq_self, nm_eq, reduceCtorEq, ↓reduceIte, Nat.reduceEqDiff, Nat.reduceLeDiff, Nat.reduceBEq, Nat.reduceAdd, Nat.reduceLT, Nat.reduceSub, Nat.reduceMul, Int.reduceEq, Int.reduceLT, Int.reduceLE, Int.reduceNeg, Int.reduceToNat, List.reduceReplicate, Int.ofNat_le, List.getElem?_drop, hv0.one, hv1.cells, hv1.one]
  refine toInt64SSS_T hR.C sz.C fun v2 t2 hv2 ho2 ht2 => ?_
  simp only [pwA, if_true, if_false, eq_self, nm_eq, reduceCtorEq, ↓reduceIte, Nat.reduceEqDiff, Nat.reduceLeDiff, Nat.reduceBEq, Nat.reduceAdd, Nat.reduceLT, Nat.reduceSub, Nat.reduceMul, Int.reduceEq, Int.reduceLT, Int.reduceLE, Int.reduceNeg, Int.reduceToNat, List.reduceReplicate, Int.ofNat_le, List.getElem?_drop, hv2.cells, hv2.one, hv1.one, hv0.one]
  have hoo := (((Owns.nil σ.top σ.top).snoc ho0 (Nat.le_refl _) ht0).snoc ho1 ht0 ht1).snoc ho2 (Nat.le_trans ht0 ht1) ht2
  exact Gh.fin0T (t := t2) (v := .agg [v0, v1, v2]) (Keep.up (((keep_new σ _).new _).new _) (Nat.le_trans (Nat.le_trans ht0 ht1) ht2)) (Nat.le_refl _) ⟨hv0.bel _, hv1.bel _, hv2.bel _, trivial⟩ fun _ => hk v0 v1 v2 t2 ⟨hv0, hv1, hv2⟩ hoo.agg (Nat.le_trans (Nat.le_trans ht0 ht1) ht2)
theorem Owns.mod {lo t : Nat} {v : PV} (h : Own lo t v) (hl : lo ≤ t) : Own lo t (.agg [.int .i64 p, .int .i64 d, v]) :=
  ((((Owns.nil lo lo).snoc (Own.int _ _ .i64 p) (Nat.le_refl _) (Nat.le_refl _)).snoc (Own.int _ _ .i64 d) (Nat.le_refl _) (Nat.le_refl _)).snoc h (Nat.le_refl _) hl).agg
theorem toModule_T (hA : FIII vA As) (sz : SzM As) (hk : ∀ vA t, FIII vA As → Own σ.top t (.agg [.int .i64 p, .int .i64 d, vA]) → σ.top ≤ t → K (.agg [.int .i64 p, .int .i64 d, vA]) (σ.up t)) : PCalls Try.prog 16 [.agg [.int .i64 p, .int .i64 d, vA]] σ K := by
  have h1 := hA.one
  refine PCalls.gh ?_
  refine pcalls_of_vp mix Try.func16 cf16 rfl ?_
  dsimp only [if16, qI, eI, nI, qD, eD]
  simp only [pwA, if_true, if_false, eq_self, nm_eq, reduceCtorEq, ↓reduceIte, Nat.reduceEqDiff, Nat.reduceLeDiff, Nat.reduceBEq, Nat.reduceAdd, Nat.reduceLT, Nat.reduceSub, Nat.reduceMul, Int.reduceEq, Int.reduceLT, Int.reduceLE, Int.reduceNeg, Int.reduceToNat, List.reduceReplicate, Int.ofNat_le, List.getElem?_drop, h1]
  refine toInt64SSS_T hA sz fun v2 t2 hv2 ho2 ht2 => ?_
  simp only [pwA, if_true, if_false, eq_self, nm_eq, reduceCtorEq, ↓reduceIte, Nat.reduceEqDiff, Nat.reduceLeDiff, Nat.reduceBEq, Nat.reduceAdd, Nat.reduceLT, Nat.reduceSub, Nat.reduceMul, Int.reduceEq, Int.reduceLT, Int.reduceLE, Int.reduceNeg, Int.reduceToNat, List.reduceReplicate, Int.ofNat_le, List.getElem?_drop, hv2.cells, hv2.one]
  exact Gh.fin0T (t := t2) (v := .agg [.int .i64 p, .int .i64 d, v2]) (Keep.up (((keep_new σ _).new _).new _) ht2) (Nat.le_refl _) ⟨trivial, trivial, hv2.bel _, trivial⟩ fun _ => hk v2 t2 hv2 (Owns.mod ho2 ht2) ht2
theorem totII_bdx {xs : List (List Int)} (sz : SzL xs) : totL List.length xs ≤ 1099511627776 := by
  have h3 := totL_bd (m := 1048576) (len := List.length) sz.r
  have h4 := sz.l
  omega
theorem totM_bdx {As : List (List (List Int))} (sz : SzM As) : totL (totL List.length) As ≤ 1152921504606846976 := by
  have h3 := totL_bd (m := 1099511627776) (len := totL List.length) (xs := As) fun q hq => totII_bdx (sz.r q hq)
  have h4 := sz.l
  omega
theorem totP_bdx (sz : SzP O P C) : totP O P C ≤ 1153000000000000000 := by
  have h1 := totII_bdx sz.P
  have h2 := totM_bdx sz.C
  have h3 := sz.O
  unfold totP
  omega
end
end Go.Proofs
