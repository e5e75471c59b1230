/- What a derivation is, both sides. -/
import Derived.Test.YtpkibanhkjboeaaDP31
set_option linter.unusedSimpArgs false
set_option linter.unusedVariables false
namespace Go.Proofs
open Go.Ab Go.Lie Go.Grp Go.Mx
variable {σ : PHeap} {K : PV → PHeap → Prop} {p d : Int} {n na : Nat} {v w x xs ys : List Int} {A B M vals : List (List Int)} {As : List (List (List Int))} {vA vB vM vv vx vw vV v0 : PV} {O : List Int} {P : List (List Int)} {C : List (List (List Int))} {vO vP vC : PV} {s sp : Nat}
theorem areVectors_ok (hp : isP p) (hn : n ≤ 8) (sz : SzL M) (hs : PtrR σ s p (.int .i64 n) vA) (hM : FII vM M) (hk : ∀ t : Bool, (t = true ↔ Ma p n M) → K (.bool t) σ) : PCalls Try.prog 118 [.ptr s 0, vM] σ K := by
  have fl : ∀ {A : Prop}, ¬ A → ((false = true) ↔ A) := fun h => ⟨fun x => (by cases x), fun x => absurd x h⟩
  have hpb := hp.bd
  have hl0 := sz.l
  have e0 : σ.rd1 s 0 = some (.int .i64 p) := by rw [obj_rd1 hs.obj]; rfl
  have e1 : σ.rd1 s 1 = some (.int .i64 n) := by rw [obj_rd1 hs.obj]; rfl
  obtain ⟨wM, aM, rM, rfl, hrM⟩ := hM
  refine pcalls_of_vp mix Try.func118 cf118 rfl ?_
  dsimp only [if118, qI, eI, nI, qD, eD]
  simp only [pwA, if_true, if_false, eq_self, nm_eq, reduceCtorEq, ↓reduceIte, Nat.reduceEqDiff, Nat.reduceLeDiff, Nat.reduceBEq, Nat.reduceAdd, Nat.reduceLT, Nat.reduceSub, Nat.reduceMul, Int.reduceEq, Int.reduceLT, Int.reduceLE, Int.reduceNeg, Int.reduceToNat, List.reduceReplicate, Int.ofNat_le, List.getElem?_drop]
  refine vp_loop (fun m us h' => ∃ i : Nat, i ≤ M.length ∧ m = M.length - i ∧ us = [.ptr s 0, .fz wM aM M.length rM, .int .i64 M.length, .int .i64 i] ∧ σ = h' ∧ ∀ r ∈ M.take i, Ve p n r) M.length ?_ ?_
  · exact ⟨0, by omega, by omega, rfl, rfl, by simp⟩
  rintro m us h' ⟨i, hi, rfl, rfl, rfl, hall⟩
  simp only [pwA, if_true, if_false, eq_self, nm_eq, reduceCtorEq, ↓reduceIte, Nat.reduceEqDiff, Nat.reduceLeDiff, Nat.reduceBEq, Nat.reduceAdd, Nat.reduceLT, Nat.reduceSub, Nat.reduceMul, Int.reduceEq, Int.reduceLT, Int.reduceLE, Int.reduceNeg, Int.reduceToNat, List.reduceReplicate, Int.ofNat_le, List.getElem?_drop]
  refine iteI (fun hlt => ?_) fun hge => ?_
  rotate_left
  · exact hk _ ⟨fun _ r hr => hall r (by rwa [List.take_of_length_le (by omega)]), fun _ => rfl⟩
  obtain ⟨w4, a4, hr⟩ := hrM.rowI hlt
  have hb := sz.r _ (List.getElem_mem hlt)
  simp only [pwA, if_true, if_false, eq_self, nm_eq, reduceCtorEq, ↓reduceIte, Nat.reduceEqDiff, Nat.reduceLeDiff, Nat.reduceBEq, Nat.reduceAdd, Nat.reduceLT, Nat.reduceSub, Nat.reduceMul, Int.reduceEq, Int.reduceLT, Int.reduceLE, Int.reduceNeg, Int.reduceToNat, List.reduceReplicate, Int.ofNat_le, List.getElem?_drop, hlt, hr, e0, e1, List.getElem?_drop]
  refine isVector_ok rfl (by omega) (by omega) (by omega) ?_
  by_cases hv : isVec M[i] p (n : Int)
  · simp only [pwA, if_true, if_false, eq_self, nm_eq, reduceCtorEq, ↓reduceIte, Nat.reduceEqDiff, Nat.reduceLeDiff, Nat.reduceBEq, Nat.reduceAdd, Nat.reduceLT, Nat.reduceSub, Nat.reduceMul, Int.reduceEq, Int.reduceLT, Int.reduceLE, Int.reduceNeg, Int.reduceToNat, List.reduceReplicate, Int.ofNat_le, List.getElem?_drop, hv, wrapS hlt (by omega : M.length ≤ 4611686018427387904)]
    refine ⟨_, by omega, i + 1, by omega, rfl, rfl, fun r hr => ?_⟩
    rw [List.take_succ_eq_append_getElem hlt, List.mem_append, List.mem_singleton] at hr
    rcases hr with hr | rfl
    · exact hall r hr
    · exact (ve_iff (by omega)).1 hv
  · simp only [pwA, if_true, if_false, eq_self, nm_eq, reduceCtorEq, ↓reduceIte, Nat.reduceEqDiff, Nat.reduceLeDiff, Nat.reduceBEq, Nat.reduceAdd, Nat.reduceLT, Nat.reduceSub, Nat.reduceMul, Int.reduceEq, Int.reduceLT, Int.reduceLE, Int.reduceNeg, Int.reduceToNat, List.reduceReplicate, Int.ofNat_le, List.getElem?_drop, hv]
    exact hk _ (fl fun h => hv ((ve_iff (by omega)).2 (h _ (List.getElem_mem hlt))))
theorem l21Vectors_ok (hp : isP p) (hn : n ≤ 8) (sz : SzL M) (hA1 : vA.one = true) (hM : FII vM M) (hk : ∀ t : Bool, (t = true ↔ Ma p n M) → K (.bool t) σ) : PCalls Try.prog 115 [.agg [.int .i64 p, .int .i64 n, vA], vM] σ K := by
  have fl : ∀ {A : Prop}, ¬ A → ((false = true) ↔ A) := fun h => ⟨fun x => (by cases x), fun x => absurd x h⟩
  have hpb := hp.bd
  have hl0 := sz.l
  obtain ⟨wM, aM, rM, rfl, hrM⟩ := hM
  refine PCalls.gh ?_
  refine pcalls_of_vp mix Try.func115 cf115 rfl ?_
  dsimp only [if115, qI, eI, nI, qD, eD]
  simp only [pwA, if_true, if_false, eq_self, nm_eq, reduceCtorEq, ↓reduceIte, Nat.reduceEqDiff, Nat.reduceLeDiff, Nat.reduceBEq, Nat.reduceAdd, Nat.reduceLT, Nat.reduceSub, Nat.reduceMul, Int.reduceEq, Int.reduceLT, Int.reduceLE, Int.reduceNeg, Int.reduceToNat, List.reduceReplicate, Int.ofNat_le, List.getElem?_drop, hA1]
  refine vp_loop (fun m us h' => ∃ i : Nat, i ≤ M.length ∧ m = M.length - i ∧ us = [.fz wM aM M.length rM, .ptr σ.next 0, .int .i64 i] ∧ h' = σ.new [.int .i64 p, .int .i64 n, vA] ∧ ∀ r ∈ M.take i, Ve p n r) M.length ?_ ?_
  · exact ⟨0, by omega, by omega, rfl, rfl, by simp⟩
  rintro m us h' ⟨i, hi, rfl, rfl, rfl, hall⟩
  simp only [pwA, if_true, if_false, eq_self, nm_eq, reduceCtorEq, ↓reduceIte, Nat.reduceEqDiff, Nat.reduceLeDiff, Nat.reduceBEq, Nat.reduceAdd, Nat.reduceLT, Nat.reduceSub, Nat.reduceMul, Int.reduceEq, Int.reduceLT, Int.reduceLE, Int.reduceNeg, Int.reduceToNat, List.reduceReplicate, Int.ofNat_le, List.getElem?_drop]
  refine iteI (fun hlt => ?_) fun hge => ?_
  rotate_left
  · exact Gh.fin0 (keep_new σ _) trivial (hk _ ⟨fun _ r hr => hall r (by rwa [List.take_of_length_le (by omega)]), fun _ => rfl⟩)
  obtain ⟨w4, a4, hr⟩ := hrM.rowI hlt
  have hb := sz.r _ (List.getElem_mem hlt)
  simp only [pwA, if_true, if_false, eq_self, nm_eq, reduceCtorEq, ↓reduceIte, Nat.reduceEqDiff, Nat.reduceLeDiff, Nat.reduceBEq, Nat.reduceAdd, Nat.reduceLT, Nat.reduceSub, Nat.reduceMul, Int.reduceEq, Int.reduceLT, Int.reduceLE, Int.reduceNeg, Int.reduceToNat, List.reduceReplicate, Int.ofNat_le, List.getElem?_drop, hlt, hr, List.getElem?_drop]
  refine l02Vector_ok rfl (by omega) (by omega) (by omega) ?_
  by_cases hv : isVec M[i] p (n : Int)
  · simp only [pwA, if_true, if_false, eq_self, nm_eq, reduceCtorEq, ↓reduceIte, Nat.reduceEqDiff, Nat.reduceLeDiff, Nat.reduceBEq, Nat.reduceAdd, Nat.reduceLT, Nat.reduceSub, Nat.reduceMul, Int.reduceEq, Int.reduceLT, Int.reduceLE, Int.reduceNeg, Int.reduceToNat, List.reduceReplicate, Int.ofNat_le, List.getElem?_drop, hv, wrapS hlt (by omega : M.length ≤ 4611686018427387904)]
    refine ⟨_, by omega, i + 1, by omega, rfl, rfl, fun r hr => ?_⟩
    rw [List.take_succ_eq_append_getElem hlt, List.mem_append, List.mem_singleton] at hr
    rcases hr with hr | rfl
    · exact hall r hr
    · exact (ve_iff (by omega)).1 hv
  · simp only [pwA, if_true, if_false, eq_self, nm_eq, reduceCtorEq, ↓reduceIte, Nat.reduceEqDiff, Nat.reduceLeDiff, Nat.reduceBEq, Nat.reduceAdd, Nat.reduceLT, Nat.reduceSub, Nat.reduceMul, Int.reduceEq, Int.reduceLT, Int.reduceLE, Int.reduceNeg, Int.reduceToNat, List.reduceReplicate, Int.ofNat_le, List.getElem?_drop, hv]
    exact Gh.fin0 (keep_new σ _) trivial (hk _ (fl fun h => hv ((ve_iff (by omega)).2 (h _ (List.getElem_mem hlt)))))
theorem areValues_ok (hp : isP p) (hn : n ≤ 8) (sz : SzL M) (hsp : PtrG σ sp vO vP vC) (hO : FI vO O) (hs : PtrR σ s p (.int .i64 n) vA) (hM : FII vM M) (hk : ∀ t : Bool, (t = true ↔ M.length = O.length ∧ Ma p n M) → K (.bool t) σ) : PCalls Try.prog 85 [.ptr sp 0, .ptr s 0, vM] σ K := by
  have fl : ∀ {A : Prop}, ¬ A → ((false = true) ↔ A) := fun h => ⟨fun x => (by cases x), fun x => absurd x h⟩
  have hM0 := hM
  obtain ⟨w0, a0, rfl⟩ := hO
  obtain ⟨wM, aM, rM, rfl, hrM⟩ := hM
  have g0 : σ.rd1 sp 0 = some (.fz w0 a0 O.length (pis O)) := by rw [obj_rd1 hsp.obj]; rfl
  refine pcalls_of_vp mix Try.func85 cf85 rfl ?_
  dsimp only [if85, qI, eI, nI, qD, eD]
  by_cases hl : M.length = O.length
  rotate_left
  · have hl' : ¬ (M.length : Int) = (O.length : Int) := by omega
    simp only [pwA, if_true, if_false, eq_self, nm_eq, reduceCtorEq, ↓reduceIte, Nat.reduceEqDiff, Nat.reduceLeDiff, Nat.reduceBEq, Nat.reduceAdd, Nat.reduceLT, Nat.reduceSub, Nat.reduceMul, Int.reduceEq, Int.reduceLT, Int.reduceLE, Int.reduceNeg, Int.reduceToNat, List.reduceReplicate, Int.ofNat_le, List.getElem?_drop, g0, hl']
    exact hk _ (fl fun h => hl h.1)
  have hl' : (M.length : Int) = (O.length : Int) := by omega
  simp only [pwA, if_true, if_false, eq_self, nm_eq, reduceCtorEq, ↓reduceIte, Nat.reduceEqDiff, Nat.reduceLeDiff, Nat.reduceBEq, Nat.reduceAdd, Nat.reduceLT, Nat.reduceSub, Nat.reduceMul, Int.reduceEq, Int.reduceLT, Int.reduceLE, Int.reduceNeg, Int.reduceToNat, List.reduceReplicate, Int.ofNat_le, List.getElem?_drop, g0, eq_true hl']
  refine areVectors_ok hp hn sz hs hM0 fun t ht => ?_
  simp only [pwA, if_true, if_false, eq_self, nm_eq, reduceCtorEq, ↓reduceIte, Nat.reduceEqDiff, Nat.reduceLeDiff, Nat.reduceBEq, Nat.reduceAdd, Nat.reduceLT, Nat.reduceSub, Nat.reduceMul, Int.reduceEq, Int.reduceLT, Int.reduceLE, Int.reduceNeg, Int.reduceToNat, List.reduceReplicate, Int.ofNat_le, List.getElem?_drop]
  exact hk _ (ht.trans ⟨fun h => ⟨hl, h⟩, fun h => h.2⟩)
theorem l22Values_ok (hp : isP p) (hn : n ≤ 8) (sz : SzL M) (h1 : vP.one = true) (h2 : vC.one = true) (hO : FI vO O) (hA1 : vA.one = true) (hM : FII vM M) (hk : ∀ t : Bool, (t = true ↔ M.length = O.length ∧ Ma p n M) → K (.bool t) σ) : PCalls Try.prog 83 [.agg [vO, vP, vC], .agg [.int .i64 p, .int .i64 n, vA], vM] σ K := by
  have fl : ∀ {A : Prop}, ¬ A → ((false = true) ↔ A) := fun h => ⟨fun x => (by cases x), fun x => absurd x h⟩
  have hM0 := hM
  have h0 := hO.one
  obtain ⟨w0, a0, rfl⟩ := hO
  obtain ⟨wM, aM, rM, rfl, hrM⟩ := hM
  refine PCalls.gh ?_
  have hkp : Keep σ ((σ.new [.fz w0 a0 O.length (pis O), vP, vC]).new [.int .i64 p, .int .i64 n, vA]) := (keep_new σ _).new _
  refine pcalls_of_vp mix Try.func83 cf83 rfl ?_
  dsimp only [if83, qI, eI, nI, qD, eD]
  by_cases hl : M.length = O.length
  rotate_left
  · have hl' : ¬ (M.length : Int) = (O.length : Int) := by omega
    simp only [pwA, if_true, if_false, eq_self, nm_eq, reduceCtorEq, ↓reduceIte, Nat.reduceEqDiff, Nat.reduceLeDiff, Nat.reduceBEq, Nat.reduceAdd, Nat.reduceLT, Nat.reduceSub, Nat.reduceMul, Int.reduceEq, Int.reduceLT, Int.reduceLE, Int.reduceNeg, Int.reduceToNat, List.reduceReplicate, Int.ofNat_le, List.getElem?_drop, h0, h1, h2, hA1, hl']
    exact Gh.fin0 hkp trivial (hk _ (fl fun h => hl h.1))
  have hl' : (M.length : Int) = (O.length : Int) := by omega
  simp only [pwA, if_true, if_false, eq_self, nm_eq, reduceCtorEq, ↓reduceIte, Nat.reduceEqDiff, Nat.reduceLeDiff, Nat.reduceBEq, Nat.reduceAdd, Nat.reduceLT, Nat.reduceSub, Nat.reduceMul, Int.reduceEq, Int.reduceLT, Int.reduceLE, Int.reduceNeg, Int.reduceToNat, List.reduceReplicate, Int.ofNat_le, List.getElem?_drop, h0, h1, h2, hA1, eq_true hl']
  refine l21Vectors_ok hp hn sz hA1 hM0 fun t ht => ?_
  simp only [pwA, if_true, if_false, eq_self, nm_eq, reduceCtorEq, ↓reduceIte, Nat.reduceEqDiff, Nat.reduceLeDiff, Nat.reduceBEq, Nat.reduceAdd, Nat.reduceLT, Nat.reduceSub, Nat.reduceMul, Int.reduceEq, Int.reduceLT, Int.reduceLE, Int.reduceNeg, Int.reduceToNat, List.reduceReplicate, Int.ofNat_le, List.getElem?_drop]
  exact Gh.fin0 hkp trivial (hk _ (ht.trans ⟨fun h => ⟨hl, h⟩, fun h => h.2⟩))
end Go.Proofs
set_option linter.unusedSimpArgs false
set_option linter.unusedVariables false
namespace Go.Proofs
open Go.Ab Go.Lie Go.Grp Go.Mx
variable {σ : PHeap} {K : PV → PHeap → Prop} {p d : Int} {n na : Nat} {v w x xs ys : List Int} {A B M vals : List (List Int)} {As : List (List (List Int))} {vA vB vM vv vx vw vV v0 : PV} {O : List Int} {P : List (List Int)} {C : List (List (List Int))} {vO vP vC : PV} {s sp : Nat}
/-- The difference of a relation. -/
abbrev gapOf (p : Int) (n : Nat) (As : List (List (List Int))) (vals : List (List Int)) (r : List Int × List Int) : List Int := vadd p (-1) (foldW (vs p n As vals) r.1 (List.replicate n 0)) (foldW (vs p n As vals) r.2 (List.replicate n 0))
theorem flat_len {M : List (List Int)} (h : ∀ r ∈ M, r.length = n) : M.flatten.length = M.length * n := by
  induction M with
  | nil => simp
  | cons r M ih =>
    have h1 := h r (by simp)
    have h2 := ih fun t ht => h t (by simp [ht])
    rw [List.flatten_cons, List.length_append, h1, h2, List.length_cons, Nat.succ_mul]; omega
theorem fold_ve (hp : 2 ≤ p) (hq : SqL p n As) (hal : As.length = O.length) (hvs : Ma p n vals) (hvl : vals.length = O.length) {w : List Int} (hw : ∀ l ∈ w, 1 ≤ l ∧ l ≤ (O.length : Int)) : Ve p n (foldW (vs p n As vals) w (List.replicate n 0)) :=
  fold_in (S := Ve p n) (f := vs p n As vals) (n := As.length) (fun a i hi ha => vs_in (by omega) hq hvs (by omega) hi ha) w (fun l hl => by have := hw l hl; omega) (ve_zeros (by omega))
theorem gapOf_ve (hp : 2 ≤ p) (sh : Shp O P C) (hq : SqL p n As) (hal : As.length = O.length) (hvs : Ma p n vals) (hvl : vals.length = O.length) {r : List Int × List Int} (hr : r ∈ relL O P C) : Ve p n (gapOf p n As vals r) := by
  obtain ⟨i1, i2, _, _⟩ := rel_in sh hr
  exact vadd_ve (by omega) (fold_ve hp hq hal hvs hvl i1).len (fold_ve hp hq hal hvs hvl i2).len
theorem neg_one_mod (p : Int) : (-1) % p = (p - 1) % p := by
  have := Int.add_mul_emod_self_left (-1) p 1
  rw [← this]; congr 1; omega
end Go.Proofs
set_option linter.unusedSimpArgs false
set_option linter.unusedVariables false
namespace Go.Proofs
open Go.Ab Go.Lie Go.Grp Go.Mx
variable {σ : PHeap} {K : PV → PHeap → Prop} {p d : Int} {n na : Nat} {v w x xs ys : List Int} {A B M vals : List (List Int)} {As : List (List (List Int))} {vA vB vM vv vx vw vV v0 : PV} {O : List Int} {P : List (List Int)} {C : List (List (List Int))} {vO vP vC : PV} {s sp : Nat}
/-- The arguments fit. -/
def derFit (O : List Int) (P : List (List Int)) (C : List (List (List Int))) (p d : Int) (As : List (List (List Int))) (vals : List (List Int)) : Prop := isMod O P C p d As ∧ vals.length = O.length ∧ Ma p d.toNat vals
open Classical in
theorem gaps_small (hp : 2 ≤ p) (hn : n ≤ 3) (sh : Shp O P C) (hq : SqL p n As) (hal : As.length = O.length) (hvs : Ma p n vals) (hvl : vals.length = O.length) : (gaps p n As vals O P C).length ≤ 48 ∧ (gaps p n As vals O P C).flatten.length ≤ 144 := by
  have hrell : (relL O P C).length ≤ 48 := by
    have := relA_len sh (i := O.length) (Nat.le_refl _)
    have e : relA O P C O.length = relL O P C := rfl
    have := sh.le
    rw [← e]; omega
  have h1 : (gaps p n As vals O P C).length ≤ 48 := by simpa [gaps] using hrell
  refine ⟨h1, ?_⟩
  rw [flat_len (n := n) fun r hr => ?_]
  · have := Nat.mul_le_mul h1 hn; omega
  · unfold gaps at hr
    obtain ⟨q, hq', rfl⟩ := List.mem_map.1 hr
    exact (gapOf_ve hp sh hq hal hvs hvl hq').len
end Go.Proofs
