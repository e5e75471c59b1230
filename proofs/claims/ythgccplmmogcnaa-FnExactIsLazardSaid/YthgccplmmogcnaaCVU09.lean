/- Lie rings: lists of elements, images of combinations. -/
import Derived.Test.YthgccplmmogcnaaCVU08
set_option linter.unusedSimpArgs false
set_option linter.unusedVariables false
namespace Go.Proofs
open Go.Ab Go.Lie
variable {σ : PHeap} {K : PV → PHeap → Prop} {p : Int} {n : Nat} {W : List (List Int)} {B : List (List (List Int))} {vP vB vL : PV} {s : Nat}

theorem isVec_el {xs : List Int} : isVec xs p n ↔ El p n xs := ⟨fun h => ⟨by have := h.1; omega, h.2⟩, fun h => ⟨by have := h.1; omega, h.2⟩⟩

theorem l31Has_ok {l : Nat} {w : Bool} {a : AV} {xs : List Int} (hR : IsR vP vB W B) (hl : l = xs.length) (hb : xs.length ≤ 1048576) (hp : okp p) (hk : ∀ t : Bool, (t = true ↔ El p W.length xs) → K (.bool t) σ) :
    PCalls Try.prog 91 [.agg [.int .i64 p, vP, vB], .fz w a l (pis xs)] σ K := by
  have h2 := hR.B.one
  unfold okp at hp
  obtain ⟨⟨w1, a1, rP, rfl, hP⟩, hB⟩ := hR
  refine PCalls.gh ?_
  have hkp := keep_new σ [.int .i64 p, .fz w1 a1 W.length rP, vB]
  refine pcalls_of_vp mix Try.func91 cf91 rfl ?_
  dsimp only [if91, qI, eI, nI, qD, eD]
  simp only [pw0, pw1, pw2, pw3, pw4, pw5, pw6, pw7, pw8, pw9, if_true, if_false, eq_self, nm_eq, reduceCtorEq, ↓reduceIte, Nat.reduceEqDiff, Nat.reduceLeDiff, Nat.reduceBEq, Nat.reduceAdd, Nat.reduceLT, Nat.reduceSub, Nat.reduceMul, Int.reduceEq, Int.reduceLT, Int.reduceLE, Int.reduceNeg, Int.reduceToNat, h2]
  refine l31Is_ok hl (by omega) (by omega) (by omega) ?_
  simp only [pw0, pw1, pw2, pw3, pw4, pw5, pw6, pw7, pw8, pw9, if_true, if_false, eq_self, nm_eq, reduceCtorEq, ↓reduceIte, Nat.reduceEqDiff, Nat.reduceLeDiff, Nat.reduceBEq, Nat.reduceAdd, Nat.reduceLT, Nat.reduceSub, Nat.reduceMul, Int.reduceEq, Int.reduceLT, Int.reduceLE, Int.reduceNeg, Int.reduceToNat]
  exact Gh.fin0 hkp trivial (hk _ (by rw [decide_eq_true_iff]; exact isVec_el))

/-- All of a list are elements. -/
def Els (p : Int) (n : Nat) (xs : List (List Int)) : Prop := ∀ x ∈ xs, El p n x
/-- Sizes of a list. -/
structure SzL (xs : List (List Int)) : Prop where
  l : xs.length ≤ 1048576
  r : ∀ x ∈ xs, x.length ≤ 1048576

theorem l32Elements_ok {xs : List (List Int)} (hR : IsR vP vB W B) (hL : FII vL xs) (sz : SzL xs) (hp : okp p) (hk : ∀ t : Bool, (t = true ↔ Els p W.length xs) → K (.bool t) σ) :
    PCalls Try.prog 55 [.agg [.int .i64 p, vP, vB], vL] σ K := by
  have h1 := hR.P.one
  have h2 := hR.B.one
  have hxl := sz.l
  obtain ⟨wl, al, rl, rfl, hrl⟩ := hL
  refine PCalls.gh ?_
  have hkp := keep_new σ [.int .i64 p, vP, vB]
  refine pcalls_of_vp mix Try.func55 cf55 rfl ?_
  dsimp only [if55, qI, eI, nI, qD, eD]
  simp only [pw0, pw1, pw2, pw3, pw4, pw5, pw6, pw7, pw8, pw9, if_true, if_false, eq_self, nm_eq, reduceCtorEq, ↓reduceIte, Nat.reduceEqDiff, Nat.reduceLeDiff, Nat.reduceBEq, Nat.reduceAdd, Nat.reduceLT, Nat.reduceSub, Nat.reduceMul, Int.reduceEq, Int.reduceLT, Int.reduceLE, Int.reduceNeg, Int.reduceToNat, h1, h2]
  refine vp_loop (fun m vs h' => ∃ i : Nat, i ≤ xs.length ∧ m = xs.length - i ∧ vs = [.fz wl al xs.length rl, .ptr σ.next 0, .int .i64 i] ∧ σ.new [.int .i64 p, vP, vB] = h' ∧ ∀ j (h : j < xs.length), j < i → El p W.length xs[j]) xs.length ?_ ?_
  · exact ⟨0, by omega, by omega, rfl, rfl, fun j h hj => by omega⟩
  rintro m vs h' ⟨i, hi, rfl, rfl, rfl, hall⟩
  simp only [pw0, pw1, pw2, pw3, pw4, pw5, pw6, pw7, pw8, pw9, if_true, if_false, eq_self, nm_eq, reduceCtorEq, ↓reduceIte, Nat.reduceEqDiff, Nat.reduceLeDiff, Nat.reduceBEq, Nat.reduceAdd, Nat.reduceLT, Nat.reduceSub, Nat.reduceMul, Int.reduceEq, Int.reduceLT, Int.reduceLE, Int.reduceNeg, Int.reduceToNat]
  refine iteI (fun hlt => ?_) fun hge => ?_
  · obtain ⟨w4, a4, hr⟩ := hrl.rowI hlt
    simp only [pw0, pw1, pw2, pw3, pw4, pw5, pw6, pw7, pw8, pw9, if_true, if_false, eq_self, nm_eq, reduceCtorEq, ↓reduceIte, Nat.reduceEqDiff, Nat.reduceLeDiff, Nat.reduceBEq, Nat.reduceAdd, Nat.reduceLT, Nat.reduceSub, Nat.reduceMul, Int.reduceEq, Int.reduceLT, Int.reduceLE, Int.reduceNeg, Int.reduceToNat, hlt, hr, List.getElem?_drop]
    refine l31Has_ok hR rfl (sz.r _ (List.getElem_mem hlt)) hp fun t ht => ?_
    cases t with
    | false =>
      simp only [pw0, pw1, pw2, pw3, pw4, pw5, pw6, pw7, pw8, pw9, if_true, if_false, eq_self, nm_eq, reduceCtorEq, ↓reduceIte, Nat.reduceEqDiff, Nat.reduceLeDiff, Nat.reduceBEq, Nat.reduceAdd, Nat.reduceLT, Nat.reduceSub, Nat.reduceMul, Int.reduceEq, Int.reduceLT, Int.reduceLE, Int.reduceNeg, Int.reduceToNat]
      exact Gh.fin0 hkp trivial (hk _ ⟨fun x => (by cases x), fun x => ht.2 (x _ (List.getElem_mem hlt))⟩)
    | true =>
      simp only [pw0, pw1, pw2, pw3, pw4, pw5, pw6, pw7, pw8, pw9, if_true, if_false, eq_self, nm_eq, reduceCtorEq, ↓reduceIte, Nat.reduceEqDiff, Nat.reduceLeDiff, Nat.reduceBEq, Nat.reduceAdd, Nat.reduceLT, Nat.reduceSub, Nat.reduceMul, Int.reduceEq, Int.reduceLT, Int.reduceLE, Int.reduceNeg, Int.reduceToNat, wrapS hlt (by omega : xs.length ≤ 4611686018427387904)]
      refine ⟨_, by omega, i + 1, by omega, rfl, rfl, fun j h hj => ?_⟩
      by_cases e : j = i
      · subst e; exact ht.1 rfl
      · exact hall j h (by omega)
  · refine Gh.fin0 hkp trivial (hk _ ⟨fun _ x hx => ?_, fun _ => rfl⟩)
    obtain ⟨j, hj, rfl⟩ := List.mem_iff_getElem.1 hx
    exact hall j hj (by omega)

theorem lieElements_ok {xs : List (List Int)} (hs : PtrR σ s p vP vB) (hR : IsR vP vB W B) (szr : SzR W B) (hL : FII vL xs) (sz : SzL xs) (hk : ∀ t : Bool, (t = true ↔ isLie p W B ∧ Els p W.length xs) → K (.bool t) σ) :
    PCalls Try.prog 95 [.ptr s 0, vL] σ K := by
  have hPP := hR.P
  have hxl := sz.l
  obtain ⟨wl, al, rl, rfl, hrl⟩ := hL
  refine pcalls_of_vp mix Try.func95 cf95 rfl ?_
  dsimp only [if95, qI, eI, nI, qD, eD]
  simp only [pw0, pw1, pw2, pw3, pw4, pw5, pw6, pw7, pw8, pw9, if_true, if_false, eq_self, nm_eq, reduceCtorEq, ↓reduceIte, Nat.reduceEqDiff, Nat.reduceLeDiff, Nat.reduceBEq, Nat.reduceAdd, Nat.reduceLT, Nat.reduceSub, Nat.reduceMul, Int.reduceEq, Int.reduceLT, Int.reduceLE, Int.reduceNeg, Int.reduceToNat, obj_rd1 hs.obj, obj_rd hs.obj]
  refine IsLieRing_ok hR szr fun t ht => ?_
  cases t with
  | false =>
    simp only [pw0, pw1, pw2, pw3, pw4, pw5, pw6, pw7, pw8, pw9, if_true, if_false, eq_self, nm_eq, reduceCtorEq, ↓reduceIte, Nat.reduceEqDiff, Nat.reduceLeDiff, Nat.reduceBEq, Nat.reduceAdd, Nat.reduceLT, Nat.reduceSub, Nat.reduceMul, Int.reduceEq, Int.reduceLT, Int.reduceLE, Int.reduceNeg, Int.reduceToNat]
    exact hk _ ⟨fun x => (by cases x), fun x => ht.2 x.1⟩
  | true =>
  have hlie := ht.1 rfl
  simp only [pw0, pw1, pw2, pw3, pw4, pw5, pw6, pw7, pw8, pw9, if_true, if_false, eq_self, nm_eq, reduceCtorEq, ↓reduceIte, Nat.reduceEqDiff, Nat.reduceLeDiff, Nat.reduceBEq, Nat.reduceAdd, Nat.reduceLT, Nat.reduceSub, Nat.reduceMul, Int.reduceEq, Int.reduceLT, Int.reduceLE, Int.reduceNeg, Int.reduceToNat]
  refine vp_loop (fun m vs h' => ∃ i : Nat, i ≤ xs.length ∧ m = xs.length - i ∧ vs = [.ptr s 0, .fz wl al xs.length rl, .int .i64 xs.length, .int .i64 i] ∧ σ = h' ∧ ∀ j (h : j < xs.length), j < i → El p W.length xs[j]) xs.length ?_ ?_
  · exact ⟨0, by omega, by omega, rfl, rfl, fun j h hj => by omega⟩
  rintro m vs h' ⟨i, hi, rfl, rfl, rfl, hall⟩
  simp only [pw0, pw1, pw2, pw3, pw4, pw5, pw6, pw7, pw8, pw9, if_true, if_false, eq_self, nm_eq, reduceCtorEq, ↓reduceIte, Nat.reduceEqDiff, Nat.reduceLeDiff, Nat.reduceBEq, Nat.reduceAdd, Nat.reduceLT, Nat.reduceSub, Nat.reduceMul, Int.reduceEq, Int.reduceLT, Int.reduceLE, Int.reduceNeg, Int.reduceToNat]
  refine iteI (fun hlt => ?_) fun hge => ?_
  · obtain ⟨w4, a4, hr⟩ := hrl.rowI hlt
    simp only [pw0, pw1, pw2, pw3, pw4, pw5, pw6, pw7, pw8, pw9, if_true, if_false, eq_self, nm_eq, reduceCtorEq, ↓reduceIte, Nat.reduceEqDiff, Nat.reduceLeDiff, Nat.reduceBEq, Nat.reduceAdd, Nat.reduceLT, Nat.reduceSub, Nat.reduceMul, Int.reduceEq, Int.reduceLT, Int.reduceLE, Int.reduceNeg, Int.reduceToNat, hlt, hr, List.getElem?_drop]
    refine isLieElement_ok hs hPP rfl (sz.r _ (List.getElem_mem hlt)) hlie.1.1 ?_
    by_cases hv : isVec xs[i] p W.length
    · simp only [pw0, pw1, pw2, pw3, pw4, pw5, pw6, pw7, pw8, pw9, if_true, if_false, eq_self, nm_eq, reduceCtorEq, ↓reduceIte, Nat.reduceEqDiff, Nat.reduceLeDiff, Nat.reduceBEq, Nat.reduceAdd, Nat.reduceLT, Nat.reduceSub, Nat.reduceMul, Int.reduceEq, Int.reduceLT, Int.reduceLE, Int.reduceNeg, Int.reduceToNat, hv, wrapS hlt (by omega : xs.length ≤ 4611686018427387904)]
      refine ⟨_, by omega, i + 1, by omega, rfl, rfl, fun j h hj => ?_⟩
      by_cases e : j = i
      · subst e; exact isVec_el.1 hv
      · exact hall j h (by omega)
    · simp only [pw0, pw1, pw2, pw3, pw4, pw5, pw6, pw7, pw8, pw9, if_true, if_false, eq_self, nm_eq, reduceCtorEq, ↓reduceIte, Nat.reduceEqDiff, Nat.reduceLeDiff, Nat.reduceBEq, Nat.reduceAdd, Nat.reduceLT, Nat.reduceSub, Nat.reduceMul, Int.reduceEq, Int.reduceLT, Int.reduceLE, Int.reduceNeg, Int.reduceToNat, hv]
      exact hk _ ⟨fun x => (by cases x), fun x => absurd (isVec_el.2 (x.2 _ (List.getElem_mem hlt))) hv⟩
  · refine hk _ ⟨fun _ => ⟨hlie, fun x hx => ?_⟩, fun _ => rfl⟩
    obtain ⟨j, hj, rfl⟩ := List.mem_iff_getElem.1 hx
    exact hall j hj (by omega)

/-- The first i images, each times its coefficient, added. -/
def csum (im : List (List Int)) (c : List Int) (n : Nat) : Nat → List Int
  | 0 => List.replicate n 0
  | i + 1 => addm (at_ c i) (csum im c n i) (im.getD i [])
theorem addm_zero {xs ys : List Int} (h : xs.length ≤ ys.length) : addm 0 xs ys = xs := by
  apply List.ext_getElem?
  intro i
  rcases Nat.lt_or_ge i xs.length with x | x
  · rw [addm_get x (by omega), gi x]; congr 1; omega
  · rw [List.getElem?_eq_none (by rw [addm_length h]; exact x), List.getElem?_eq_none x]
theorem im_el {im : List (List Int)} (he : Els p n im) {i : Nat} (hi : i < im.length) : El p n (im.getD i []) := by rw [getD_row' hi]; exact he _ (List.getElem_mem hi)
theorem csum_length {im : List (List Int)} {c : List Int} (he : Els p n im) : ∀ {i : Nat}, i ≤ im.length → (csum im c n i).length = n
  | 0, _ => by simp [csum]
  | i + 1, hi => by rw [csum, addm_length (by rw [csum_length he (by omega), (im_el he (by omega)).1]; omega), csum_length he (by omega)]
theorem cmul {x y : Int} (hx : 0 ≤ x ∧ x ≤ 6) (hy : 0 ≤ y ∧ y ≤ 6) : -36 ≤ x * y ∧ x * y ≤ 36 := by have := mul36 hx hy; omega
theorem csum_bd {im : List (List Int)} {c : List Int} (hp : okp p) (he : Els p n im) (hc : ∀ j, 0 ≤ at_ c j ∧ at_ c j ≤ 6) : ∀ {i : Nat}, i ≤ im.length → bd (36 * i) (csum im c n i)
  | 0, _ => fun t => by rw [csum, at_rep]; omega
  | i + 1, hi => fun t => by
    have h1 := csum_bd hp he hc (i := i) (by omega) t
    have h2 := cmul (hc i) ((im_el he (by omega : i < im.length)).at hp t)
    rw [csum, addm_at (by rw [csum_length he (by omega), (im_el he (by omega : i < im.length)).1])]
    omega

theorem combination_ok {l : Nat} {w : Bool} {a : AV} {im : List (List Int)} {c : List Int} (hs : PtrR σ s p vP vB) (hP : FII vP W) (o : OkW p n W) (hL : FII vL im) (he : Els p n im) (hc : ∀ j, 0 ≤ at_ c j ∧ at_ c j ≤ 6) (hle : c.length ≤ im.length) (hl : l = c.length) (hb : c.length ≤ 1048576)
    (hk : ResI σ K (norm p W (csum im c n c.length))) : PCalls Try.prog 126 [.ptr s 0, vL, .fz w a l (pis c)] σ K := by
  subst hl
  have hn6 := o.le
  have hWl := o.len
  have hPP := hP
  obtain ⟨wl, al, rl, rfl, hrl⟩ := hL
  obtain ⟨w1, a1, rP, rfl, hP⟩ := hP
  refine PCalls.gh ?_
  have hne : ¬ s = σ.next := Nat.ne_of_lt hs.lt
  refine pcalls_of_vp mix Try.func126 cf126 rfl ?_
  dsimp only [if126, qI, eI, nI, qD, eD]
  simp only [pw0, pw1, pw2, pw3, pw4, pw5, pw6, pw7, pw8, pw9, if_true, if_false, eq_self, nm_eq, reduceCtorEq, ↓reduceIte, Nat.reduceEqDiff, Nat.reduceLeDiff, Nat.reduceBEq, Nat.reduceAdd, Nat.reduceLT, Nat.reduceSub, Nat.reduceMul, Int.reduceEq, Int.reduceLT, Int.reduceLE, Int.reduceNeg, Int.reduceToNat, obj_rd1 hs.obj, hne, pis_rep, mk8 (n := W.length) (by omega), mkL (n := W.length) (by omega)]
  refine vp_loop (fun m vs h' => ∃ i : Nat, i ≤ c.length ∧ m = c.length - i ∧ vs = [.ptr s 0, .fz wl al im.length rl, .sl σ.next 0 W.length (.known W.length), .fz w a c.length (pis c), .int .i64 c.length, .int .i64 i] ∧ h' = σ.new (pis (csum im c n i))) c.length ?_ ?_
  · exact ⟨0, by omega, by omega, rfl, by rw [csum, hWl]⟩
  rintro m vs h' ⟨i, hi, rfl, rfl, rfl⟩
  simp only [pw0, pw1, pw2, pw3, pw4, pw5, pw6, pw7, pw8, pw9, if_true, if_false, eq_self, nm_eq, reduceCtorEq, ↓reduceIte, Nat.reduceEqDiff, Nat.reduceLeDiff, Nat.reduceBEq, Nat.reduceAdd, Nat.reduceLT, Nat.reduceSub, Nat.reduceMul, Int.reduceEq, Int.reduceLT, Int.reduceLE, Int.reduceNeg, Int.reduceToNat]
  refine iteI (fun hlt => ?_) fun hge => ?_
  · have hic : i < im.length := by omega
    obtain ⟨w4, a4, hr⟩ := hrl.rowI hic
    have hce := hc i
    have hcl := csum_length (c := c) he (by omega : i ≤ im.length)
    have hcb := csum_bd o.pr he hc (by omega : i ≤ im.length)
    have hie := he _ (List.getElem_mem hic)
    have hgd : im.getD i [] = im[i] := getD_row' hic
    rw [at_eq hlt] at hce
    have hneg : IntKind.i64.wrap (0 - c[i]) = -c[i] := by rw [wrap64 (by omega) (by omega)]; omega
    simp only [pw0, pw1, pw2, pw3, pw4, pw5, pw6, pw7, pw8, pw9, if_true, if_false, eq_self, nm_eq, reduceCtorEq, ↓reduceIte, Nat.reduceEqDiff, Nat.reduceLeDiff, Nat.reduceBEq, Nat.reduceAdd, Nat.reduceLT, Nat.reduceSub, Nat.reduceMul, Int.reduceEq, Int.reduceLT, Int.reduceLE, Int.reduceNeg, Int.reduceToNat, hlt, gi hlt, pis_get, List.getElem?_drop]
    refine iteI (fun h0 => ?_) fun h0 => ?_
    · simp only [pw0, pw1, pw2, pw3, pw4, pw5, pw6, pw7, pw8, pw9, if_true, if_false, eq_self, nm_eq, reduceCtorEq, ↓reduceIte, Nat.reduceEqDiff, Nat.reduceLeDiff, Nat.reduceBEq, Nat.reduceAdd, Nat.reduceLT, Nat.reduceSub, Nat.reduceMul, Int.reduceEq, Int.reduceLT, Int.reduceLE, Int.reduceNeg, Int.reduceToNat, wrapS hlt (by omega : c.length ≤ 4611686018427387904)]
      refine ⟨_, by omega, i + 1, by omega, rfl, rfl, ?_⟩
      rw [csum, at_eq hlt, h0, addm_zero (by rw [hcl, hgd, hie.1]; exact Nat.le_refl _)]
    · simp only [pw0, pw1, pw2, pw3, pw4, pw5, pw6, pw7, pw8, pw9, if_true, if_false, eq_self, nm_eq, reduceCtorEq, ↓reduceIte, Nat.reduceEqDiff, Nat.reduceLeDiff, Nat.reduceBEq, Nat.reduceAdd, Nat.reduceLT, Nat.reduceSub, Nat.reduceMul, Int.reduceEq, Int.reduceLT, Int.reduceLE, Int.reduceNeg, Int.reduceToNat, hic, hr, hneg, List.getElem?_drop]
      refine subtractMultiple_ok' (xs := csum im c n i) (by omega) rfl (by simp only [pw0, pw1, pw2, pw3, pw4, pw5, pw6, pw7, pw8, pw9, if_true, if_false, eq_self, nm_eq, reduceCtorEq, ↓reduceIte, Nat.reduceEqDiff, Nat.reduceLeDiff, Nat.reduceBEq, Nat.reduceAdd, Nat.reduceLT, Nat.reduceSub, Nat.reduceMul, Int.reduceEq, Int.reduceLT, Int.reduceLE, Int.reduceNeg, Int.reduceToNat]) (by rw [hie.1]; omega) (by omega) (fun t h1 h2 => ?_) ?_
      · have c1 := cmul hce (hie.at o.pr t)
        have c2 := hcb t
        rw [at_eq h2] at c1
        rw [at_eq h1] at c2
        rw [Int.neg_mul]
        unfold sm
        omega
      · simp only [pw0, pw1, pw2, pw3, pw4, pw5, pw6, pw7, pw8, pw9, if_true, if_false, eq_self, nm_eq, reduceCtorEq, ↓reduceIte, Nat.reduceEqDiff, Nat.reduceLeDiff, Nat.reduceBEq, Nat.reduceAdd, Nat.reduceLT, Nat.reduceSub, Nat.reduceMul, Int.reduceEq, Int.reduceLT, Int.reduceLE, Int.reduceNeg, Int.reduceToNat, wrapS hlt (by omega : c.length ≤ 4611686018427387904)]
        refine ⟨_, by omega, i + 1, by omega, rfl, rfl, ?_⟩
        rw [subm_neg, csum, at_eq hlt, hgd]
  · have hie : i = c.length := by omega
    subst hie
    have hcl := csum_length (c := c) he hle
    exact (normal_fin hs hPP o hcl ((csum_bd o.pr he hc hle).mono (by have : big = 1125899906842624 := rfl; omega)) (by rw [hcl]; exact hWl) (by simp [capOK]) hk).mono fun v σ' hg => by simp only [pw0, pw1, pw2, pw3, pw4, pw5, pw6, pw7, pw8, pw9, if_true, if_false, eq_self, nm_eq, reduceCtorEq, ↓reduceIte, Nat.reduceEqDiff, Nat.reduceLeDiff, Nat.reduceBEq, Nat.reduceAdd, Nat.reduceLT, Nat.reduceSub, Nat.reduceMul, Int.reduceEq, Int.reduceLT, Int.reduceLE, Int.reduceNeg, Int.reduceToNat]; exact hg

theorem l34Image_ok {l : Nat} {w : Bool} {a : AV} {im : List (List Int)} {c : List Int} (hR : IsR vP vB W B) (o : OkW p n W) (hL : FII vL im) (he : Els p n im) (hc : ∀ j, 0 ≤ at_ c j ∧ at_ c j ≤ 6) (hle : c.length ≤ im.length) (hl : l = c.length) (hb : c.length ≤ 1048576)
    (hk : ∀ v, K (.fz true v n (pis (norm p W (csum im c n c.length)))) σ) : PCalls Try.prog 94 [.agg [.int .i64 p, vP, vB], vL, .fz w a l (pis c)] σ K := by
  subst hl
  have hn6 := o.le
  have hWl := o.len
  have h1 := hR.P.one
  have h2 := hR.B.one
  obtain ⟨wl, al, rl, rfl, hrl⟩ := hL
  refine PCalls.gh ?_
  refine pcalls_of_vp mix Try.func94 cf94 rfl ?_
  dsimp only [if94, qI, eI, nI, qD, eD]
  simp only [pw0, pw1, pw2, pw3, pw4, pw5, pw6, pw7, pw8, pw9, if_true, if_false, eq_self, nm_eq, reduceCtorEq, ↓reduceIte, Nat.reduceEqDiff, Nat.reduceLeDiff, Nat.reduceBEq, Nat.reduceAdd, Nat.reduceLT, Nat.reduceSub, Nat.reduceMul, Int.reduceEq, Int.reduceLT, Int.reduceLE, Int.reduceNeg, Int.reduceToNat, h1, h2]
  refine l31Zero_ok hR hWl (by omega) fun v0 => ?_
  simp only [pw0, pw1, pw2, pw3, pw4, pw5, pw6, pw7, pw8, pw9, if_true, if_false, eq_self, nm_eq, reduceCtorEq, ↓reduceIte, Nat.reduceEqDiff, Nat.reduceLeDiff, Nat.reduceBEq, Nat.reduceAdd, Nat.reduceLT, Nat.reduceSub, Nat.reduceMul, Int.reduceEq, Int.reduceLT, Int.reduceLE, Int.reduceNeg, Int.reduceToNat]
  refine vp_loop (fun m vs h' => ∃ i : Nat, i ≤ c.length ∧ m = c.length - i ∧ ∃ v out, vs = [.fz wl al im.length rl, .fz w a c.length (pis c), .ptr σ.next 0, .fz true v n (pis out), .int .i64 i] ∧ σ.new [.int .i64 p, vP, vB] = h' ∧ El p n out ∧ Eqv p n W (at_ out) (at_ (csum im c n i))) c.length ?_ ?_
  · exact ⟨0, by omega, by omega, v0, _, rfl, rfl, rep_el o.pr, Eqv.refl _⟩
  rintro m vs h' ⟨i, hi, rfl, v, out, rfl, rfl, hout, heqv⟩
  simp only [pw0, pw1, pw2, pw3, pw4, pw5, pw6, pw7, pw8, pw9, if_true, if_false, eq_self, nm_eq, reduceCtorEq, ↓reduceIte, Nat.reduceEqDiff, Nat.reduceLeDiff, Nat.reduceBEq, Nat.reduceAdd, Nat.reduceLT, Nat.reduceSub, Nat.reduceMul, Int.reduceEq, Int.reduceLT, Int.reduceLE, Int.reduceNeg, Int.reduceToNat]
  refine iteI (fun hlt => ?_) fun hge => ?_
  · have hic : i < im.length := by omega
    obtain ⟨w4, a4, hr⟩ := hrl.rowI hic
    have hce := hc i
    have hcl := csum_length (c := c) he (by omega : i ≤ im.length)
    have hie := he _ (List.getElem_mem hic)
    have hgd : im.getD i [] = im[i] := getD_row' hic
    rw [at_eq hlt] at hce
    simp only [pw0, pw1, pw2, pw3, pw4, pw5, pw6, pw7, pw8, pw9, if_true, if_false, eq_self, nm_eq, reduceCtorEq, ↓reduceIte, Nat.reduceEqDiff, Nat.reduceLeDiff, Nat.reduceBEq, Nat.reduceAdd, Nat.reduceLT, Nat.reduceSub, Nat.reduceMul, Int.reduceEq, Int.reduceLT, Int.reduceLE, Int.reduceNeg, Int.reduceToNat, hlt, gi hlt, pis_get, hic, hr, List.getElem?_drop]
    refine l31Mix_el hR o hout hie hout.1.symm rfl (by decide) (by omega) fun v' => ?_
    have hml : (lmix 1 out c[i] im[i]).length = n := by rw [lmix_length (hout.1.trans hie.1.symm), hout.1]
    simp only [pw0, pw1, pw2, pw3, pw4, pw5, pw6, pw7, pw8, pw9, if_true, if_false, eq_self, nm_eq, reduceCtorEq, ↓reduceIte, Nat.reduceEqDiff, Nat.reduceLeDiff, Nat.reduceBEq, Nat.reduceAdd, Nat.reduceLT, Nat.reduceSub, Nat.reduceMul, Int.reduceEq, Int.reduceLT, Int.reduceLE, Int.reduceNeg, Int.reduceToNat, wrapS hlt (by omega : c.length ≤ 4611686018427387904)]
    refine ⟨_, by omega, i + 1, by omega, rfl, v', _, rfl, norm_el o hml, ?_⟩
    refine (norm_eqv o hml).trans ?_
    have h1 := heqv.add (Eqv.refl (p := p) (n := n) (W := W) (fun j => c[i] * at_ im[i] j))
    refine (Eqv.of_eq fun j => ?_).trans (h1.trans (Eqv.of_eq fun j => ?_))
    · rw [lmix_at (hout.1.trans hie.1.symm)]; omega
    · rw [csum, addm_at (by rw [hcl, hgd, hie.1]), hgd, at_eq hlt]
  · have hie : i = c.length := by omega
    subst hie
    have hcl := csum_length (c := c) he hle
    have : out = norm p W (csum im c n c.length) := eqv_unique o hout.1 (norm_length o hcl) hout.2 (norm_box o hcl) (heqv.trans (norm_eqv o hcl).symm)
    rw [this]
    exact Gh.fin0 (keep_new σ _) trivial (hk v)
end Go.Proofs
