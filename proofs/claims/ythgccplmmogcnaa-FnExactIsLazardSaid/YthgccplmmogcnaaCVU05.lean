/- Lie rings: the shape. -/
import Derived.Test.YthgccplmmogcnaaCVU04
set_option linter.unusedSimpArgs false
set_option linter.unusedVariables false
namespace Go.Proofs
open Go.Ab Go.Lie
variable {σ : PHeap} {K : PV → PHeap → Prop} {p : Int} {n : Nat} {W : List (List Int)} {B : List (List (List Int))} {vP vB : PV} {s : Nat}

/-- Sizes that a law allows. -/
structure SzR (W : List (List Int)) (B : List (List (List Int))) : Prop where
  Wl : W.length ≤ 1048576
  w : ∀ r ∈ W, r.length ≤ 1048576
  Bl : B.length ≤ 1048576
  b : ∀ q ∈ B, q.length ≤ 1048576
  c : ∀ q ∈ B, ∀ r ∈ q, r.length ≤ 1048576

/-- A vector that is 0 in its first k places. -/
def entOK (p : Int) (n k : Nat) (v : List Int) : Prop := isVec v p n ∧ isZ (v.take k)
def rowOK (p : Int) (n : Nat) (W : List (List Int)) (B : List (List (List Int))) (i : Nat) : Prop :=
  entOK p n (i + 1) (W.getD i []) ∧ (B.getD i []).length = n - 1 - i ∧ ∀ k, k < n - 1 - i → entOK p n (i + k + 2) ((B.getD i []).getD k [])
def isShape (p : Int) (W : List (List Int)) (B : List (List (List Int))) : Prop :=
  isP p ∧ W.length ≤ 6 ∧ B.length = W.length ∧ ipow p W.length ≤ 729 ∧ ∀ i, i < W.length → rowOK p W.length W B i

theorem entOK.el {k : Nat} {v : List Int} (h : entOK p n k v) : El p n v ∧ ∀ j, j < k → at_ v j = 0 := by
  refine ⟨⟨by have := h.1.1; omega, h.1.2⟩, fun j hj => ?_⟩
  rcases Nat.lt_or_ge j v.length with x | x
  · rw [at_eq x]
    exact h.2 _ (by rw [List.mem_take_iff_getElem]; exact ⟨j, by omega, rfl⟩)
  · exact at_ge x
theorem isShape.w (h : isShape p W B) : OkW p W.length W := by
  obtain ⟨h1, h2, h3, h4, h5⟩ := h
  refine ⟨h1.bd, h2, rfl, fun i hi => ?_⟩
  obtain ⟨a, b⟩ := (h5 i hi).1.el
  rw [getD_row hi] at a b
  exact ⟨a.1, a.2, fun j hj => b j (by omega)⟩
theorem isShape.b (h : isShape p W B) : OkB p W.length B := by
  obtain ⟨h1, h2, h3, h4, h5⟩ := h
  have hr : ∀ i (h : i < B.length), B[i].length = W.length - 1 - i := fun i hi => by have := (h5 i (by omega)).2.1; rwa [getD_row' hi] at this
  refine ⟨h3, hr, fun i hi k hk => ?_⟩
  obtain ⟨a, b⟩ := ((h5 i (by omega)).2.2 k (by rw [← hr i hi]; exact hk)).el
  rw [getD_row' hi, getD_row' hk] at a b
  exact ⟨a, fun j hj => b j (by omega)⟩

theorem isLieElement_ok {l : Nat} {w : Bool} {a : AV} {xs : List Int} (hs : PtrR σ s p vP vB) (hP : FII vP W) (hl : l = xs.length) (hb : xs.length ≤ 1048576) (hp : isP p) (hk : K (.bool (decide (isVec xs p W.length))) σ) :
    PCalls Try.prog 124 [.ptr s 0, .fz w a l (pis xs)] σ K := by
  have hpb := hp.bd
  obtain ⟨w1, a1, rP, rfl, hP⟩ := hP
  refine pcalls_of_vp mix Try.func124 cf124 rfl ?_
  dsimp only [if124, qI, eI, nI, qD, eD]
  simp only [pw0, pw1, pw2, pw3, pw4, pw5, pw6, pw7, pw8, pw9, if_true, if_false, eq_self, nm_eq, reduceCtorEq, ↓reduceIte, Nat.reduceEqDiff, Nat.reduceLeDiff, Nat.reduceBEq, Nat.reduceAdd, Nat.reduceLT, Nat.reduceSub, Nat.reduceMul, Int.reduceEq, Int.reduceLT, Int.reduceLE, Int.reduceNeg, Int.reduceToNat, obj_rd1 hs.obj]
  refine isVector_ok hl (by omega) (by omega) (by omega) ?_
  simp only [pw0, pw1, pw2, pw3, pw4, pw5, pw6, pw7, pw8, pw9, if_true, if_false, eq_self, nm_eq, reduceCtorEq, ↓reduceIte, Nat.reduceEqDiff, Nat.reduceLeDiff, Nat.reduceBEq, Nat.reduceAdd, Nat.reduceLT, Nat.reduceSub, Nat.reduceMul, Int.reduceEq, Int.reduceLT, Int.reduceLE, Int.reduceNeg, Int.reduceToNat]
  exact hk

/-- The test of one entry. -/
theorem entOK_iff {k : Nat} {v : List Int} : entOK p n k v ↔ isVec v p n ∧ isZ (v.take k) := Iff.rfl

theorem IsLieShape_ok (hR : IsR vP vB W B) (sz : SzR W B) (hk : ∀ t : Bool, (t = true ↔ isShape p W B) → K (.bool t) σ) : PCalls Try.prog 98 [.agg [.int .i64 p, vP, vB]] σ K := by
  have hFP := hR.P
  have hFB := hR.B
  obtain ⟨⟨w1, a1, rP, rfl, hP⟩, ⟨w3, a3, rB, rfl, hB⟩⟩ := hR
  refine PCalls.gh ?_
  have fin : ∀ {t : Bool} {σ' : PHeap}, (t = true ↔ isShape p W B) → Keep σ σ' → Gh σ K (.bool t) σ' := fun h k => Gh.fin0 k trivial (hk _ h)
  have no : ∀ {σ' : PHeap}, ¬ isShape p W B → Keep σ σ' → Gh σ K (.bool false) σ' := fun h k => fin ⟨fun x => (by cases x), fun x => absurd x h⟩ k
  have hkp := keep_new σ [.int .i64 p, .fz w1 a1 W.length rP, .fz w3 a3 B.length rB]
  have hpt : PtrR (σ.new [.int .i64 p, .fz w1 a1 W.length rP, .fz w3 a3 B.length rB]) σ.next p (.fz w1 a1 W.length rP) (.fz w3 a3 B.length rB) := ⟨by simp only [pw0, pw1, pw2, pw3, pw4, pw5, pw6, pw7, pw8, pw9, if_true, if_false, eq_self, nm_eq, reduceCtorEq, ↓reduceIte, Nat.reduceEqDiff, Nat.reduceLeDiff, Nat.reduceBEq, Nat.reduceAdd, Nat.reduceLT, Nat.reduceSub, Nat.reduceMul, Int.reduceEq, Int.reduceLT, Int.reduceLE, Int.reduceNeg, Int.reduceToNat], by simp only [pw0, pw1, pw2, pw3, pw4, pw5, pw6, pw7, pw8, pw9, if_true, if_false, eq_self, nm_eq, reduceCtorEq, ↓reduceIte, Nat.reduceEqDiff, Nat.reduceLeDiff, Nat.reduceBEq, Nat.reduceAdd, Nat.reduceLT, Nat.reduceSub, Nat.reduceMul, Int.reduceEq, Int.reduceLT, Int.reduceLE, Int.reduceNeg, Int.reduceToNat]⟩
  refine pcalls_of_vp mix Try.func98 cf98 rfl ?_
  dsimp only [if98, qI, eI, nI, qD, eD]
  by_cases h6 : W.length ≤ 6
  · have h6' : ¬ (6 : Int) < (W.length : Int) := by omega
    by_cases hBl : B.length = W.length
    · have hBl' : (B.length : Int) = (W.length : Int) := by omega
      simp only [pw0, pw1, pw2, pw3, pw4, pw5, pw6, pw7, pw8, pw9, if_true, if_false, eq_self, nm_eq, reduceCtorEq, ↓reduceIte, Nat.reduceEqDiff, Nat.reduceLeDiff, Nat.reduceBEq, Nat.reduceAdd, Nat.reduceLT, Nat.reduceSub, Nat.reduceMul, Int.reduceEq, Int.reduceLT, Int.reduceLE, Int.reduceNeg, Int.reduceToNat, h6', hBl']
      refine IsGroupPrime_ok ?_
      by_cases hp : isP p
      · simp only [pw0, pw1, pw2, pw3, pw4, pw5, pw6, pw7, pw8, pw9, if_true, if_false, eq_self, nm_eq, reduceCtorEq, ↓reduceIte, Nat.reduceEqDiff, Nat.reduceLeDiff, Nat.reduceBEq, Nat.reduceAdd, Nat.reduceLT, Nat.reduceSub, Nat.reduceMul, Int.reduceEq, Int.reduceLT, Int.reduceLE, Int.reduceNeg, Int.reduceToNat, hp]
        refine integerPower_ok hp.bd h6 ?_
        by_cases ho : ipow p W.length ≤ 729
        · have ho' : ¬ (729 : Int) < ipow p W.length := by omega
          simp only [pw0, pw1, pw2, pw3, pw4, pw5, pw6, pw7, pw8, pw9, if_true, if_false, eq_self, nm_eq, reduceCtorEq, ↓reduceIte, Nat.reduceEqDiff, Nat.reduceLeDiff, Nat.reduceBEq, Nat.reduceAdd, Nat.reduceLT, Nat.reduceSub, Nat.reduceMul, Int.reduceEq, Int.reduceLT, Int.reduceLE, Int.reduceNeg, Int.reduceToNat, ho']
          refine vp_loop (fun m vs h' => ∃ i : Nat, i ≤ W.length ∧ m = W.length - i ∧ vs = [.ptr σ.next 0, .int .i64 W.length, .fz w1 a1 W.length rP, .int .i64 W.length, .int .i64 i] ∧ h' = σ.new [.int .i64 p, .fz w1 a1 W.length rP, .fz w3 a3 B.length rB] ∧ ∀ j, j < i → rowOK p W.length W B j) W.length ?_ ?_
          · exact ⟨0, by omega, by omega, rfl, rfl, fun j hj => by omega⟩
          · rintro m vs h' ⟨i, hi, rfl, rfl, rfl, hall⟩
            simp only [pw0, pw1, pw2, pw3, pw4, pw5, pw6, pw7, pw8, pw9, if_true, if_false, eq_self, nm_eq, reduceCtorEq, ↓reduceIte, Nat.reduceEqDiff, Nat.reduceLeDiff, Nat.reduceBEq, Nat.reduceAdd, Nat.reduceLT, Nat.reduceSub, Nat.reduceMul, Int.reduceEq, Int.reduceLT, Int.reduceLE, Int.reduceNeg, Int.reduceToNat]
            refine iteI (fun hlt => ?_) fun hge => ?_
            · obtain ⟨w4, a4, hr⟩ := hP.rowI hlt
              have hiB : i < B.length := by omega
              obtain ⟨w5, a5, rs, hrb, hrs⟩ := hB.rowL hiB
              have hwl := sz.w _ (List.getElem_mem hlt)
              have hbl := sz.b _ (List.getElem_mem hiB)
              have bad : (isVec W[i] p W.length → isZ (W[i].take (i + 1)) → B[i].length = W.length - 1 - i → (∀ k (h : k < B[i].length), entOK p W.length (i + k + 2) B[i][k]) → False) → ¬ isShape p W B := fun hb hsh => by
                obtain ⟨⟨q1, q2⟩, q3, q4⟩ := hsh.2.2.2.2 i hlt
                rw [getD_row hlt] at q1 q2
                rw [getD_row' hiB] at q3
                refine hb q1 q2 q3 fun k h => ?_
                have := q4 k (by omega)
                rwa [getD_row' hiB, getD_row' h] at this
              simp only [pw0, pw1, pw2, pw3, pw4, pw5, pw6, pw7, pw8, pw9, if_true, if_false, eq_self, nm_eq, reduceCtorEq, ↓reduceIte, Nat.reduceEqDiff, Nat.reduceLeDiff, Nat.reduceBEq, Nat.reduceAdd, Nat.reduceLT, Nat.reduceSub, Nat.reduceMul, Int.reduceEq, Int.reduceLT, Int.reduceLE, Int.reduceNeg, Int.reduceToNat, hlt, hr, List.getElem?_drop]
              refine isLieElement_ok hpt hFP rfl hwl hp ?_
              by_cases hv : isVec W[i] p W.length
              · have hle : ((i : Int) + 1 ≤ (W[i].length : Int)) := by have := hv.1; omega
                have hnn : (0 : Int) ≤ ((i + 1 : Nat) : Int) := by omega
                have hle2 : ((i + 1 : Nat) : Int) ≤ (W[i].length : Int) := by omega
                simp only [pw0, pw1, pw2, pw3, pw4, pw5, pw6, pw7, pw8, pw9, if_true, if_false, eq_self, nm_eq, reduceCtorEq, ↓reduceIte, Nat.reduceEqDiff, Nat.reduceLeDiff, Nat.reduceBEq, Nat.reduceAdd, Nat.reduceLT, Nat.reduceSub, Nat.reduceMul, Int.reduceEq, Int.reduceLT, Int.reduceLE, Int.reduceNeg, Int.reduceToNat, hv, wrapS hlt (by omega : W.length ≤ 4611686018427387904), hle2, pis_take, Nat.sub_zero]
                refine isZero_ok (by simp; omega) (by simp; omega) ?_
                by_cases hz : isZ (W[i].take (i + 1))
                · have e1 : IntKind.i64.wrap ((W.length : Int) - 1) = (W.length : Int) - 1 := wrap64 (by omega) (by omega)
                  have e2 : IntKind.i64.wrap ((W.length : Int) - 1 - (i : Int)) = (W.length : Int) - 1 - (i : Int) := wrap64 (by omega) (by omega)
                  by_cases hlen : B[i].length = W.length - 1 - i
                  · have hlen' : (B[i].length : Int) = (W.length : Int) - 1 - (i : Int) := by omega
                    simp only [pw0, pw1, pw2, pw3, pw4, pw5, pw6, pw7, pw8, pw9, if_true, if_false, eq_self, nm_eq, reduceCtorEq, ↓reduceIte, Nat.reduceEqDiff, Nat.reduceLeDiff, Nat.reduceBEq, Nat.reduceAdd, Nat.reduceLT, Nat.reduceSub, Nat.reduceMul, Int.reduceEq, Int.reduceLT, Int.reduceLE, Int.reduceNeg, Int.reduceToNat, hz, hlt, hiB, hrb, List.getElem?_drop, e1, e2, eq_true hlen']
                    refine vp_loop (fun m vs h' => ∃ k : Nat, k ≤ B[i].length ∧ m = B[i].length - k ∧ vs = [.ptr σ.next 0, .int .i64 W.length, .int .i64 i, .fz w1 a1 W.length rP, .int .i64 W.length, .int .i64 i, .fz w5 a5 B[i].length rs, .int .i64 B[i].length, .int .i64 k] ∧
                      h' = σ.new [.int .i64 p, .fz w1 a1 W.length rP, .fz w3 a3 B.length rB] ∧ ∀ j (h : j < B[i].length), j < k → entOK p W.length (i + j + 2) B[i][j]) B[i].length ?_ ?_
                    · exact ⟨0, by omega, by omega, rfl, rfl, fun j h hj => by omega⟩
                    · rintro m vs h' ⟨k, hk', rfl, rfl, rfl, hall2⟩
                      simp only [pw0, pw1, pw2, pw3, pw4, pw5, pw6, pw7, pw8, pw9, if_true, if_false, eq_self, nm_eq, reduceCtorEq, ↓reduceIte, Nat.reduceEqDiff, Nat.reduceLeDiff, Nat.reduceBEq, Nat.reduceAdd, Nat.reduceLT, Nat.reduceSub, Nat.reduceMul, Int.reduceEq, Int.reduceLT, Int.reduceLE, Int.reduceNeg, Int.reduceToNat]
                      refine iteI (fun hlt2 => ?_) fun hge => ?_
                      · obtain ⟨w6, a6, hrk⟩ := hrs.rowI hlt2
                        have hcl := sz.c _ (List.getElem_mem hiB) _ (List.getElem_mem hlt2)
                        simp only [pw0, pw1, pw2, pw3, pw4, pw5, pw6, pw7, pw8, pw9, if_true, if_false, eq_self, nm_eq, reduceCtorEq, ↓reduceIte, Nat.reduceEqDiff, Nat.reduceLeDiff, Nat.reduceBEq, Nat.reduceAdd, Nat.reduceLT, Nat.reduceSub, Nat.reduceMul, Int.reduceEq, Int.reduceLT, Int.reduceLE, Int.reduceNeg, Int.reduceToNat, hlt2, hrk, List.getElem?_drop]
                        refine isLieElement_ok hpt hFP rfl hcl hp ?_
                        by_cases hv2 : isVec B[i][k] p W.length
                        · have e3 : IntKind.i64.wrap ((i : Int) + (k : Int)) = ((i + k : Nat) : Int) := wrapA (by omega)
                          have e4 : IntKind.i64.wrap (((i + k : Nat) : Int) + 2) = ((i + k + 2 : Nat) : Int) := wrap64 (by omega) (by omega)
                          have hle3 : ((i + (k + 2) : Nat) : Int) ≤ (B[i][k].length : Int) := by have := hv2.1; omega
                          simp only [pw0, pw1, pw2, pw3, pw4, pw5, pw6, pw7, pw8, pw9, if_true, if_false, eq_self, nm_eq, reduceCtorEq, ↓reduceIte, Nat.reduceEqDiff, Nat.reduceLeDiff, Nat.reduceBEq, Nat.reduceAdd, Nat.reduceLT, Nat.reduceSub, Nat.reduceMul, Int.reduceEq, Int.reduceLT, Int.reduceLE, Int.reduceNeg, Int.reduceToNat, hv2, e3, e4, hle3, pis_take, Nat.sub_zero]
                          refine isZero_ok (by simp; omega) (by simp; omega) ?_
                          by_cases hz2 : isZ (B[i][k].take (i + (k + 2)))
                          · simp only [pw0, pw1, pw2, pw3, pw4, pw5, pw6, pw7, pw8, pw9, if_true, if_false, eq_self, nm_eq, reduceCtorEq, ↓reduceIte, Nat.reduceEqDiff, Nat.reduceLeDiff, Nat.reduceBEq, Nat.reduceAdd, Nat.reduceLT, Nat.reduceSub, Nat.reduceMul, Int.reduceEq, Int.reduceLT, Int.reduceLE, Int.reduceNeg, Int.reduceToNat, hz2, wrapS hlt2 (by omega : B[i].length ≤ 4611686018427387904)]
                            refine ⟨_, by omega, k + 1, by omega, rfl, rfl, fun j h hj => ?_⟩
                            by_cases e : j = k
                            · subst e; exact ⟨hv2, hz2⟩
                            · exact hall2 j h (by omega)
                          · simp only [pw0, pw1, pw2, pw3, pw4, pw5, pw6, pw7, pw8, pw9, if_true, if_false, eq_self, nm_eq, reduceCtorEq, ↓reduceIte, Nat.reduceEqDiff, Nat.reduceLeDiff, Nat.reduceBEq, Nat.reduceAdd, Nat.reduceLT, Nat.reduceSub, Nat.reduceMul, Int.reduceEq, Int.reduceLT, Int.reduceLE, Int.reduceNeg, Int.reduceToNat, hz2]
                            exact no (bad fun _ _ _ q => hz2 (q k hlt2).2) hkp
                        · simp only [pw0, pw1, pw2, pw3, pw4, pw5, pw6, pw7, pw8, pw9, if_true, if_false, eq_self, nm_eq, reduceCtorEq, ↓reduceIte, Nat.reduceEqDiff, Nat.reduceLeDiff, Nat.reduceBEq, Nat.reduceAdd, Nat.reduceLT, Nat.reduceSub, Nat.reduceMul, Int.reduceEq, Int.reduceLT, Int.reduceLE, Int.reduceNeg, Int.reduceToNat, hv2]
                          exact no (bad fun _ _ _ q => hv2 (q k hlt2).1) hkp
                      · simp only [pw0, pw1, pw2, pw3, pw4, pw5, pw6, pw7, pw8, pw9, if_true, if_false, eq_self, nm_eq, reduceCtorEq, ↓reduceIte, Nat.reduceEqDiff, Nat.reduceLeDiff, Nat.reduceBEq, Nat.reduceAdd, Nat.reduceLT, Nat.reduceSub, Nat.reduceMul, Int.reduceEq, Int.reduceLT, Int.reduceLE, Int.reduceNeg, Int.reduceToNat, wrapS hlt (by omega : W.length ≤ 4611686018427387904)]
                        refine ⟨_, by omega, i + 1, by omega, rfl, rfl, fun j hj => ?_⟩
                        by_cases e : j = i
                        · subst e
                          refine ⟨by rw [getD_row hlt]; exact ⟨hv, hz⟩, by rw [getD_row' hiB]; exact hlen, fun t ht => ?_⟩
                          rw [getD_row' hiB, getD_row' (by omega : t < B[j].length)]
                          exact hall2 t (by omega) (by omega)
                        · exact hall j (by omega)
                  · have hlen' : ¬ (B[i].length : Int) = (W.length : Int) - 1 - (i : Int) := by omega
                    simp only [pw0, pw1, pw2, pw3, pw4, pw5, pw6, pw7, pw8, pw9, if_true, if_false, eq_self, nm_eq, reduceCtorEq, ↓reduceIte, Nat.reduceEqDiff, Nat.reduceLeDiff, Nat.reduceBEq, Nat.reduceAdd, Nat.reduceLT, Nat.reduceSub, Nat.reduceMul, Int.reduceEq, Int.reduceLT, Int.reduceLE, Int.reduceNeg, Int.reduceToNat, hz, hlt, hiB, hrb, List.getElem?_drop, e1, e2, hlen']
                    exact no (bad fun _ _ q _ => hlen q) hkp
                · simp only [pw0, pw1, pw2, pw3, pw4, pw5, pw6, pw7, pw8, pw9, if_true, if_false, eq_self, nm_eq, reduceCtorEq, ↓reduceIte, Nat.reduceEqDiff, Nat.reduceLeDiff, Nat.reduceBEq, Nat.reduceAdd, Nat.reduceLT, Nat.reduceSub, Nat.reduceMul, Int.reduceEq, Int.reduceLT, Int.reduceLE, Int.reduceNeg, Int.reduceToNat, hz]
                  exact no (bad fun _ q _ _ => hz q) hkp
              · simp only [pw0, pw1, pw2, pw3, pw4, pw5, pw6, pw7, pw8, pw9, if_true, if_false, eq_self, nm_eq, reduceCtorEq, ↓reduceIte, Nat.reduceEqDiff, Nat.reduceLeDiff, Nat.reduceBEq, Nat.reduceAdd, Nat.reduceLT, Nat.reduceSub, Nat.reduceMul, Int.reduceEq, Int.reduceLT, Int.reduceLE, Int.reduceNeg, Int.reduceToNat, hv]
                exact no (bad fun q _ _ _ => hv q) hkp
            · exact fin ⟨fun _ => ⟨hp, h6, hBl, ho, fun j hj => hall j (by omega)⟩, fun _ => rfl⟩ hkp
        · have ho' : (729 : Int) < ipow p W.length := by omega
          simp only [pw0, pw1, pw2, pw3, pw4, pw5, pw6, pw7, pw8, pw9, if_true, if_false, eq_self, nm_eq, reduceCtorEq, ↓reduceIte, Nat.reduceEqDiff, Nat.reduceLeDiff, Nat.reduceBEq, Nat.reduceAdd, Nat.reduceLT, Nat.reduceSub, Nat.reduceMul, Int.reduceEq, Int.reduceLT, Int.reduceLE, Int.reduceNeg, Int.reduceToNat, ho']
          exact no (fun h => ho h.2.2.2.1) hkp
      · simp only [pw0, pw1, pw2, pw3, pw4, pw5, pw6, pw7, pw8, pw9, if_true, if_false, eq_self, nm_eq, reduceCtorEq, ↓reduceIte, Nat.reduceEqDiff, Nat.reduceLeDiff, Nat.reduceBEq, Nat.reduceAdd, Nat.reduceLT, Nat.reduceSub, Nat.reduceMul, Int.reduceEq, Int.reduceLT, Int.reduceLE, Int.reduceNeg, Int.reduceToNat, hp]
        exact no (fun h => hp h.1) hkp
    · have hBl' : ¬ (B.length : Int) = (W.length : Int) := by omega
      simp only [pw0, pw1, pw2, pw3, pw4, pw5, pw6, pw7, pw8, pw9, if_true, if_false, eq_self, nm_eq, reduceCtorEq, ↓reduceIte, Nat.reduceEqDiff, Nat.reduceLeDiff, Nat.reduceBEq, Nat.reduceAdd, Nat.reduceLT, Nat.reduceSub, Nat.reduceMul, Int.reduceEq, Int.reduceLT, Int.reduceLE, Int.reduceNeg, Int.reduceToNat, h6', hBl']
      exact no (fun h => hBl h.2.2.1) hkp
  · have h6' : (6 : Int) < (W.length : Int) := by omega
    simp only [pw0, pw1, pw2, pw3, pw4, pw5, pw6, pw7, pw8, pw9, if_true, if_false, eq_self, nm_eq, reduceCtorEq, ↓reduceIte, Nat.reduceEqDiff, Nat.reduceLeDiff, Nat.reduceBEq, Nat.reduceAdd, Nat.reduceLT, Nat.reduceSub, Nat.reduceMul, Int.reduceEq, Int.reduceLT, Int.reduceLE, Int.reduceNeg, Int.reduceToNat, h6']
    exact no (fun h => h6 h.2.1) hkp
end Go.Proofs
