/- Lie rings: the faults. -/
import Derived.Test.YthgccplmmogcnaaCVU06
set_option linter.unusedSimpArgs false
set_option linter.unusedVariables false
namespace Go.Proofs
open Go.Ab Go.Lie
variable {σ : PHeap} {K : PV → PHeap → Prop} {p : Int} {n : Nat} {W : List (List Int)} {B : List (List (List Int))} {vP vB : PV} {s : Nat}

/-- The bracket of two elements. -/
abbrev br (p : Int) (W : List (List Int)) (B : List (List (List Int))) (n : Nat) (a b : List Int) : List Int := norm p W (bsum B a b n)
/-- The sum of two elements, a multiple of one. -/
abbrev ladd (p : Int) (W : List (List Int)) (a b : List Int) : List Int := norm p W (lmix 1 a 1 b)
abbrev lmul (p : Int) (W : List (List Int)) (k : Int) (a : List Int) : List Int := norm p W (lmix k a 0 a)

theorem br_el (o : OkW p n W) (q : OkB p n B) {a b : List Int} : El p n (br p W B n a b) := norm_el o (bsum_length q)
theorem lmix_el (o : OkW p n W) {k m : Int} {a b : List Int} (ha : El p n a) (hb : El p n b) : El p n (norm p W (lmix k a m b)) := norm_el o (by rw [lmix_length (ha.1.trans hb.1.symm)]; exact ha.1)
theorem unit_el (hp : okp p) {k : Nat} (hk : k < n) : El p n (unitL n k) := ⟨unitL_length n k, fun x hx => by
  have := hp.1
  rcases List.mem_or_eq_of_mem_set hx with h | h
  · rw [List.eq_of_mem_replicate h]; omega
  · omega⟩

def F1 (p : Int) (W : List (List Int)) (B : List (List (List Int))) (n i j : Nat) : Prop := lmul p W p (br p W B n (unitL n i) (unitL n j)) = br p W B n (W.getD i []) (unitL n j)
def F2 (p : Int) (W : List (List Int)) (B : List (List (List Int))) (n i j k : Nat) : Prop :=
  isZ (ladd p W (ladd p W (br p W B n (br p W B n (unitL n i) (unitL n j)) (unitL n k)) (br p W B n (br p W B n (unitL n j) (unitL n k)) (unitL n i))) (br p W B n (br p W B n (unitL n k) (unitL n i)) (unitL n j)))
/-- The ring has no fault. -/
def NoFault (p : Int) (W : List (List Int)) (B : List (List (List Int))) (n : Nat) : Prop := (∀ i j, i < n → j < n → F1 p W B n i j) ∧ ∀ i j k, i < j → j < k → k < n → F2 p W B n i j k

theorem unitVector_fz {k : Nat} (hn : n ≤ 1048576) (hkn : k < n) (hk : ∀ a, K (.fz true a n (pis (unitL n k))) σ) : PCalls Try.prog 129 [.int .i64 n, .int .i64 k] σ K :=
  PCalls.fz (fun K' => unitVector_ok hn hkn) (pis_bel _ _) fun o cap => hk _
theorem bracket_fz {l l' : Nat} {w w' : Bool} {av bv : AV} {a b : List Int} (hs : PtrR σ s p vP vB) (hR : IsR vP vB W B) (o : OkW p n W) (q : OkB p n B) (ha : El p n a) (hb : El p n b) (hl : l = a.length) (hl' : l' = b.length)
    (hk : ∀ v, K (.fz true v n (pis (br p W B n a b))) σ) : PCalls Try.prog 78 [.ptr s 0, .fz w av l (pis a), .fz w' bv l' (pis b)] σ K :=
  PCalls.fzN (br_el o q).1 (fun K' => bracket_ok hs hR o q ha hb hl hl') hk
theorem addLie_fz {l l' : Nat} {w w' : Bool} {av bv : AV} {a b : List Int} (hs : PtrR σ s p vP vB) (hP : FII vP W) (o : OkW p n W) (ha : El p n a) (hb : El p n b) (hl : l = a.length) (hl' : l' = b.length)
    (hk : ∀ v, K (.fz true v n (pis (ladd p W a b))) σ) : PCalls Try.prog 107 [.ptr s 0, .fz w av l (pis a), .fz w' bv l' (pis b)] σ K :=
  PCalls.fzN (lmix_el o ha hb).1 (fun K' => addLie_ok hs hP o ha hb hl hl') hk
theorem timesLie_fz {l : Nat} {w : Bool} {av : AV} {k : Int} {a : List Int} (hs : PtrR σ s p vP vB) (hP : FII vP W) (o : OkW p n W) (ha : El p n a) (hl : l = a.length) (hkb : -1000000000 ≤ k ∧ k ≤ 1000000000)
    (hk : ∀ v, K (.fz true v n (pis (lmul p W k a))) σ) : PCalls Try.prog 85 [.ptr s 0, .int .i64 k, .fz w av l (pis a)] σ K :=
  PCalls.fzN (lmix_el o ha ha).1 (fun K' => timesLie_ok hs hP o ha hl hkb) hk

theorem row_el (o : OkW p n W) {i : Nat} (hi : i < W.length) : El p n W[i] := ⟨(o.row i hi).1, (o.row i hi).2.1⟩

theorem lieFault_ok (hs : PtrR σ s p vP vB) (hR : IsR vP vB W B) (o : OkW p n W) (q : OkB p n B) (hk : ∀ kind i j k : Int, (kind = 0 ↔ NoFault p W B n) → K (.tup [.int .i64 kind, .int .i64 i, .int .i64 j, .int .i64 k]) σ) : PCalls Try.prog 99 [.ptr s 0] σ K := by
  have hn6 := o.le
  have hWl := o.len
  have hp := o.pr
  have hR0 := hR
  have hPP := hR.P
  obtain ⟨⟨w1, a1, rP, rfl, hP⟩, ⟨w3, a3, rB, rfl, hB⟩⟩ := hR
  have hpk : -1000000000 ≤ p ∧ p ≤ 1000000000 := by unfold okp at hp; omega
  subst hWl
  refine pcalls_of_vp mix Try.func99 cf99 rfl ?_
  dsimp only [if99, qI, eI, nI, qD, eD]
  simp only [pw0, pw1, pw2, pw3, pw4, pw5, pw6, pw7, pw8, pw9, if_true, if_false, eq_self, nm_eq, reduceCtorEq, ↓reduceIte, Nat.reduceEqDiff, Nat.reduceLeDiff, Nat.reduceBEq, Nat.reduceAdd, Nat.reduceLT, Nat.reduceSub, Nat.reduceMul, Int.reduceEq, Int.reduceLT, Int.reduceLE, Int.reduceNeg, Int.reduceToNat, obj_rd1 hs.obj]
  refine vp_loop (fun m vs h' => ∃ i : Nat, i ≤ W.length ∧ m = W.length - i ∧ vs = [.ptr s 0, .int .i64 W.length, .int .i64 W.length, .int .i64 i] ∧ σ = h' ∧ ∀ i' j', i' < i → j' < W.length → F1 p W B W.length i' j') W.length ?_ ?_
  · exact ⟨0, by omega, by omega, rfl, rfl, fun i' j' h => by omega⟩
  rintro m vs h' ⟨i, hi, rfl, rfl, rfl, hall⟩
  simp only [pw0, pw1, pw2, pw3, pw4, pw5, pw6, pw7, pw8, pw9, if_true, if_false, eq_self, nm_eq, reduceCtorEq, ↓reduceIte, Nat.reduceEqDiff, Nat.reduceLeDiff, Nat.reduceBEq, Nat.reduceAdd, Nat.reduceLT, Nat.reduceSub, Nat.reduceMul, Int.reduceEq, Int.reduceLT, Int.reduceLE, Int.reduceNeg, Int.reduceToNat]
  refine iteI (fun hlt => ?_) fun hge => ?_
  · refine vp_loop (fun m vs h' => ∃ j : Nat, j ≤ W.length ∧ m = W.length - j ∧ vs = [.ptr s 0, .int .i64 W.length, .int .i64 i, .int .i64 W.length, .int .i64 i, .int .i64 W.length, .int .i64 j] ∧ σ = h' ∧ ∀ j', j' < j → F1 p W B W.length i j') W.length ?_ ?_
    · exact ⟨0, by omega, by omega, rfl, rfl, fun j' h => by omega⟩
    rintro m vs h' ⟨j, hj, rfl, rfl, rfl, hall2⟩
    simp only [pw0, pw1, pw2, pw3, pw4, pw5, pw6, pw7, pw8, pw9, if_true, if_false, eq_self, nm_eq, reduceCtorEq, ↓reduceIte, Nat.reduceEqDiff, Nat.reduceLeDiff, Nat.reduceBEq, Nat.reduceAdd, Nat.reduceLT, Nat.reduceSub, Nat.reduceMul, Int.reduceEq, Int.reduceLT, Int.reduceLE, Int.reduceNeg, Int.reduceToNat]
    refine iteI (fun hlt2 => ?_) fun hge => ?_
    · have ei := unit_el hp hlt
      have ej := unit_el hp hlt2
      have eb := br_el o q (a := unitL W.length i) (b := unitL W.length j)
      obtain ⟨w4, a4, hr⟩ := hP.rowI hlt
      have er := row_el o hlt
      refine unitVector_fz (by omega) hlt fun v1 => ?_
      simp only [pw0, pw1, pw2, pw3, pw4, pw5, pw6, pw7, pw8, pw9, if_true, if_false, eq_self, nm_eq, reduceCtorEq, ↓reduceIte, Nat.reduceEqDiff, Nat.reduceLeDiff, Nat.reduceBEq, Nat.reduceAdd, Nat.reduceLT, Nat.reduceSub, Nat.reduceMul, Int.reduceEq, Int.reduceLT, Int.reduceLE, Int.reduceNeg, Int.reduceToNat]
      refine unitVector_fz (by omega) hlt2 fun v2 => ?_
      simp only [pw0, pw1, pw2, pw3, pw4, pw5, pw6, pw7, pw8, pw9, if_true, if_false, eq_self, nm_eq, reduceCtorEq, ↓reduceIte, Nat.reduceEqDiff, Nat.reduceLeDiff, Nat.reduceBEq, Nat.reduceAdd, Nat.reduceLT, Nat.reduceSub, Nat.reduceMul, Int.reduceEq, Int.reduceLT, Int.reduceLE, Int.reduceNeg, Int.reduceToNat, obj_rd1 hs.obj, hlt, hr, List.getElem?_drop]
      refine bracket_fz hs hR0 o q ei ej (unitL_length _ _).symm (unitL_length _ _).symm fun v3 => ?_
      simp only [pw0, pw1, pw2, pw3, pw4, pw5, pw6, pw7, pw8, pw9, if_true, if_false, eq_self, nm_eq, reduceCtorEq, ↓reduceIte, Nat.reduceEqDiff, Nat.reduceLeDiff, Nat.reduceBEq, Nat.reduceAdd, Nat.reduceLT, Nat.reduceSub, Nat.reduceMul, Int.reduceEq, Int.reduceLT, Int.reduceLE, Int.reduceNeg, Int.reduceToNat, obj_rd1 hs.obj, hlt, hr, List.getElem?_drop]
      refine timesLie_fz hs hPP o eb eb.1.symm hpk fun v4 => ?_
      simp only [pw0, pw1, pw2, pw3, pw4, pw5, pw6, pw7, pw8, pw9, if_true, if_false, eq_self, nm_eq, reduceCtorEq, ↓reduceIte, Nat.reduceEqDiff, Nat.reduceLeDiff, Nat.reduceBEq, Nat.reduceAdd, Nat.reduceLT, Nat.reduceSub, Nat.reduceMul, Int.reduceEq, Int.reduceLT, Int.reduceLE, Int.reduceNeg, Int.reduceToNat, obj_rd1 hs.obj, hlt, hr, List.getElem?_drop]
      refine bracket_fz hs hR0 o q er ej rfl (unitL_length _ _).symm fun v5 => ?_
      simp only [pw0, pw1, pw2, pw3, pw4, pw5, pw6, pw7, pw8, pw9, if_true, if_false, eq_self, nm_eq, reduceCtorEq, ↓reduceIte, Nat.reduceEqDiff, Nat.reduceLeDiff, Nat.reduceBEq, Nat.reduceAdd, Nat.reduceLT, Nat.reduceSub, Nat.reduceMul, Int.reduceEq, Int.reduceLT, Int.reduceLE, Int.reduceNeg, Int.reduceToNat]
      refine Equal_ok (lmix_el o eb eb).1.symm (br_el o q).1.symm (by rw [(lmix_el o eb eb).1]; omega) ?_
      have hF : (lmul p W p (br p W B W.length (unitL W.length i) (unitL W.length j)) = br p W B W.length W[i] (unitL W.length j)) ↔ F1 p W B W.length i j := by unfold F1; rw [getD_row hlt]
      by_cases hf : lmul p W p (br p W B W.length (unitL W.length i) (unitL W.length j)) = br p W B W.length W[i] (unitL W.length j)
      · simp only [pw0, pw1, pw2, pw3, pw4, pw5, pw6, pw7, pw8, pw9, if_true, if_false, eq_self, nm_eq, reduceCtorEq, ↓reduceIte, Nat.reduceEqDiff, Nat.reduceLeDiff, Nat.reduceBEq, Nat.reduceAdd, Nat.reduceLT, Nat.reduceSub, Nat.reduceMul, Int.reduceEq, Int.reduceLT, Int.reduceLE, Int.reduceNeg, Int.reduceToNat, eq_true hf, wrapS hlt2 (by omega : W.length ≤ 4611686018427387904)]
        refine ⟨_, by omega, j + 1, by omega, rfl, rfl, fun j' h => ?_⟩
        by_cases e : j' = j
        · subst e; exact hF.1 hf
        · exact hall2 j' (by omega)
      · simp only [pw0, pw1, pw2, pw3, pw4, pw5, pw6, pw7, pw8, pw9, if_true, if_false, eq_self, nm_eq, reduceCtorEq, ↓reduceIte, Nat.reduceEqDiff, Nat.reduceLeDiff, Nat.reduceBEq, Nat.reduceAdd, Nat.reduceLT, Nat.reduceSub, Nat.reduceMul, Int.reduceEq, Int.reduceLT, Int.reduceLE, Int.reduceNeg, Int.reduceToNat, hf]
        exact hk _ _ _ _ ⟨fun x => by omega, fun x => absurd (hF.2 (x.1 i j hlt hlt2)) hf⟩
    · simp only [pw0, pw1, pw2, pw3, pw4, pw5, pw6, pw7, pw8, pw9, if_true, if_false, eq_self, nm_eq, reduceCtorEq, ↓reduceIte, Nat.reduceEqDiff, Nat.reduceLeDiff, Nat.reduceBEq, Nat.reduceAdd, Nat.reduceLT, Nat.reduceSub, Nat.reduceMul, Int.reduceEq, Int.reduceLT, Int.reduceLE, Int.reduceNeg, Int.reduceToNat, wrapS hlt (by omega : W.length ≤ 4611686018427387904)]
      refine ⟨_, by omega, i + 1, by omega, rfl, rfl, fun i' j' h h' => ?_⟩
      by_cases e : i' = i
      · subst e; exact hall2 j' (by omega)
      · exact hall i' j' (by omega) h'
  have hall : ∀ i j, i < W.length → j < W.length → F1 p W B W.length i j := fun i' j' h h' => hall i' j' (by omega) h'
  clear hge hi
  refine vp_loop (fun m vs h' => ∃ i : Nat, i ≤ W.length ∧ m = W.length - i ∧ vs = [.ptr s 0, .int .i64 W.length, .int .i64 W.length, .int .i64 i] ∧ σ = h' ∧ ∀ i' j k, i' < i → i' < j → j < k → k < W.length → F2 p W B W.length i' j k) W.length ?_ ?_
  · exact ⟨0, by omega, by omega, rfl, rfl, fun i' j k h => by omega⟩
  rintro m vs h' ⟨i, hi, rfl, rfl, rfl, hal1⟩
  simp only [pw0, pw1, pw2, pw3, pw4, pw5, pw6, pw7, pw8, pw9, if_true, if_false, eq_self, nm_eq, reduceCtorEq, ↓reduceIte, Nat.reduceEqDiff, Nat.reduceLeDiff, Nat.reduceBEq, Nat.reduceAdd, Nat.reduceLT, Nat.reduceSub, Nat.reduceMul, Int.reduceEq, Int.reduceLT, Int.reduceLE, Int.reduceNeg, Int.reduceToNat]
  refine iteI (fun hlt => ?_) fun hge => ?_
  rotate_left
  · exact hk _ _ _ _ ⟨fun _ => ⟨hall, fun i j k h1 h2 h3 => hal1 i j k (by omega) h1 h2 h3⟩, fun _ => rfl⟩
  simp only [pw0, pw1, pw2, pw3, pw4, pw5, pw6, pw7, pw8, pw9, if_true, if_false, eq_self, nm_eq, reduceCtorEq, ↓reduceIte, Nat.reduceEqDiff, Nat.reduceLeDiff, Nat.reduceBEq, Nat.reduceAdd, Nat.reduceLT, Nat.reduceSub, Nat.reduceMul, Int.reduceEq, Int.reduceLT, Int.reduceLE, Int.reduceNeg, Int.reduceToNat, wrapS hlt (by omega : W.length ≤ 4611686018427387904)]
  refine vp_loop (fun m vs h' => ∃ j : Nat, i + 1 ≤ j ∧ j ≤ W.length ∧ m = W.length - j ∧ vs = [.ptr s 0, .int .i64 W.length, .int .i64 i, .int .i64 j, .int .i64 W.length, .int .i64 i] ∧ σ = h' ∧ ∀ j' k, i < j' → j' < j → j' < k → k < W.length → F2 p W B W.length i j' k) (W.length - (i + 1)) ?_ ?_
  · exact ⟨i + 1, by omega, by omega, by omega, rfl, rfl, fun j' k h1 h2 => by omega⟩
  rintro m vs h' ⟨j, hij, hj, rfl, rfl, rfl, hal2⟩
  simp only [pw0, pw1, pw2, pw3, pw4, pw5, pw6, pw7, pw8, pw9, if_true, if_false, eq_self, nm_eq, reduceCtorEq, ↓reduceIte, Nat.reduceEqDiff, Nat.reduceLeDiff, Nat.reduceBEq, Nat.reduceAdd, Nat.reduceLT, Nat.reduceSub, Nat.reduceMul, Int.reduceEq, Int.reduceLT, Int.reduceLE, Int.reduceNeg, Int.reduceToNat]
  refine iteI (fun hlt2 => ?_) fun hge => ?_
  rotate_left
  · simp only [pw0, pw1, pw2, pw3, pw4, pw5, pw6, pw7, pw8, pw9, if_true, if_false, eq_self, nm_eq, reduceCtorEq, ↓reduceIte, Nat.reduceEqDiff, Nat.reduceLeDiff, Nat.reduceBEq, Nat.reduceAdd, Nat.reduceLT, Nat.reduceSub, Nat.reduceMul, Int.reduceEq, Int.reduceLT, Int.reduceLE, Int.reduceNeg, Int.reduceToNat, wrapS hlt (by omega : W.length ≤ 4611686018427387904)]
    refine ⟨_, by omega, i + 1, by omega, rfl, rfl, fun i' j' k h1 h2 h3 h4 => ?_⟩
    by_cases e : i' = i
    · subst e; exact hal2 j' k h2 (by omega) h3 h4
    · exact hal1 i' j' k (by omega) h2 h3 h4
  simp only [pw0, pw1, pw2, pw3, pw4, pw5, pw6, pw7, pw8, pw9, if_true, if_false, eq_self, nm_eq, reduceCtorEq, ↓reduceIte, Nat.reduceEqDiff, Nat.reduceLeDiff, Nat.reduceBEq, Nat.reduceAdd, Nat.reduceLT, Nat.reduceSub, Nat.reduceMul, Int.reduceEq, Int.reduceLT, Int.reduceLE, Int.reduceNeg, Int.reduceToNat, wrapS hlt2 (by omega : W.length ≤ 4611686018427387904)]
  refine vp_loop (fun m vs h' => ∃ k : Nat, j + 1 ≤ k ∧ k ≤ W.length ∧ m = W.length - k ∧ vs = [.ptr s 0, .int .i64 W.length, .int .i64 i, .int .i64 j, .int .i64 k, .int .i64 W.length, .int .i64 i] ∧ σ = h' ∧ ∀ k', j < k' → k' < k → F2 p W B W.length i j k') (W.length - (j + 1)) ?_ ?_
  · exact ⟨j + 1, by omega, by omega, by omega, rfl, rfl, fun k' h1 h2 => by omega⟩
  rintro m vs h' ⟨k, hjk, hk', rfl, rfl, rfl, hal3⟩
  simp only [pw0, pw1, pw2, pw3, pw4, pw5, pw6, pw7, pw8, pw9, if_true, if_false, eq_self, nm_eq, reduceCtorEq, ↓reduceIte, Nat.reduceEqDiff, Nat.reduceLeDiff, Nat.reduceBEq, Nat.reduceAdd, Nat.reduceLT, Nat.reduceSub, Nat.reduceMul, Int.reduceEq, Int.reduceLT, Int.reduceLE, Int.reduceNeg, Int.reduceToNat]
  refine iteI (fun hlt3 => ?_) fun hge => ?_
  rotate_left
  · simp only [pw0, pw1, pw2, pw3, pw4, pw5, pw6, pw7, pw8, pw9, if_true, if_false, eq_self, nm_eq, reduceCtorEq, ↓reduceIte, Nat.reduceEqDiff, Nat.reduceLeDiff, Nat.reduceBEq, Nat.reduceAdd, Nat.reduceLT, Nat.reduceSub, Nat.reduceMul, Int.reduceEq, Int.reduceLT, Int.reduceLE, Int.reduceNeg, Int.reduceToNat, wrapS hlt2 (by omega : W.length ≤ 4611686018427387904)]
    refine ⟨_, by omega, j + 1, by omega, by omega, rfl, rfl, fun j' k' h1 h2 h3 h4 => ?_⟩
    by_cases e : j' = j
    · subst e; exact hal3 k' h3 (by omega)
    · exact hal2 j' k' h1 (by omega) h3 h4
  have ei := unit_el hp hlt
  have ej := unit_el hp hlt2
  have ek := unit_el hp hlt3
  have bb : ∀ a b, El p W.length (br p W B W.length a b) := fun a b => br_el o q
  refine unitVector_fz (by omega) hlt fun v1 => ?_
  simp only [pw0, pw1, pw2, pw3, pw4, pw5, pw6, pw7, pw8, pw9, if_true, if_false, eq_self, nm_eq, reduceCtorEq, ↓reduceIte, Nat.reduceEqDiff, Nat.reduceLeDiff, Nat.reduceBEq, Nat.reduceAdd, Nat.reduceLT, Nat.reduceSub, Nat.reduceMul, Int.reduceEq, Int.reduceLT, Int.reduceLE, Int.reduceNeg, Int.reduceToNat]
  refine unitVector_fz (by omega) hlt2 fun v2 => ?_
  simp only [pw0, pw1, pw2, pw3, pw4, pw5, pw6, pw7, pw8, pw9, if_true, if_false, eq_self, nm_eq, reduceCtorEq, ↓reduceIte, Nat.reduceEqDiff, Nat.reduceLeDiff, Nat.reduceBEq, Nat.reduceAdd, Nat.reduceLT, Nat.reduceSub, Nat.reduceMul, Int.reduceEq, Int.reduceLT, Int.reduceLE, Int.reduceNeg, Int.reduceToNat]
  refine unitVector_fz (by omega) hlt3 fun v3 => ?_
  simp only [pw0, pw1, pw2, pw3, pw4, pw5, pw6, pw7, pw8, pw9, if_true, if_false, eq_self, nm_eq, reduceCtorEq, ↓reduceIte, Nat.reduceEqDiff, Nat.reduceLeDiff, Nat.reduceBEq, Nat.reduceAdd, Nat.reduceLT, Nat.reduceSub, Nat.reduceMul, Int.reduceEq, Int.reduceLT, Int.reduceLE, Int.reduceNeg, Int.reduceToNat]
  refine bracket_fz hs hR0 o q ei ej ei.1.symm ej.1.symm fun v4 => ?_
  simp only [pw0, pw1, pw2, pw3, pw4, pw5, pw6, pw7, pw8, pw9, if_true, if_false, eq_self, nm_eq, reduceCtorEq, ↓reduceIte, Nat.reduceEqDiff, Nat.reduceLeDiff, Nat.reduceBEq, Nat.reduceAdd, Nat.reduceLT, Nat.reduceSub, Nat.reduceMul, Int.reduceEq, Int.reduceLT, Int.reduceLE, Int.reduceNeg, Int.reduceToNat]
  refine bracket_fz hs hR0 o q (bb _ _) ek (bb _ _).1.symm ek.1.symm fun v5 => ?_
  simp only [pw0, pw1, pw2, pw3, pw4, pw5, pw6, pw7, pw8, pw9, if_true, if_false, eq_self, nm_eq, reduceCtorEq, ↓reduceIte, Nat.reduceEqDiff, Nat.reduceLeDiff, Nat.reduceBEq, Nat.reduceAdd, Nat.reduceLT, Nat.reduceSub, Nat.reduceMul, Int.reduceEq, Int.reduceLT, Int.reduceLE, Int.reduceNeg, Int.reduceToNat]
  refine bracket_fz hs hR0 o q ej ek ej.1.symm ek.1.symm fun v6 => ?_
  simp only [pw0, pw1, pw2, pw3, pw4, pw5, pw6, pw7, pw8, pw9, if_true, if_false, eq_self, nm_eq, reduceCtorEq, ↓reduceIte, Nat.reduceEqDiff, Nat.reduceLeDiff, Nat.reduceBEq, Nat.reduceAdd, Nat.reduceLT, Nat.reduceSub, Nat.reduceMul, Int.reduceEq, Int.reduceLT, Int.reduceLE, Int.reduceNeg, Int.reduceToNat]
  refine bracket_fz hs hR0 o q (bb _ _) ei (bb _ _).1.symm ei.1.symm fun v7 => ?_
  simp only [pw0, pw1, pw2, pw3, pw4, pw5, pw6, pw7, pw8, pw9, if_true, if_false, eq_self, nm_eq, reduceCtorEq, ↓reduceIte, Nat.reduceEqDiff, Nat.reduceLeDiff, Nat.reduceBEq, Nat.reduceAdd, Nat.reduceLT, Nat.reduceSub, Nat.reduceMul, Int.reduceEq, Int.reduceLT, Int.reduceLE, Int.reduceNeg, Int.reduceToNat]
  refine addLie_fz hs hPP o (bb _ _) (bb _ _) (bb _ _).1.symm (bb _ _).1.symm fun v8 => ?_
  have e8 := lmix_el o (k := 1) (m := 1) (bb (br p W B W.length (unitL W.length i) (unitL W.length j)) (unitL W.length k)) (bb (br p W B W.length (unitL W.length j) (unitL W.length k)) (unitL W.length i))
  simp only [pw0, pw1, pw2, pw3, pw4, pw5, pw6, pw7, pw8, pw9, if_true, if_false, eq_self, nm_eq, reduceCtorEq, ↓reduceIte, Nat.reduceEqDiff, Nat.reduceLeDiff, Nat.reduceBEq, Nat.reduceAdd, Nat.reduceLT, Nat.reduceSub, Nat.reduceMul, Int.reduceEq, Int.reduceLT, Int.reduceLE, Int.reduceNeg, Int.reduceToNat]
  refine bracket_fz hs hR0 o q ek ei ek.1.symm ei.1.symm fun v9 => ?_
  simp only [pw0, pw1, pw2, pw3, pw4, pw5, pw6, pw7, pw8, pw9, if_true, if_false, eq_self, nm_eq, reduceCtorEq, ↓reduceIte, Nat.reduceEqDiff, Nat.reduceLeDiff, Nat.reduceBEq, Nat.reduceAdd, Nat.reduceLT, Nat.reduceSub, Nat.reduceMul, Int.reduceEq, Int.reduceLT, Int.reduceLE, Int.reduceNeg, Int.reduceToNat]
  refine bracket_fz hs hR0 o q (bb _ _) ej (bb _ _).1.symm ej.1.symm fun v10 => ?_
  simp only [pw0, pw1, pw2, pw3, pw4, pw5, pw6, pw7, pw8, pw9, if_true, if_false, eq_self, nm_eq, reduceCtorEq, ↓reduceIte, Nat.reduceEqDiff, Nat.reduceLeDiff, Nat.reduceBEq, Nat.reduceAdd, Nat.reduceLT, Nat.reduceSub, Nat.reduceMul, Int.reduceEq, Int.reduceLT, Int.reduceLE, Int.reduceNeg, Int.reduceToNat]
  refine addLie_fz hs hPP o e8 (bb _ _) e8.1.symm (bb _ _).1.symm fun v11 => ?_
  have e11 := lmix_el o (k := 1) (m := 1) e8 (bb (br p W B W.length (unitL W.length k) (unitL W.length i)) (unitL W.length j))
  simp only [pw0, pw1, pw2, pw3, pw4, pw5, pw6, pw7, pw8, pw9, if_true, if_false, eq_self, nm_eq, reduceCtorEq, ↓reduceIte, Nat.reduceEqDiff, Nat.reduceLeDiff, Nat.reduceBEq, Nat.reduceAdd, Nat.reduceLT, Nat.reduceSub, Nat.reduceMul, Int.reduceEq, Int.reduceLT, Int.reduceLE, Int.reduceNeg, Int.reduceToNat]
  refine isZero_ok e11.1.symm (by rw [e11.1]; omega) ?_
  have hF : isZ (norm p W (lmix 1 (ladd p W (br p W B W.length (br p W B W.length (unitL W.length i) (unitL W.length j)) (unitL W.length k)) (br p W B W.length (br p W B W.length (unitL W.length j) (unitL W.length k)) (unitL W.length i))) 1 (br p W B W.length (br p W B W.length (unitL W.length k) (unitL W.length i)) (unitL W.length j)))) ↔ F2 p W B W.length i j k := Iff.rfl
  by_cases hf : isZ (norm p W (lmix 1 (ladd p W (br p W B W.length (br p W B W.length (unitL W.length i) (unitL W.length j)) (unitL W.length k)) (br p W B W.length (br p W B W.length (unitL W.length j) (unitL W.length k)) (unitL W.length i))) 1 (br p W B W.length (br p W B W.length (unitL W.length k) (unitL W.length i)) (unitL W.length j))))
  · simp only [pw0, pw1, pw2, pw3, pw4, pw5, pw6, pw7, pw8, pw9, if_true, if_false, eq_self, nm_eq, reduceCtorEq, ↓reduceIte, Nat.reduceEqDiff, Nat.reduceLeDiff, Nat.reduceBEq, Nat.reduceAdd, Nat.reduceLT, Nat.reduceSub, Nat.reduceMul, Int.reduceEq, Int.reduceLT, Int.reduceLE, Int.reduceNeg, Int.reduceToNat, eq_true hf, wrapS hlt3 (by omega : W.length ≤ 4611686018427387904)]
    refine ⟨_, by omega, k + 1, by omega, by omega, rfl, rfl, fun k' h1 h2 => ?_⟩
    by_cases e : k' = k
    · subst e; exact hF.1 hf
    · exact hal3 k' h1 (by omega)
  · simp only [pw0, pw1, pw2, pw3, pw4, pw5, pw6, pw7, pw8, pw9, if_true, if_false, eq_self, nm_eq, reduceCtorEq, ↓reduceIte, Nat.reduceEqDiff, Nat.reduceLeDiff, Nat.reduceBEq, Nat.reduceAdd, Nat.reduceLT, Nat.reduceSub, Nat.reduceMul, Int.reduceEq, Int.reduceLT, Int.reduceLE, Int.reduceNeg, Int.reduceToNat, hf]
    exact hk _ _ _ _ ⟨fun x => by omega, fun x => absurd (hF.2 (x.2 i j k (by omega) (by omega) hlt3)) hf⟩
end Go.Proofs
