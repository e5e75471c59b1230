/- What a law does with its arguments: sizes, copies, comparisons. -/
import Derived.Test.YtngdcibjjomfjaaGreatBP28
set_option linter.unusedSimpArgs false
set_option linter.unusedVariables false
namespace Go.Proofs
open Go.Ab Go.Lie
variable {σ : PHeap} {K : PV → PHeap → Prop} {p : Int} {n : Nat} {W : List (List Int)} {B : List (List (List Int))} {vP vB : PV} {s : Nat}
/-- The bracket of two elements. -/
abbrev br (p : Int) (W : List (List Int)) (B : List (List (List Int))) (n : Nat) (a b : List Int) : List Int := norm p W (bsum B a b n)
/-- The sum of two elements, a multiple of one. -/
abbrev ladd (p : Int) (W : List (List Int)) (a b : List Int) : List Int := norm p W (lmix 1 a 1 b)
abbrev lmul (p : Int) (W : List (List Int)) (k : Int) (a : List Int) : List Int := norm p W (lmix k a 0 a)
theorem br_el (o : OkW p n W) (q : OkB p n B) {a b : List Int} : El p n (br p W B n a b) := norm_el o (bsum_length q)
theorem lmix_el (o : OkW p n W) {k m : Int} {a b : List Int} (ha : El p n a) (hb : El p n b) : El p n (norm p W (lmix k a m b)) := norm_el o (by rw [lmix_length (ha.1.trans hb.1.symm)]; exact ha.1)
theorem unit_el (hp : okp p) {k : Nat} (hk : k < n) : El p n (unitL n k) := ⟨unitL_length n k, fun x hx => by
  have := hp.1
  rcases List.mem_or_eq_of_mem_set hx with h | h
  · rw [List.eq_of_mem_replicate h]; omega
  · omega⟩
def F1 (p : Int) (W : List (List Int)) (B : List (List (List Int))) (n i j : Nat) : Prop := lmul p W p (br p W B n (unitL n i) (unitL n j)) = br p W B n (W.getD i []) (unitL n j)
def F2 (p : Int) (W : List (List Int)) (B : List (List (List Int))) (n i j k : Nat) : Prop :=
  isZ (ladd p W (ladd p W (br p W B n (br p W B n (unitL n i) (unitL n j)) (unitL n k)) (br p W B n (br p W B n (unitL n j) (unitL n k)) (unitL n i))) (br p W B n (br p W B n (unitL n k) (unitL n i)) (unitL n j)))
/-- The ring has no fault. -/
def NoFault (p : Int) (W : List (List Int)) (B : List (List (List Int))) (n : Nat) : Prop := (∀ i j, i < n → j < n → F1 p W B n i j) ∧ ∀ i j k, i < j → j < k → k < n → F2 p W B n i j k
theorem unitVector_fz {k : Nat} (hn : n ≤ 1048576) (hkn : k < n) (hk : ∀ a, K (.fz true a n (pis (unitL n k))) σ) : PCalls Tryz.prog 50 [.int .i64 n, .int .i64 k] σ K :=
  PCalls.fz (fun K' => unitVector_ok hn hkn) (pis_bel _ _) fun o cap => hk _
theorem bracket_fz {l l' : Nat} {w w' : Bool} {av bv : AV} {a b : List Int} (hs : PtrR σ s p vP vB) (hR : IsR vP vB W B) (o : OkW p n W) (q : OkB p n B) (ha : El p n a) (hb : El p n b) (hl : l = a.length) (hl' : l' = b.length)
    (hk : ∀ v, K (.fz true v n (pis (br p W B n a b))) σ) : PCalls Tryz.prog 166 [.ptr s 0, .fz w av l (pis a), .fz w' bv l' (pis b)] σ K :=
  PCalls.fzN (br_el o q).1 (fun K' => bracket_ok hs hR o q ha hb hl hl') hk
theorem addLie_fz {l l' : Nat} {w w' : Bool} {av bv : AV} {a b : List Int} (hs : PtrR σ s p vP vB) (hP : FII vP W) (o : OkW p n W) (ha : El p n a) (hb : El p n b) (hl : l = a.length) (hl' : l' = b.length)
    (hk : ∀ v, K (.fz true v n (pis (ladd p W a b))) σ) : PCalls Tryz.prog 124 [.ptr s 0, .fz w av l (pis a), .fz w' bv l' (pis b)] σ K :=
  PCalls.fzN (lmix_el o ha hb).1 (fun K' => addLie_ok hs hP o ha hb hl hl') hk
theorem timesLie_fz {l : Nat} {w : Bool} {av : AV} {k : Int} {a : List Int} (hs : PtrR σ s p vP vB) (hP : FII vP W) (o : OkW p n W) (ha : El p n a) (hl : l = a.length) (hkb : -1000000000 ≤ k ∧ k ≤ 1000000000)
    (hk : ∀ v, K (.fz true v n (pis (lmul p W k a))) σ) : PCalls Tryz.prog 76 [.ptr s 0, .int .i64 k, .fz w av l (pis a)] σ K :=
  PCalls.fzN (lmix_el o ha ha).1 (fun K' => timesLie_ok hs hP o ha hl hkb) hk
theorem row_el (o : OkW p n W) {i : Nat} (hi : i < W.length) : El p n W[i] := ⟨(o.row i hi).1, (o.row i hi).2.1⟩
theorem lieFault_ok (hs : PtrR σ s p vP vB) (hR : IsR vP vB W B) (o : OkW p n W) (q : OkB p n B) (hk : ∀ kind i j k : Int, (kind = 0 ↔ NoFault p W B n) → K (.tup [.int .i64 kind, .int .i64 i, .int .i64 j, .int .i64 k]) σ) : PCalls Tryz.prog 162 [.ptr s 0] σ K := by
  have hn6 := o.le
  have hWl := o.len
  have hp := o.pr
  have hR0 := hR
  have hPP := hR.P
  obtain ⟨⟨w1, a1, rP, rfl, hP⟩, ⟨w3, a3, rB, rfl, hB⟩⟩ := hR
  have hpk : -1000000000 ≤ p ∧ p ≤ 1000000000 := by unfold okp at hp; omega
  subst hWl
  refine pcalls_of_vp mix Tryz.func162 cf162 rfl ?_
  dsimp only [if162, qI, eI, nI, qD, eD]
  simp only [pwA, if_true, if_false, eq_self, nm_eq, reduceCtorEq, ↓reduceIte, Nat.reduceEqDiff, Nat.reduceLeDiff, Nat.reduceBEq, Nat.reduceAdd, Nat.reduceLT, Nat.reduceSub, Nat.reduceMul, Int.reduceEq, Int.reduceLT, Int.reduceLE, Int.reduceNeg, Int.reduceToNat, List.reduceReplicate, Int.ofNat_le, List.getElem?_drop, obj_rd1 hs.obj]
  refine vp_loop (fun m vs h' => ∃ i : Nat, i ≤ W.length ∧ m = W.length - i ∧ vs = [.ptr s 0, .int .i64 W.length, .int .i64 W.length, .int .i64 i] ∧ σ = h' ∧ ∀ i' j', i' < i → j' < W.length → F1 p W B W.length i' j') W.length ?_ ?_
  · exact ⟨0, by omega, by omega, rfl, rfl, fun i' j' h => by omega⟩
  rintro m vs h' ⟨i, hi, rfl, rfl, rfl, hall⟩
  simp only [pwA, if_true, if_false, eq_self, nm_eq, reduceCtorEq, ↓reduceIte, Nat.reduceEqDiff, Nat.reduceLeDiff, Nat.reduceBEq, Nat.reduceAdd, Nat.reduceLT, Nat.reduceSub, Nat.reduceMul, Int.reduceEq, Int.reduceLT, Int.reduceLE, Int.reduceNeg, Int.reduceToNat, List.reduceReplicate, Int.ofNat_le, List.getElem?_drop]
  refine iteI (fun hlt => ?_) fun hge => ?_
  · refine vp_loop (fun m vs h' => ∃ j : Nat, j ≤ W.length ∧ m = W.length - j ∧ vs = [.ptr s 0, .int .i64 W.length, .int .i64 i, .int .i64 W.length, .int .i64 i, .int .i64 W.length, .int .i64 j] ∧ σ = h' ∧ ∀ j', j' < j → F1 p W B W.length i j') W.length ?_ ?_
    · exact ⟨0, by omega, by omega, rfl, rfl, fun j' h => by omega⟩
    rintro m vs h' ⟨j, hj, rfl, rfl, rfl, hall2⟩
    simp only [pwA, if_true, if_false, eq_self, nm_eq, reduceCtorEq, ↓reduceIte, Nat.reduceEqDiff, Nat.reduceLeDiff, Nat.reduceBEq, Nat.reduceAdd, Nat.reduceLT, Nat.reduceSub, Nat.reduceMul, Int.reduceEq, Int.reduceLT, Int.reduceLE, Int.reduceNeg, Int.reduceToNat, List.reduceReplicate, Int.ofNat_le, List.getElem?_drop]
    refine iteI (fun hlt2 => ?_) fun hge => ?_
    · have ei := unit_el hp hlt
      have ej := unit_el hp hlt2
      have eb := br_el o q (a := unitL W.length i) (b := unitL W.length j)
      obtain ⟨w4, a4, hr⟩ := hP.rowI hlt
      have er := row_el o hlt
      refine unitVector_fz (by omega) hlt fun v1 => ?_
      simp only [pwA, if_true, if_false, eq_self, nm_eq, reduceCtorEq, ↓reduceIte, Nat.reduceEqDiff, Nat.reduceLeDiff, Nat.reduceBEq, Nat.reduceAdd, Nat.reduceLT, Nat.reduceSub, Nat.reduceMul, Int.reduceEq, Int.reduceLT, Int.reduceLE, Int.reduceNeg, Int.reduceToNat, List.reduceReplicate, Int.ofNat_le, List.getElem?_drop]
      refine unitVector_fz (by omega) hlt2 fun v2 => ?_
      simp only [pwA, if_true, if_false, eq_self, nm_eq, reduceCtorEq, ↓reduceIte, Nat.reduceEqDiff, Nat.reduceLeDiff, Nat.reduceBEq, Nat.reduceAdd, Nat.reduceLT, Nat.reduceSub, Nat.reduceMul, Int.reduceEq, Int.reduceLT, Int.reduceLE, Int.reduceNeg, Int.reduceToNat, List.reduceReplicate, Int.ofNat_le, List.getElem?_drop, obj_rd1 hs.obj, hlt, hr, List.getElem?_drop]
      refine bracket_fz hs hR0 o q ei ej (unitL_length _ _).symm (unitL_length _ _).symm fun v3 => ?_
      simp only [pwA, if_true, if_false, eq_self, nm_eq, reduceCtorEq, ↓reduceIte, Nat.reduceEqDiff, Nat.reduceLeDiff, Nat.reduceBEq, Nat.reduceAdd, Nat.reduceLT, Nat.reduceSub, Nat.reduceMul, Int.reduceEq, Int.reduceLT, Int.reduceLE, Int.reduceNeg, Int.reduceToNat, List.reduceReplicate, Int.ofNat_le, List.getElem?_drop, obj_rd1 hs.obj, hlt, hr, List.getElem?_drop]
      refine timesLie_fz hs hPP o eb eb.1.symm hpk fun v4 => ?_
      simp only [pwA, if_true, if_false, eq_self, nm_eq, reduceCtorEq, ↓reduceIte, Nat.reduceEqDiff, Nat.reduceLeDiff, Nat.reduceBEq, Nat.reduceAdd, Nat.reduceLT, Nat.reduceSub, Nat.reduceMul, Int.reduceEq, Int.reduceLT, Int.reduceLE, Int.reduceNeg, Int.reduceToNat, List.reduceReplicate, Int.ofNat_le, List.getElem?_drop, obj_rd1 hs.obj, hlt, hr, List.getElem?_drop]
      refine bracket_fz hs hR0 o q er ej rfl (unitL_length _ _).symm fun v5 => ?_
      simp only [pwA, if_true, if_false, eq_self, nm_eq, reduceCtorEq, ↓reduceIte, Nat.reduceEqDiff, Nat.reduceLeDiff, Nat.reduceBEq, Nat.reduceAdd, Nat.reduceLT, Nat.reduceSub, Nat.reduceMul, Int.reduceEq, Int.reduceLT, Int.reduceLE, Int.reduceNeg, Int.reduceToNat, List.reduceReplicate, Int.ofNat_le, List.getElem?_drop]
      refine Equal_ok (lmix_el o eb eb).1.symm (br_el o q).1.symm (by rw [(lmix_el o eb eb).1]; omega) ?_
      have hF : (lmul p W p (br p W B W.length (unitL W.length i) (unitL W.length j)) = br p W B W.length W[i] (unitL W.length j)) ↔ F1 p W B W.length i j := by unfold F1; rw [getD_row hlt]
      by_cases hf : lmul p W p (br p W B W.length (unitL W.length i) (unitL W.length j)) = br p W B W.length W[i] (unitL W.length j)
      · simp only [pwA, if_true, if_false, eq_self, nm_eq, reduceCtorEq, ↓reduceIte, Nat.reduceEqDiff, Nat.reduceLeDiff, Nat.reduceBEq, Nat.reduceAdd, Nat.reduceLT, Nat.reduceSub, Nat.reduceMul, Int.reduceEq, Int.reduceLT, Int.reduceLE, Int.reduceNeg, Int.reduceToNat, List.reduceReplicate, Int.ofNat_le, List.getElem?_drop, eq_true hf, wrapS hlt2 (by omega : W.length ≤ 4611686018427387904)]
        refine ⟨_, by omega, j + 1, by omega, rfl, rfl, fun j' h => ?_⟩
        by_cases e : j' = j
        · subst e; exact hF.1 hf
        · exact hall2 j' (by omega)
      · simp only [pwA, if_true, if_false, eq_self, nm_eq, reduceCtorEq, ↓reduceIte, Nat.reduceEqDiff, Nat.reduceLeDiff, Nat.reduceBEq, Nat.reduceAdd, Nat.reduceLT, Nat.reduceSub, Nat.reduceMul, Int.reduceEq, Int.reduceLT, Int.reduceLE, Int.reduceNeg, Int.reduceToNat, List.reduceReplicate, Int.ofNat_le, List.getElem?_drop, hf]
        exact hk _ _ _ _ ⟨fun x => by omega, fun x => absurd (hF.2 (x.1 i j hlt hlt2)) hf⟩
    · simp only [pwA, if_true, if_false, eq_self, nm_eq, reduceCtorEq, ↓reduceIte, Nat.reduceEqDiff, Nat.reduceLeDiff, Nat.reduceBEq, Nat.reduceAdd, Nat.reduceLT, Nat.reduceSub, Nat.reduceMul, Int.reduceEq, Int.reduceLT, Int.reduceLE, Int.reduceNeg, Int.reduceToNat, List.reduceReplicate, Int.ofNat_le, List.getElem?_drop, wrapS hlt (by omega : W.length ≤ 4611686018427387904)]
      refine ⟨_, by omega, i + 1, by omega, rfl, rfl, fun i' j' h h' => ?_⟩
      by_cases e : i' = i
      · subst e; exact hall2 j' (by omega)
      · exact hall i' j' (by omega) h'
  have hall : ∀ i j, i < W.length → j < W.length → F1 p W B W.length i j := fun i' j' h h' => hall i' j' (by omega) h'
  clear hge hi
  refine vp_loop (fun m vs h' => ∃ i : Nat, i ≤ W.length ∧ m = W.length - i ∧ vs = [.ptr s 0, .int .i64 W.length, .int .i64 W.length, .int .i64 i] ∧ σ = h' ∧ ∀ i' j k, i' < i → i' < j → j < k → k < W.length → F2 p W B W.length i' j k) W.length ?_ ?_
  · exact ⟨0, by omega, by omega, rfl, rfl, fun i' j k h => by omega⟩
  rintro m vs h' ⟨i, hi, rfl, rfl, rfl, hal1⟩
  simp only [pwA, if_true, if_false, eq_self, nm_eq, reduceCtorEq, ↓reduceIte, Nat.reduceEqDiff, Nat.reduceLeDiff, Nat.reduceBEq, Nat.reduceAdd, Nat.reduceLT, Nat.reduceSub, Nat.reduceMul, Int.reduceEq, Int.reduceLT, Int.reduceLE, Int.reduceNeg, Int.reduceToNat, List.reduceReplicate, Int.ofNat_le, List.getElem?_drop]
  refine iteI (fun hlt => ?_) fun hge => ?_
  rotate_left
  · exact hk _ _ _ _ ⟨fun _ => ⟨hall, fun i j k h1 h2 h3 => hal1 i j k (by omega) h1 h2 h3⟩, fun _ => rfl⟩
  simp only [pwA, if_true, if_false, eq_self, nm_eq, reduceCtorEq, ↓reduceIte, Nat.reduceEqDiff, Nat.reduceLeDiff, Nat.reduceBEq, Nat.reduceAdd, Nat.reduceLT, Nat.reduceSub, Nat.reduceMul, Int.reduceEq, Int.reduceLT, Int.reduceLE, Int.reduceNeg, Int.reduceToNat, List.reduceReplicate, Int.ofNat_le, List.getElem?_drop, wrapS hlt (by omega : W.length ≤ 4611686018427387904)]
  refine vp_loop (fun m vs h' => ∃ j : Nat, i + 1 ≤ j ∧ j ≤ W.length ∧ m = W.length - j ∧ vs = [.ptr s 0, .int .i64 W.length, .int .i64 i, .int .i64 j, .int .i64 W.length, .int .i64 i] ∧ σ = h' ∧ ∀ j' k, i < j' → j' < j → j' < k → k < W.length → F2 p W B W.length i j' k) (W.length - (i + 1)) ?_ ?_
  · exact ⟨i + 1, by omega, by omega, by omega, rfl, rfl, fun j' k h1 h2 => by omega⟩
  rintro m vs h' ⟨j, hij, hj, rfl, rfl, rfl, hal2⟩
  simp only [pwA, if_true, if_false, eq_self, nm_eq, reduceCtorEq, ↓reduceIte, Nat.reduceEqDiff, Nat.reduceLeDiff, Nat.reduceBEq, Nat.reduceAdd, Nat.reduceLT, Nat.reduceSub, Nat.reduceMul, Int.reduceEq, Int.reduceLT, Int.reduceLE, Int.reduceNeg, Int.reduceToNat, List.reduceReplicate, Int.ofNat_le, List.getElem?_drop]
  refine iteI (fun hlt2 => ?_) fun hge => ?_
  rotate_left
  · simp only [pwA, if_true, if_false, eq_self, nm_eq, reduceCtorEq, ↓reduceIte, Nat.reduceEqDiff, Nat.reduceLeDiff, Nat.reduceBEq, Nat.reduceAdd, Nat.reduceLT, Nat.reduceSub, Nat.reduceMul, Int.reduceEq, Int.reduceLT, Int.reduceLE, Int.reduceNeg, Int.reduceToNat, List.reduceReplicate, Int.ofNat_le, List.getElem?_drop, wrapS hlt (by omega : W.length ≤ 4611686018427387904)]
    refine ⟨_, by omega, i + 1, by omega, rfl, rfl, fun i' j' k h1 h2 h3 h4 => ?_⟩
    by_cases e : i' = i
    · subst e; exact hal2 j' k h2 (by omega) h3 h4
    · exact hal1 i' j' k (by omega) h2 h3 h4
  simp only [pwA, if_true, if_false, eq_self, nm_eq, reduceCtorEq, ↓reduceIte, Nat.reduceEqDiff, Nat.reduceLeDiff, Nat.reduceBEq, Nat.reduceAdd, Nat.reduceLT, Nat.reduceSub, Nat.reduceMul, Int.reduceEq, Int.reduceLT, Int.reduceLE, Int.reduceNeg, Int.reduceToNat, List.reduceReplicate, Int.ofNat_le, List.getElem?_drop, wrapS hlt2 (by omega : W.length ≤ 4611686018427387904)]
  refine vp_loop (fun m vs h' => ∃ k : Nat, j + 1 ≤ k ∧ k ≤ W.length ∧ m = W.length - k ∧ vs = [.ptr s 0, .int .i64 W.length, .int .i64 i, .int .i64 j, .int .i64 k, .int .i64 W.length, .int .i64 i] ∧ σ = h' ∧ ∀ k', j < k' → k' < k → F2 p W B W.length i j k') (W.length - (j + 1)) ?_ ?_
  · exact ⟨j + 1, by omega, by omega, by omega, rfl, rfl, fun k' h1 h2 => by omega⟩
  rintro m vs h' ⟨k, hjk, hk', rfl, rfl, rfl, hal3⟩
  simp only [pwA, if_true, if_false, eq_self, nm_eq, reduceCtorEq, ↓reduceIte, Nat.reduceEqDiff, Nat.reduceLeDiff, Nat.reduceBEq, Nat.reduceAdd, Nat.reduceLT, Nat.reduceSub, Nat.reduceMul, Int.reduceEq, Int.reduceLT, Int.reduceLE, Int.reduceNeg, Int.reduceToNat, List.reduceReplicate, Int.ofNat_le, List.getElem?_drop]
  refine iteI (fun hlt3 => ?_) fun hge => ?_
  rotate_left
  · simp only [pwA, if_true, if_false, eq_self, nm_eq, reduceCtorEq, ↓reduceIte, Nat.reduceEqDiff, Nat.reduceLeDiff, Nat.reduceBEq, Nat.reduceAdd, Nat.reduceLT, Nat.reduceSub, Nat.reduceMul, Int.reduceEq, Int.reduceLT, Int.reduceLE, Int.reduceNeg, Int.reduceToNat, List.reduceReplicate, Int.ofNat_le, List.getElem?_drop, wrapS hlt2 (by omega : W.length ≤ 4611686018427387904)]
    refine ⟨_, by omega, j + 1, by omega, by omega, rfl, rfl, fun j' k' h1 h2 h3 h4 => ?_⟩
    by_cases e : j' = j
    · subst e; exact hal3 k' h3 (by omega)
    · exact hal2 j' k' h1 (by omega) h3 h4
  have ei := unit_el hp hlt
  have ej := unit_el hp hlt2
  have ek := unit_el hp hlt3
  have bb : ∀ a b, El p W.length (br p W B W.length a b) := fun a b => br_el o q
  refine unitVector_fz (by omega) hlt fun v1 => ?_
  simp only [pwA, if_true, if_false, eq_self, nm_eq, reduceCtorEq, ↓reduceIte, Nat.reduceEqDiff, Nat.reduceLeDiff, Nat.reduceBEq, Nat.reduceAdd, Nat.reduceLT, Nat.reduceSub, Nat.reduceMul, Int.reduceEq, Int.reduceLT, Int.reduceLE, Int.reduceNeg, Int.reduceToNat, List.reduceReplicate, Int.ofNat_le, List.getElem?_drop]
  refine unitVector_fz (by omega) hlt2 fun v2 => ?_
  simp only [pwA, if_true, if_false, eq_self, nm_eq, reduceCtorEq, ↓reduceIte, Nat.reduceEqDiff, Nat.reduceLeDiff, Nat.reduceBEq, Nat.reduceAdd, Nat.reduceLT, Nat.reduceSub, Nat.reduceMul, Int.reduceEq, Int.reduceLT, Int.reduceLE, Int.reduceNeg, Int.reduceToNat, List.reduceReplicate, Int.ofNat_le, List.getElem?_drop]
  refine unitVector_fz (by omega) hlt3 fun v3 => ?_
  simp only [pwA, if_true, if_false, eq_self, nm_eq, reduceCtorEq, ↓reduceIte, Nat.reduceEqDiff, Nat.reduceLeDiff, Nat.reduceBEq, Nat.reduceAdd, Nat.reduceLT, Nat.reduceSub, Nat.reduceMul, Int.reduceEq, Int.reduceLT, Int.reduceLE, Int.reduceNeg, Int.reduceToNat, List.reduceReplicate, Int.ofNat_le, List.getElem?_drop]
  refine bracket_fz hs hR0 o q ei ej ei.1.symm ej.1.symm fun v4 => ?_
  simp only [pwA, if_true, if_false, eq_self, nm_eq, reduceCtorEq, ↓reduceIte, Nat.reduceEqDiff, Nat.reduceLeDiff, Nat.reduceBEq, Nat.reduceAdd, Nat.reduceLT, Nat.reduceSub, Nat.reduceMul, Int.reduceEq, Int.reduceLT, Int.reduceLE, Int.reduceNeg, Int.reduceToNat, List.reduceReplicate, Int.ofNat_le, List.getElem?_drop]
  refine bracket_fz hs hR0 o q (bb _ _) ek (bb _ _).1.symm ek.1.symm fun v5 => ?_
  simp only [pwA, if_true, if_false, eq_self, nm_eq, reduceCtorEq, ↓reduceIte, Nat.reduceEqDiff, Nat.reduceLeDiff, Nat.reduceBEq, Nat.reduceAdd, Nat.reduceLT, Nat.reduceSub, Nat.reduceMul, Int.reduceEq, Int.reduceLT, Int.reduceLE, Int.reduceNeg, Int.reduceToNat, List.reduceReplicate, Int.ofNat_le, List.getElem?_drop]
  refine bracket_fz hs hR0 o q ej ek ej.1.symm ek.1.symm fun v6 => ?_
  simp only [pwA, if_true, if_false, eq_self, nm_eq, reduceCtorEq, ↓reduceIte, Nat.reduceEqDiff, Nat.reduceLeDiff, Nat.reduceBEq, Nat.reduceAdd, Nat.reduceLT, Nat.reduceSub, Nat.reduceMul, Int.reduceEq, Int.reduceLT, Int.reduceLE, Int.reduceNeg, Int.reduceToNat, List.reduceReplicate, Int.ofNat_le, List.getElem?_drop]
  refine bracket_fz hs hR0 o q (bb _ _) ei (bb _ _).1.symm ei.1.symm fun v7 => ?_
  simp only [pwA, if_true, if_false, eq_self, nm_eq, reduceCtorEq, ↓reduceIte, Nat.reduceEqDiff, Nat.reduceLeDiff, Nat.reduceBEq, Nat.reduceAdd, Nat.reduceLT, Nat.reduceSub, Nat.reduceMul, Int.reduceEq, Int.reduceLT, Int.reduceLE, Int.reduceNeg, Int.reduceToNat, List.reduceReplicate, Int.ofNat_le, List.getElem?_drop]
  refine addLie_fz hs hPP o (bb _ _) (bb _ _) (bb _ _).1.symm (bb _ _).1.symm fun v8 => ?_
  have e8 := lmix_el o (k := 1) (m := 1) (bb (br p W B W.length (unitL W.length i) (unitL W.length j)) (unitL W.length k)) (bb (br p W B W.length (unitL W.length j) (unitL W.length k)) (unitL W.length i))
  simp only [pwA, if_true, if_false, eq_self, nm_eq, reduceCtorEq, ↓reduceIte, Nat.reduceEqDiff, Nat.reduceLeDiff, Nat.reduceBEq, Nat.reduceAdd, Nat.reduceLT, Nat.reduceSub, Nat.reduceMul, Int.reduceEq, Int.reduceLT, Int.reduceLE, Int.reduceNeg, Int.reduceToNat, List.reduceReplicate, Int.ofNat_le, List.getElem?_drop]
  refine bracket_fz hs hR0 o q ek ei ek.1.symm ei.1.symm fun v9 => ?_
  simp only [pwA, if_true, if_false, eq_self, nm_eq, reduceCtorEq, ↓reduceIte, Nat.reduceEqDiff, Nat.reduceLeDiff, Nat.reduceBEq, Nat.reduceAdd, Nat.reduceLT, Nat.reduceSub, Nat.reduceMul, Int.reduceEq, Int.reduceLT, Int.reduceLE, Int.reduceNeg, Int.reduceToNat, List.reduceReplicate, Int.ofNat_le, List.getElem?_drop]
  refine bracket_fz hs hR0 o q (bb _ _) ej (bb _ _).1.symm ej.1.symm fun v10 => ?_
  simp only [pwA, if_true, if_false, eq_self, nm_eq, reduceCtorEq, ↓reduceIte, Nat.reduceEqDiff, Nat.reduceLeDiff, Nat.reduceBEq, Nat.reduceAdd, Nat.reduceLT, Nat.reduceSub, Nat.reduceMul, Int.reduceEq, Int.reduceLT, Int.reduceLE, Int.reduceNeg, Int.reduceToNat, List.reduceReplicate, Int.ofNat_le, List.getElem?_drop]
  refine addLie_fz hs hPP o e8 (bb _ _) e8.1.symm (bb _ _).1.symm fun v11 => ?_
  have e11 := lmix_el o (k := 1) (m := 1) e8 (bb (br p W B W.length (unitL W.length k) (unitL W.length i)) (unitL W.length j))
  simp only [pwA, if_true, if_false, eq_self, nm_eq, reduceCtorEq, ↓reduceIte, Nat.reduceEqDiff, Nat.reduceLeDiff, Nat.reduceBEq, Nat.reduceAdd, Nat.reduceLT, Nat.reduceSub, Nat.reduceMul, Int.reduceEq, Int.reduceLT, Int.reduceLE, Int.reduceNeg, Int.reduceToNat, List.reduceReplicate, Int.ofNat_le, List.getElem?_drop]
  refine isZero_ok e11.1.symm (by rw [e11.1]; omega) ?_
  have hF : isZ (norm p W (lmix 1 (ladd p W (br p W B W.length (br p W B W.length (unitL W.length i) (unitL W.length j)) (unitL W.length k)) (br p W B W.length (br p W B W.length (unitL W.length j) (unitL W.length k)) (unitL W.length i))) 1 (br p W B W.length (br p W B W.length (unitL W.length k) (unitL W.length i)) (unitL W.length j)))) ↔ F2 p W B W.length i j k := Iff.rfl
  by_cases hf : isZ (norm p W (lmix 1 (ladd p W (br p W B W.length (br p W B W.length (unitL W.length i) (unitL W.length j)) (unitL W.length k)) (br p W B W.length (br p W B W.length (unitL W.length j) (unitL W.length k)) (unitL W.length i))) 1 (br p W B W.length (br p W B W.length (unitL W.length k) (unitL W.length i)) (unitL W.length j))))
  · simp only [pwA, if_true, if_false, eq_self, nm_eq, reduceCtorEq, ↓reduceIte, Nat.reduceEqDiff, Nat.reduceLeDiff, Nat.reduceBEq, Nat.reduceAdd, Nat.reduceLT, Nat.reduceSub, Nat.reduceMul, Int.reduceEq, Int.reduceLT, Int.reduceLE, Int.reduceNeg, Int.reduceToNat, List.reduceReplicate, Int.ofNat_le, List.getElem?_drop, eq_true hf, wrapS hlt3 (by omega : W.length ≤ 4611686018427387904)]
    refine ⟨_, by omega, k + 1, by omega, by omega, rfl, rfl, fun k' h1 h2 => ?_⟩
    by_cases e : k' = k
    · subst e; exact hF.1 hf
    · exact hal3 k' h1 (by omega)
  · simp only [pwA, if_true, if_false, eq_self, nm_eq, reduceCtorEq, ↓reduceIte, Nat.reduceEqDiff, Nat.reduceLeDiff, Nat.reduceBEq, Nat.reduceAdd, Nat.reduceLT, Nat.reduceSub, Nat.reduceMul, Int.reduceEq, Int.reduceLT, Int.reduceLE, Int.reduceNeg, Int.reduceToNat, List.reduceReplicate, Int.ofNat_le, List.getElem?_drop, hf]
    exact hk _ _ _ _ ⟨fun x => by omega, fun x => absurd (hF.2 (x.2 i j k (by omega) (by omega) hlt3)) hf⟩
end Go.Proofs
set_option linter.unusedSimpArgs false
set_option linter.unusedVariables false
namespace Go.Proofs
open Go.Ab Go.Lie
variable {σ : PHeap} {K : PV → PHeap → Prop} {p : Int} {n : Nat} {W : List (List Int)} {B : List (List (List Int))} {vP vB : PV} {s : Nat}
theorem l31Fault_ok (hR : IsR vP vB W B) (o : OkW p n W) (q : OkB p n B) (hk : ∀ kind i j k : Int, (kind = 0 ↔ NoFault p W B n) → K (.tup [.int .i64 kind, .int .i64 i, .int .i64 j, .int .i64 k]) σ) : PCalls Tryz.prog 127 [.agg [.int .i64 p, vP, vB]] σ K := by
  have hn6 := o.le
  have hWl := o.len
  have hp := o.pr
  have hR0 := hR
  have hPP := hR.P
  obtain ⟨⟨w1, a1, rP, rfl, hP⟩, ⟨w3, a3, rB, rfl, hB⟩⟩ := hR
  have hpk : -1000000000 ≤ p ∧ p ≤ 1000000000 := by unfold okp at hp; omega
  subst hWl
  refine PCalls.gh ?_
  have hkp := keep_new σ [.int .i64 p, .fz w1 a1 W.length rP, .fz w3 a3 B.length rB]
  have fin : ∀ kind i j k : Int, (kind = 0 ↔ NoFault p W B W.length) → Gh σ K (.tup [.int .i64 kind, .int .i64 i, .int .i64 j, .int .i64 k]) (σ.new [.int .i64 p, .fz w1 a1 W.length rP, .fz w3 a3 B.length rB]) := fun kind i j k h => Gh.fin0 hkp ⟨trivial, trivial, trivial, trivial, trivial⟩ (hk kind i j k h)
  refine pcalls_of_vp mix Tryz.func127 cf127 rfl ?_
  dsimp only [if127, qI, eI, nI, qD, eD]
  simp only [pwA, if_true, if_false, eq_self, nm_eq, reduceCtorEq, ↓reduceIte, Nat.reduceEqDiff, Nat.reduceLeDiff, Nat.reduceBEq, Nat.reduceAdd, Nat.reduceLT, Nat.reduceSub, Nat.reduceMul, Int.reduceEq, Int.reduceLT, Int.reduceLE, Int.reduceNeg, Int.reduceToNat, List.reduceReplicate, Int.ofNat_le, List.getElem?_drop]
  refine vp_loop (fun m vs h' => ∃ i : Nat, i ≤ W.length ∧ m = W.length - i ∧ vs = [.ptr σ.next 0, .int .i64 W.length, .int .i64 i] ∧ σ.new [.int .i64 p, .fz w1 a1 W.length rP, .fz w3 a3 B.length rB] = h' ∧ ∀ i' j', i' < i → j' < W.length → F1 p W B W.length i' j') W.length ?_ ?_
  · exact ⟨0, by omega, by omega, rfl, rfl, fun i' j' h => by omega⟩
  rintro m vs h' ⟨i, hi, rfl, rfl, rfl, hall⟩
  simp only [pwA, if_true, if_false, eq_self, nm_eq, reduceCtorEq, ↓reduceIte, Nat.reduceEqDiff, Nat.reduceLeDiff, Nat.reduceBEq, Nat.reduceAdd, Nat.reduceLT, Nat.reduceSub, Nat.reduceMul, Int.reduceEq, Int.reduceLT, Int.reduceLE, Int.reduceNeg, Int.reduceToNat, List.reduceReplicate, Int.ofNat_le, List.getElem?_drop]
  refine iteI (fun hlt => ?_) fun hge => ?_
  · refine vp_loop (fun m vs h' => ∃ j : Nat, j ≤ W.length ∧ m = W.length - j ∧ vs = [.ptr σ.next 0, .int .i64 W.length, .int .i64 i, .int .i64 j] ∧ σ.new [.int .i64 p, .fz w1 a1 W.length rP, .fz w3 a3 B.length rB] = h' ∧ ∀ j', j' < j → F1 p W B W.length i j') W.length ?_ ?_
    · exact ⟨0, by omega, by omega, rfl, rfl, fun j' h => by omega⟩
    rintro m vs h' ⟨j, hj, rfl, rfl, rfl, hall2⟩
    simp only [pwA, if_true, if_false, eq_self, nm_eq, reduceCtorEq, ↓reduceIte, Nat.reduceEqDiff, Nat.reduceLeDiff, Nat.reduceBEq, Nat.reduceAdd, Nat.reduceLT, Nat.reduceSub, Nat.reduceMul, Int.reduceEq, Int.reduceLT, Int.reduceLE, Int.reduceNeg, Int.reduceToNat, List.reduceReplicate, Int.ofNat_le, List.getElem?_drop]
    refine iteI (fun hlt2 => ?_) fun hge => ?_
    · have ei := unit_el hp hlt
      have ej := unit_el hp hlt2
      have eb := br_el o q (a := unitL W.length i) (b := unitL W.length j)
      obtain ⟨w4, a4, hr⟩ := hP.rowI hlt
      have er := row_el o hlt
      refine l31Unit_ok hR0 rfl (by omega) hlt fun v1 => ?_
      simp only [pwA, if_true, if_false, eq_self, nm_eq, reduceCtorEq, ↓reduceIte, Nat.reduceEqDiff, Nat.reduceLeDiff, Nat.reduceBEq, Nat.reduceAdd, Nat.reduceLT, Nat.reduceSub, Nat.reduceMul, Int.reduceEq, Int.reduceLT, Int.reduceLE, Int.reduceNeg, Int.reduceToNat, List.reduceReplicate, Int.ofNat_le, List.getElem?_drop]
      refine l31Unit_ok hR0 rfl (by omega) hlt2 fun v2 => ?_
      simp only [pwA, if_true, if_false, eq_self, nm_eq, reduceCtorEq, ↓reduceIte, Nat.reduceEqDiff, Nat.reduceLeDiff, Nat.reduceBEq, Nat.reduceAdd, Nat.reduceLT, Nat.reduceSub, Nat.reduceMul, Int.reduceEq, Int.reduceLT, Int.reduceLE, Int.reduceNeg, Int.reduceToNat, List.reduceReplicate, Int.ofNat_le, List.getElem?_drop, hlt, hr, List.getElem?_drop]
      refine l31Bracket_ok hR0 o q ei ej (unitL_length _ _).symm (unitL_length _ _).symm fun v3 => ?_
      simp only [pwA, if_true, if_false, eq_self, nm_eq, reduceCtorEq, ↓reduceIte, Nat.reduceEqDiff, Nat.reduceLeDiff, Nat.reduceBEq, Nat.reduceAdd, Nat.reduceLT, Nat.reduceSub, Nat.reduceMul, Int.reduceEq, Int.reduceLT, Int.reduceLE, Int.reduceNeg, Int.reduceToNat, List.reduceReplicate, Int.ofNat_le, List.getElem?_drop, hlt, hr, List.getElem?_drop]
      refine l31Zero_ok hR0 rfl (by omega) fun vz => ?_
      simp only [pwA, if_true, if_false, eq_self, nm_eq, reduceCtorEq, ↓reduceIte, Nat.reduceEqDiff, Nat.reduceLeDiff, Nat.reduceBEq, Nat.reduceAdd, Nat.reduceLT, Nat.reduceSub, Nat.reduceMul, Int.reduceEq, Int.reduceLT, Int.reduceLE, Int.reduceNeg, Int.reduceToNat, List.reduceReplicate, Int.ofNat_le, List.getElem?_drop]
      refine l31Mix_el hR0 o eb (rep_el hp) eb.1.symm (by simp) hpk (by decide) fun v4 => ?_
      rw [lmix_any (eb.1.trans (by simp))]
      simp only [pwA, if_true, if_false, eq_self, nm_eq, reduceCtorEq, ↓reduceIte, Nat.reduceEqDiff, Nat.reduceLeDiff, Nat.reduceBEq, Nat.reduceAdd, Nat.reduceLT, Nat.reduceSub, Nat.reduceMul, Int.reduceEq, Int.reduceLT, Int.reduceLE, Int.reduceNeg, Int.reduceToNat, List.reduceReplicate, Int.ofNat_le, List.getElem?_drop, hlt, hr, List.getElem?_drop]
      refine l31Unit_ok hR0 rfl (by omega) hlt2 fun v6 => ?_
      simp only [pwA, if_true, if_false, eq_self, nm_eq, reduceCtorEq, ↓reduceIte, Nat.reduceEqDiff, Nat.reduceLeDiff, Nat.reduceBEq, Nat.reduceAdd, Nat.reduceLT, Nat.reduceSub, Nat.reduceMul, Int.reduceEq, Int.reduceLT, Int.reduceLE, Int.reduceNeg, Int.reduceToNat, List.reduceReplicate, Int.ofNat_le, List.getElem?_drop, hlt, hr, List.getElem?_drop]
      refine l31Bracket_ok hR0 o q er ej rfl (unitL_length _ _).symm fun v5 => ?_
      simp only [pwA, if_true, if_false, eq_self, nm_eq, reduceCtorEq, ↓reduceIte, Nat.reduceEqDiff, Nat.reduceLeDiff, Nat.reduceBEq, Nat.reduceAdd, Nat.reduceLT, Nat.reduceSub, Nat.reduceMul, Int.reduceEq, Int.reduceLT, Int.reduceLE, Int.reduceNeg, Int.reduceToNat, List.reduceReplicate, Int.ofNat_le, List.getElem?_drop]
      refine l01Same_ok (lmix_el o eb eb).1.symm (br_el o q).1.symm (by rw [(lmix_el o eb eb).1]; omega) ?_
      have hF : (lmul p W p (br p W B W.length (unitL W.length i) (unitL W.length j)) = br p W B W.length W[i] (unitL W.length j)) ↔ F1 p W B W.length i j := by unfold F1; rw [getD_row hlt]
      by_cases hf : lmul p W p (br p W B W.length (unitL W.length i) (unitL W.length j)) = br p W B W.length W[i] (unitL W.length j)
      · simp only [pwA, if_true, if_false, eq_self, nm_eq, reduceCtorEq, ↓reduceIte, Nat.reduceEqDiff, Nat.reduceLeDiff, Nat.reduceBEq, Nat.reduceAdd, Nat.reduceLT, Nat.reduceSub, Nat.reduceMul, Int.reduceEq, Int.reduceLT, Int.reduceLE, Int.reduceNeg, Int.reduceToNat, List.reduceReplicate, Int.ofNat_le, List.getElem?_drop, eq_true hf, wrapS hlt2 (by omega : W.length ≤ 4611686018427387904)]
        refine ⟨_, by omega, j + 1, by omega, rfl, rfl, fun j' h => ?_⟩
        by_cases e : j' = j
        · subst e; exact hF.1 hf
        · exact hall2 j' (by omega)
      · simp only [pwA, if_true, if_false, eq_self, nm_eq, reduceCtorEq, ↓reduceIte, Nat.reduceEqDiff, Nat.reduceLeDiff, Nat.reduceBEq, Nat.reduceAdd, Nat.reduceLT, Nat.reduceSub, Nat.reduceMul, Int.reduceEq, Int.reduceLT, Int.reduceLE, Int.reduceNeg, Int.reduceToNat, List.reduceReplicate, Int.ofNat_le, List.getElem?_drop, hf]
        exact fin _ _ _ _ ⟨fun x => by omega, fun x => absurd (hF.2 (x.1 i j hlt hlt2)) hf⟩
    · simp only [pwA, if_true, if_false, eq_self, nm_eq, reduceCtorEq, ↓reduceIte, Nat.reduceEqDiff, Nat.reduceLeDiff, Nat.reduceBEq, Nat.reduceAdd, Nat.reduceLT, Nat.reduceSub, Nat.reduceMul, Int.reduceEq, Int.reduceLT, Int.reduceLE, Int.reduceNeg, Int.reduceToNat, List.reduceReplicate, Int.ofNat_le, List.getElem?_drop, wrapS hlt (by omega : W.length ≤ 4611686018427387904)]
      refine ⟨_, by omega, i + 1, by omega, rfl, rfl, fun i' j' h h' => ?_⟩
      by_cases e : i' = i
      · subst e; exact hall2 j' (by omega)
      · exact hall i' j' (by omega) h'
  have hall : ∀ i j, i < W.length → j < W.length → F1 p W B W.length i j := fun i' j' h h' => hall i' j' (by omega) h'
  clear hge hi
  refine vp_loop (fun m vs h' => ∃ i : Nat, i ≤ W.length ∧ m = W.length - i ∧ vs = [.ptr σ.next 0, .int .i64 W.length, .int .i64 i] ∧ σ.new [.int .i64 p, .fz w1 a1 W.length rP, .fz w3 a3 B.length rB] = h' ∧ ∀ i' j k, i' < i → i' < j → j < k → k < W.length → F2 p W B W.length i' j k) W.length ?_ ?_
  · exact ⟨0, by omega, by omega, rfl, rfl, fun i' j k h => by omega⟩
  rintro m vs h' ⟨i, hi, rfl, rfl, rfl, hal1⟩
  simp only [pwA, if_true, if_false, eq_self, nm_eq, reduceCtorEq, ↓reduceIte, Nat.reduceEqDiff, Nat.reduceLeDiff, Nat.reduceBEq, Nat.reduceAdd, Nat.reduceLT, Nat.reduceSub, Nat.reduceMul, Int.reduceEq, Int.reduceLT, Int.reduceLE, Int.reduceNeg, Int.reduceToNat, List.reduceReplicate, Int.ofNat_le, List.getElem?_drop]
  refine iteI (fun hlt => ?_) fun hge => ?_
  rotate_left
  · exact fin _ _ _ _ ⟨fun _ => ⟨hall, fun i j k h1 h2 h3 => hal1 i j k (by omega) h1 h2 h3⟩, fun _ => rfl⟩
  simp only [pwA, if_true, if_false, eq_self, nm_eq, reduceCtorEq, ↓reduceIte, Nat.reduceEqDiff, Nat.reduceLeDiff, Nat.reduceBEq, Nat.reduceAdd, Nat.reduceLT, Nat.reduceSub, Nat.reduceMul, Int.reduceEq, Int.reduceLT, Int.reduceLE, Int.reduceNeg, Int.reduceToNat, List.reduceReplicate, Int.ofNat_le, List.getElem?_drop, wrapS hlt (by omega : W.length ≤ 4611686018427387904)]
  refine vp_loop (fun m vs h' => ∃ j : Nat, i + 1 ≤ j ∧ j ≤ W.length ∧ m = W.length - j ∧ vs = [.ptr σ.next 0, .int .i64 W.length, .int .i64 i, .int .i64 j] ∧ σ.new [.int .i64 p, .fz w1 a1 W.length rP, .fz w3 a3 B.length rB] = h' ∧ ∀ j' k, i < j' → j' < j → j' < k → k < W.length → F2 p W B W.length i j' k) (W.length - (i + 1)) ?_ ?_
  · exact ⟨i + 1, by omega, by omega, by omega, rfl, rfl, fun j' k h1 h2 => by omega⟩
  rintro m vs h' ⟨j, hij, hj, rfl, rfl, rfl, hal2⟩
  simp only [pwA, if_true, if_false, eq_self, nm_eq, reduceCtorEq, ↓reduceIte, Nat.reduceEqDiff, Nat.reduceLeDiff, Nat.reduceBEq, Nat.reduceAdd, Nat.reduceLT, Nat.reduceSub, Nat.reduceMul, Int.reduceEq, Int.reduceLT, Int.reduceLE, Int.reduceNeg, Int.reduceToNat, List.reduceReplicate, Int.ofNat_le, List.getElem?_drop]
  refine iteI (fun hlt2 => ?_) fun hge => ?_
  rotate_left
  · simp only [pwA, if_true, if_false, eq_self, nm_eq, reduceCtorEq, ↓reduceIte, Nat.reduceEqDiff, Nat.reduceLeDiff, Nat.reduceBEq, Nat.reduceAdd, Nat.reduceLT, Nat.reduceSub, Nat.reduceMul, Int.reduceEq, Int.reduceLT, Int.reduceLE, Int.reduceNeg, Int.reduceToNat, List.reduceReplicate, Int.ofNat_le, List.getElem?_drop, wrapS hlt (by omega : W.length ≤ 4611686018427387904)]
    refine ⟨_, by omega, i + 1, by omega, rfl, rfl, fun i' j' k h1 h2 h3 h4 => ?_⟩
    by_cases e : i' = i
    · subst e; exact hal2 j' k h2 (by omega) h3 h4
    · exact hal1 i' j' k (by omega) h2 h3 h4
  simp only [pwA, if_true, if_false, eq_self, nm_eq, reduceCtorEq, ↓reduceIte, Nat.reduceEqDiff, Nat.reduceLeDiff, Nat.reduceBEq, Nat.reduceAdd, Nat.reduceLT, Nat.reduceSub, Nat.reduceMul, Int.reduceEq, Int.reduceLT, Int.reduceLE, Int.reduceNeg, Int.reduceToNat, List.reduceReplicate, Int.ofNat_le, List.getElem?_drop, wrapS hlt2 (by omega : W.length ≤ 4611686018427387904)]
  refine vp_loop (fun m vs h' => ∃ k : Nat, j + 1 ≤ k ∧ k ≤ W.length ∧ m = W.length - k ∧ vs = [.ptr σ.next 0, .int .i64 W.length, .int .i64 i, .int .i64 j, .int .i64 k] ∧ σ.new [.int .i64 p, .fz w1 a1 W.length rP, .fz w3 a3 B.length rB] = h' ∧ ∀ k', j < k' → k' < k → F2 p W B W.length i j k') (W.length - (j + 1)) ?_ ?_
  · exact ⟨j + 1, by omega, by omega, by omega, rfl, rfl, fun k' h1 h2 => by omega⟩
  rintro m vs h' ⟨k, hjk, hk', rfl, rfl, rfl, hal3⟩
  simp only [pwA, if_true, if_false, eq_self, nm_eq, reduceCtorEq, ↓reduceIte, Nat.reduceEqDiff, Nat.reduceLeDiff, Nat.reduceBEq, Nat.reduceAdd, Nat.reduceLT, Nat.reduceSub, Nat.reduceMul, Int.reduceEq, Int.reduceLT, Int.reduceLE, Int.reduceNeg, Int.reduceToNat, List.reduceReplicate, Int.ofNat_le, List.getElem?_drop]
  refine iteI (fun hlt3 => ?_) fun hge => ?_
  rotate_left
  · simp only [pwA, if_true, if_false, eq_self, nm_eq, reduceCtorEq, ↓reduceIte, Nat.reduceEqDiff, Nat.reduceLeDiff, Nat.reduceBEq, Nat.reduceAdd, Nat.reduceLT, Nat.reduceSub, Nat.reduceMul, Int.reduceEq, Int.reduceLT, Int.reduceLE, Int.reduceNeg, Int.reduceToNat, List.reduceReplicate, Int.ofNat_le, List.getElem?_drop, wrapS hlt2 (by omega : W.length ≤ 4611686018427387904)]
    refine ⟨_, by omega, j + 1, by omega, by omega, rfl, rfl, fun j' k' h1 h2 h3 h4 => ?_⟩
    by_cases e : j' = j
    · subst e; exact hal3 k' h3 (by omega)
    · exact hal2 j' k' h1 (by omega) h3 h4
  have ei := unit_el hp hlt
  have ej := unit_el hp hlt2
  have ek := unit_el hp hlt3
  have bb : ∀ a b, El p W.length (br p W B W.length a b) := fun a b => br_el o q
  refine l31Unit_ok hR0 rfl (by omega) hlt fun v1 => ?_
  simp only [pwA, if_true, if_false, eq_self, nm_eq, reduceCtorEq, ↓reduceIte, Nat.reduceEqDiff, Nat.reduceLeDiff, Nat.reduceBEq, Nat.reduceAdd, Nat.reduceLT, Nat.reduceSub, Nat.reduceMul, Int.reduceEq, Int.reduceLT, Int.reduceLE, Int.reduceNeg, Int.reduceToNat, List.reduceReplicate, Int.ofNat_le, List.getElem?_drop]
  refine l31Unit_ok hR0 rfl (by omega) hlt2 fun v2 => ?_
  simp only [pwA, if_true, if_false, eq_self, nm_eq, reduceCtorEq, ↓reduceIte, Nat.reduceEqDiff, Nat.reduceLeDiff, Nat.reduceBEq, Nat.reduceAdd, Nat.reduceLT, Nat.reduceSub, Nat.reduceMul, Int.reduceEq, Int.reduceLT, Int.reduceLE, Int.reduceNeg, Int.reduceToNat, List.reduceReplicate, Int.ofNat_le, List.getElem?_drop]
  refine l31Unit_ok hR0 rfl (by omega) hlt3 fun v3 => ?_
  simp only [pwA, if_true, if_false, eq_self, nm_eq, reduceCtorEq, ↓reduceIte, Nat.reduceEqDiff, Nat.reduceLeDiff, Nat.reduceBEq, Nat.reduceAdd, Nat.reduceLT, Nat.reduceSub, Nat.reduceMul, Int.reduceEq, Int.reduceLT, Int.reduceLE, Int.reduceNeg, Int.reduceToNat, List.reduceReplicate, Int.ofNat_le, List.getElem?_drop]
  refine l31Bracket_ok hR0 o q ei ej ei.1.symm ej.1.symm fun v4 => ?_
  simp only [pwA, if_true, if_false, eq_self, nm_eq, reduceCtorEq, ↓reduceIte, Nat.reduceEqDiff, Nat.reduceLeDiff, Nat.reduceBEq, Nat.reduceAdd, Nat.reduceLT, Nat.reduceSub, Nat.reduceMul, Int.reduceEq, Int.reduceLT, Int.reduceLE, Int.reduceNeg, Int.reduceToNat, List.reduceReplicate, Int.ofNat_le, List.getElem?_drop]
  refine l31Bracket_ok hR0 o q (bb _ _) ek (bb _ _).1.symm ek.1.symm fun v5 => ?_
  simp only [pwA, if_true, if_false, eq_self, nm_eq, reduceCtorEq, ↓reduceIte, Nat.reduceEqDiff, Nat.reduceLeDiff, Nat.reduceBEq, Nat.reduceAdd, Nat.reduceLT, Nat.reduceSub, Nat.reduceMul, Int.reduceEq, Int.reduceLT, Int.reduceLE, Int.reduceNeg, Int.reduceToNat, List.reduceReplicate, Int.ofNat_le, List.getElem?_drop]
  refine l31Bracket_ok hR0 o q ej ek ej.1.symm ek.1.symm fun v6 => ?_
  simp only [pwA, if_true, if_false, eq_self, nm_eq, reduceCtorEq, ↓reduceIte, Nat.reduceEqDiff, Nat.reduceLeDiff, Nat.reduceBEq, Nat.reduceAdd, Nat.reduceLT, Nat.reduceSub, Nat.reduceMul, Int.reduceEq, Int.reduceLT, Int.reduceLE, Int.reduceNeg, Int.reduceToNat, List.reduceReplicate, Int.ofNat_le, List.getElem?_drop]
  refine l31Bracket_ok hR0 o q (bb _ _) ei (bb _ _).1.symm ei.1.symm fun v7 => ?_
  simp only [pwA, if_true, if_false, eq_self, nm_eq, reduceCtorEq, ↓reduceIte, Nat.reduceEqDiff, Nat.reduceLeDiff, Nat.reduceBEq, Nat.reduceAdd, Nat.reduceLT, Nat.reduceSub, Nat.reduceMul, Int.reduceEq, Int.reduceLT, Int.reduceLE, Int.reduceNeg, Int.reduceToNat, List.reduceReplicate, Int.ofNat_le, List.getElem?_drop]
  refine l31Mix_el hR0 o (bb _ _) (bb _ _) (bb _ _).1.symm (bb _ _).1.symm (by decide) (by decide) fun v8 => ?_
  have e8 := lmix_el o (k := 1) (m := 1) (bb (br p W B W.length (unitL W.length i) (unitL W.length j)) (unitL W.length k)) (bb (br p W B W.length (unitL W.length j) (unitL W.length k)) (unitL W.length i))
  simp only [pwA, if_true, if_false, eq_self, nm_eq, reduceCtorEq, ↓reduceIte, Nat.reduceEqDiff, Nat.reduceLeDiff, Nat.reduceBEq, Nat.reduceAdd, Nat.reduceLT, Nat.reduceSub, Nat.reduceMul, Int.reduceEq, Int.reduceLT, Int.reduceLE, Int.reduceNeg, Int.reduceToNat, List.reduceReplicate, Int.ofNat_le, List.getElem?_drop]
  refine l31Bracket_ok hR0 o q ek ei ek.1.symm ei.1.symm fun v9 => ?_
  simp only [pwA, if_true, if_false, eq_self, nm_eq, reduceCtorEq, ↓reduceIte, Nat.reduceEqDiff, Nat.reduceLeDiff, Nat.reduceBEq, Nat.reduceAdd, Nat.reduceLT, Nat.reduceSub, Nat.reduceMul, Int.reduceEq, Int.reduceLT, Int.reduceLE, Int.reduceNeg, Int.reduceToNat, List.reduceReplicate, Int.ofNat_le, List.getElem?_drop]
  refine l31Bracket_ok hR0 o q (bb _ _) ej (bb _ _).1.symm ej.1.symm fun v10 => ?_
  simp only [pwA, if_true, if_false, eq_self, nm_eq, reduceCtorEq, ↓reduceIte, Nat.reduceEqDiff, Nat.reduceLeDiff, Nat.reduceBEq, Nat.reduceAdd, Nat.reduceLT, Nat.reduceSub, Nat.reduceMul, Int.reduceEq, Int.reduceLT, Int.reduceLE, Int.reduceNeg, Int.reduceToNat, List.reduceReplicate, Int.ofNat_le, List.getElem?_drop]
  refine l31Mix_el hR0 o e8 (bb _ _) e8.1.symm (bb _ _).1.symm (by decide) (by decide) fun v11 => ?_
  have e11 := lmix_el o (k := 1) (m := 1) e8 (bb (br p W B W.length (unitL W.length k) (unitL W.length i)) (unitL W.length j))
  simp only [pwA, if_true, if_false, eq_self, nm_eq, reduceCtorEq, ↓reduceIte, Nat.reduceEqDiff, Nat.reduceLeDiff, Nat.reduceBEq, Nat.reduceAdd, Nat.reduceLT, Nat.reduceSub, Nat.reduceMul, Int.reduceEq, Int.reduceLT, Int.reduceLE, Int.reduceNeg, Int.reduceToNat, List.reduceReplicate, Int.ofNat_le, List.getElem?_drop]
  refine l01Zero_ok e11.1.symm (by rw [e11.1]; omega) ?_
  have hF : isZ (norm p W (lmix 1 (ladd p W (br p W B W.length (br p W B W.length (unitL W.length i) (unitL W.length j)) (unitL W.length k)) (br p W B W.length (br p W B W.length (unitL W.length j) (unitL W.length k)) (unitL W.length i))) 1 (br p W B W.length (br p W B W.length (unitL W.length k) (unitL W.length i)) (unitL W.length j)))) ↔ F2 p W B W.length i j k := Iff.rfl
  by_cases hf : isZ (norm p W (lmix 1 (ladd p W (br p W B W.length (br p W B W.length (unitL W.length i) (unitL W.length j)) (unitL W.length k)) (br p W B W.length (br p W B W.length (unitL W.length j) (unitL W.length k)) (unitL W.length i))) 1 (br p W B W.length (br p W B W.length (unitL W.length k) (unitL W.length i)) (unitL W.length j))))
  · simp only [pwA, if_true, if_false, eq_self, nm_eq, reduceCtorEq, ↓reduceIte, Nat.reduceEqDiff, Nat.reduceLeDiff, Nat.reduceBEq, Nat.reduceAdd, Nat.reduceLT, Nat.reduceSub, Nat.reduceMul, Int.reduceEq, Int.reduceLT, Int.reduceLE, Int.reduceNeg, Int.reduceToNat, List.reduceReplicate, Int.ofNat_le, List.getElem?_drop, eq_true hf, wrapS hlt3 (by omega : W.length ≤ 4611686018427387904)]
    refine ⟨_, by omega, k + 1, by omega, by omega, rfl, rfl, fun k' h1 h2 => ?_⟩
    by_cases e : k' = k
    · subst e; exact hF.1 hf
    · exact hal3 k' h1 (by omega)
  · simp only [pwA, if_true, if_false, eq_self, nm_eq, reduceCtorEq, ↓reduceIte, Nat.reduceEqDiff, Nat.reduceLeDiff, Nat.reduceBEq, Nat.reduceAdd, Nat.reduceLT, Nat.reduceSub, Nat.reduceMul, Int.reduceEq, Int.reduceLT, Int.reduceLE, Int.reduceNeg, Int.reduceToNat, List.reduceReplicate, Int.ofNat_le, List.getElem?_drop, hf]
    exact fin _ _ _ _ ⟨fun x => by omega, fun x => absurd (hF.2 (x.2 i j k (by omega) (by omega) hlt3)) hf⟩
/-- A Lie ring. -/
def isLie (p : Int) (W : List (List Int)) (B : List (List (List Int))) : Prop := isShape p W B ∧ NoFault p W B W.length
theorem IsLieRing_ok (hR : IsR vP vB W B) (sz : SzR W B) (hk : ∀ t : Bool, (t = true ↔ isLie p W B) → K (.bool t) σ) : PCalls Tryz.prog 106 [.agg [.int .i64 p, vP, vB]] σ K := by
  have h1 := hR.P.one
  have h2 := hR.B.one
  refine PCalls.gh ?_
  have hkp := keep_new σ [.int .i64 p, vP, vB]
  refine pcalls_of_vp mix Tryz.func106 cf106 rfl ?_
  dsimp only [if106, qI, eI, nI, qD, eD]
  simp only [pwA, if_true, if_false, eq_self, nm_eq, reduceCtorEq, ↓reduceIte, Nat.reduceEqDiff, Nat.reduceLeDiff, Nat.reduceBEq, Nat.reduceAdd, Nat.reduceLT, Nat.reduceSub, Nat.reduceMul, Int.reduceEq, Int.reduceLT, Int.reduceLE, Int.reduceNeg, Int.reduceToNat, List.reduceReplicate, Int.ofNat_le, List.getElem?_drop, h1, h2]
  refine IsLieShape_ok hR sz fun t ht => ?_
  cases t with
  | false =>
    simp only [pwA, if_true, if_false, eq_self, nm_eq, reduceCtorEq, ↓reduceIte, Nat.reduceEqDiff, Nat.reduceLeDiff, Nat.reduceBEq, Nat.reduceAdd, Nat.reduceLT, Nat.reduceSub, Nat.reduceMul, Int.reduceEq, Int.reduceLT, Int.reduceLE, Int.reduceNeg, Int.reduceToNat, List.reduceReplicate, Int.ofNat_le, List.getElem?_drop]
    exact Gh.fin0 hkp trivial (hk _ ⟨fun x => (by cases x), fun x => ht.2 x.1⟩)
  | true =>
    have hsh := ht.1 rfl
    simp only [pwA, if_true, if_false, eq_self, nm_eq, reduceCtorEq, ↓reduceIte, Nat.reduceEqDiff, Nat.reduceLeDiff, Nat.reduceBEq, Nat.reduceAdd, Nat.reduceLT, Nat.reduceSub, Nat.reduceMul, Int.reduceEq, Int.reduceLT, Int.reduceLE, Int.reduceNeg, Int.reduceToNat, List.reduceReplicate, Int.ofNat_le, List.getElem?_drop]
    refine lieFault_ok ⟨by simp only [pwA, if_true, if_false, eq_self, nm_eq, reduceCtorEq, ↓reduceIte, Nat.reduceEqDiff, Nat.reduceLeDiff, Nat.reduceBEq, Nat.reduceAdd, Nat.reduceLT, Nat.reduceSub, Nat.reduceMul, Int.reduceEq, Int.reduceLT, Int.reduceLE, Int.reduceNeg, Int.reduceToNat, List.reduceReplicate, Int.ofNat_le, List.getElem?_drop], by simp only [pwA, if_true, if_false, eq_self, nm_eq, reduceCtorEq, ↓reduceIte, Nat.reduceEqDiff, Nat.reduceLeDiff, Nat.reduceBEq, Nat.reduceAdd, Nat.reduceLT, Nat.reduceSub, Nat.reduceMul, Int.reduceEq, Int.reduceLT, Int.reduceLE, Int.reduceNeg, Int.reduceToNat, List.reduceReplicate, Int.ofNat_le, List.getElem?_drop]⟩ hR hsh.w hsh.b fun kind i j k h => ?_
    simp only [pwA, if_true, if_false, eq_self, nm_eq, reduceCtorEq, ↓reduceIte, Nat.reduceEqDiff, Nat.reduceLeDiff, Nat.reduceBEq, Nat.reduceAdd, Nat.reduceLT, Nat.reduceSub, Nat.reduceMul, Int.reduceEq, Int.reduceLT, Int.reduceLE, Int.reduceNeg, Int.reduceToNat, List.reduceReplicate, Int.ofNat_le, List.getElem?_drop]
    exact Gh.fin0 hkp trivial (hk _ ⟨fun x => ⟨hsh, h.1 (by simpa using x)⟩, fun x => by simpa using h.2 x.2⟩)
theorem l31Ring_ok (hR : IsR vP vB W B) (sz : SzR W B) (hk : ∀ t : Bool, (t = true ↔ isLie p W B) → K (.bool t) σ) : PCalls Tryz.prog 69 [.agg [.int .i64 p, vP, vB]] σ K := by
  have h1 := hR.P.one
  have h2 := hR.B.one
  refine PCalls.gh ?_
  have hkp := keep_new σ [.int .i64 p, vP, vB]
  refine pcalls_of_vp mix Tryz.func69 cf69 rfl ?_
  dsimp only [if69, qI, eI, nI, qD, eD]
  simp only [pwA, if_true, if_false, eq_self, nm_eq, reduceCtorEq, ↓reduceIte, Nat.reduceEqDiff, Nat.reduceLeDiff, Nat.reduceBEq, Nat.reduceAdd, Nat.reduceLT, Nat.reduceSub, Nat.reduceMul, Int.reduceEq, Int.reduceLT, Int.reduceLE, Int.reduceNeg, Int.reduceToNat, List.reduceReplicate, Int.ofNat_le, List.getElem?_drop, h1, h2]
  refine l31Shape_ok hR sz fun t ht => ?_
  cases t with
  | false =>
    simp only [pwA, if_true, if_false, eq_self, nm_eq, reduceCtorEq, ↓reduceIte, Nat.reduceEqDiff, Nat.reduceLeDiff, Nat.reduceBEq, Nat.reduceAdd, Nat.reduceLT, Nat.reduceSub, Nat.reduceMul, Int.reduceEq, Int.reduceLT, Int.reduceLE, Int.reduceNeg, Int.reduceToNat, List.reduceReplicate, Int.ofNat_le, List.getElem?_drop]
    exact Gh.fin0 hkp trivial (hk _ ⟨fun x => (by cases x), fun x => ht.2 x.1⟩)
  | true =>
    have hsh := ht.1 rfl
    simp only [pwA, if_true, if_false, eq_self, nm_eq, reduceCtorEq, ↓reduceIte, Nat.reduceEqDiff, Nat.reduceLeDiff, Nat.reduceBEq, Nat.reduceAdd, Nat.reduceLT, Nat.reduceSub, Nat.reduceMul, Int.reduceEq, Int.reduceLT, Int.reduceLE, Int.reduceNeg, Int.reduceToNat, List.reduceReplicate, Int.ofNat_le, List.getElem?_drop]
    refine l31Fault_ok hR hsh.w hsh.b fun kind i j k h => ?_
    simp only [pwA, if_true, if_false, eq_self, nm_eq, reduceCtorEq, ↓reduceIte, Nat.reduceEqDiff, Nat.reduceLeDiff, Nat.reduceBEq, Nat.reduceAdd, Nat.reduceLT, Nat.reduceSub, Nat.reduceMul, Int.reduceEq, Int.reduceLT, Int.reduceLE, Int.reduceNeg, Int.reduceToNat, List.reduceReplicate, Int.ofNat_le, List.getElem?_drop]
    exact Gh.fin0 hkp trivial (hk _ ⟨fun x => ⟨hsh, h.1 (by simpa using x)⟩, fun x => by simpa using h.2 x.2⟩)
end Go.Proofs
set_option linter.unusedSimpArgs false
set_option linter.unusedVariables false
namespace Go.Proofs
open Go.Ab Go.Lie
variable {σ : PHeap} {K : PV → PHeap → Prop} {p : Int} {n : Nat} {W : List (List Int)} {B : List (List (List Int))} {vP vB vL : PV} {s : Nat}
theorem isVec_el {xs : List Int} : isVec xs p n ↔ El p n xs := ⟨fun h => ⟨by have := h.1; omega, h.2⟩, fun h => ⟨by have := h.1; omega, h.2⟩⟩
theorem l31Has_ok {l : Nat} {w : Bool} {a : AV} {xs : List Int} (hR : IsR vP vB W B) (hl : l = xs.length) (hb : xs.length ≤ 1048576) (hp : okp p) (hk : ∀ t : Bool, (t = true ↔ El p W.length xs) → K (.bool t) σ) :
    PCalls Tryz.prog 128 [.agg [.int .i64 p, vP, vB], .fz w a l (pis xs)] σ K := by
  have h2 := hR.B.one
  unfold okp at hp
  obtain ⟨⟨w1, a1, rP, rfl, hP⟩, hB⟩ := hR
  refine PCalls.gh ?_
  have hkp := keep_new σ [.int .i64 p, .fz w1 a1 W.length rP, vB]
  refine pcalls_of_vp mix Tryz.func128 cf128 rfl ?_
  dsimp only [if128, qI, eI, nI, qD, eD]
  simp only [pwA, if_true, if_false, eq_self, nm_eq, reduceCtorEq, ↓reduceIte, Nat.reduceEqDiff, Nat.reduceLeDiff, Nat.reduceBEq, Nat.reduceAdd, Nat.reduceLT, Nat.reduceSub, Nat.reduceMul, Int.reduceEq, Int.reduceLT, Int.reduceLE, Int.reduceNeg, Int.reduceToNat, List.reduceReplicate, Int.ofNat_le, List.getElem?_drop, h2]
  refine l31Is_ok hl (by omega) (by omega) (by omega) ?_
  simp only [pwA, if_true, if_false, eq_self, nm_eq, reduceCtorEq, ↓reduceIte, Nat.reduceEqDiff, Nat.reduceLeDiff, Nat.reduceBEq, Nat.reduceAdd, Nat.reduceLT, Nat.reduceSub, Nat.reduceMul, Int.reduceEq, Int.reduceLT, Int.reduceLE, Int.reduceNeg, Int.reduceToNat, List.reduceReplicate, Int.ofNat_le, List.getElem?_drop]
  exact Gh.fin0 hkp trivial (hk _ (by rw [decide_eq_true_iff]; exact isVec_el))
/-- All of a list are elements. -/
def Els (p : Int) (n : Nat) (xs : List (List Int)) : Prop := ∀ x ∈ xs, El p n x
/-- Sizes of a list. -/
structure SzL (xs : List (List Int)) : Prop where
  l : xs.length ≤ 1048576
  r : ∀ x ∈ xs, x.length ≤ 1048576
theorem l32Elements_ok {xs : List (List Int)} (hR : IsR vP vB W B) (hL : FII vL xs) (sz : SzL xs) (hp : okp p) (hk : ∀ t : Bool, (t = true ↔ Els p W.length xs) → K (.bool t) σ) :
    PCalls Tryz.prog 70 [.agg [.int .i64 p, vP, vB], vL] σ K := by
  have h1 := hR.P.one
  have h2 := hR.B.one
  have hxl := sz.l
  obtain ⟨wl, al, rl, rfl, hrl⟩ := hL
  refine PCalls.gh ?_
  have hkp := keep_new σ [.int .i64 p, vP, vB]
  refine pcalls_of_vp mix Tryz.func70 cf70 rfl ?_
  dsimp only [if70, qI, eI, nI, qD, eD]
  simp only [pwA, if_true, if_false, eq_self, nm_eq, reduceCtorEq, ↓reduceIte, Nat.reduceEqDiff, Nat.reduceLeDiff, Nat.reduceBEq, Nat.reduceAdd, Nat.reduceLT, Nat.reduceSub, Nat.reduceMul, Int.reduceEq, Int.reduceLT, Int.reduceLE, Int.reduceNeg, Int.reduceToNat, List.reduceReplicate, Int.ofNat_le, List.getElem?_drop, h1, h2]
  refine vp_loop (fun m vs h' => ∃ i : Nat, i ≤ xs.length ∧ m = xs.length - i ∧ vs = [.fz wl al xs.length rl, .ptr σ.next 0, .int .i64 i] ∧ σ.new [.int .i64 p, vP, vB] = h' ∧ ∀ j (h : j < xs.length), j < i → El p W.length xs[j]) xs.length ?_ ?_
  · exact ⟨0, by omega, by omega, rfl, rfl, fun j h hj => by omega⟩
  rintro m vs h' ⟨i, hi, rfl, rfl, rfl, hall⟩
  simp only [pwA, if_true, if_false, eq_self, nm_eq, reduceCtorEq, ↓reduceIte, Nat.reduceEqDiff, Nat.reduceLeDiff, Nat.reduceBEq, Nat.reduceAdd, Nat.reduceLT, Nat.reduceSub, Nat.reduceMul, Int.reduceEq, Int.reduceLT, Int.reduceLE, Int.reduceNeg, Int.reduceToNat, List.reduceReplicate, Int.ofNat_le, List.getElem?_drop]
  refine iteI (fun hlt => ?_) fun hge => ?_
  · obtain ⟨w4, a4, hr⟩ := hrl.rowI hlt
    simp only [pwA, if_true, if_false, eq_self, nm_eq, reduceCtorEq, ↓reduceIte, Nat.reduceEqDiff, Nat.reduceLeDiff, Nat.reduceBEq, Nat.reduceAdd, Nat.reduceLT, Nat.reduceSub, Nat.reduceMul, Int.reduceEq, Int.reduceLT, Int.reduceLE, Int.reduceNeg, Int.reduceToNat, List.reduceReplicate, Int.ofNat_le, List.getElem?_drop, hlt, hr, List.getElem?_drop]
    refine l31Has_ok hR rfl (sz.r _ (List.getElem_mem hlt)) hp fun t ht => ?_
    cases t with
    | false =>
      simp only [pwA, if_true, if_false, eq_self, nm_eq, reduceCtorEq, ↓reduceIte, Nat.reduceEqDiff, Nat.reduceLeDiff, Nat.reduceBEq, Nat.reduceAdd, Nat.reduceLT, Nat.reduceSub, Nat.reduceMul, Int.reduceEq, Int.reduceLT, Int.reduceLE, Int.reduceNeg, Int.reduceToNat, List.reduceReplicate, Int.ofNat_le, List.getElem?_drop]
      exact Gh.fin0 hkp trivial (hk _ ⟨fun x => (by cases x), fun x => ht.2 (x _ (List.getElem_mem hlt))⟩)
    | true =>
      simp only [pwA, if_true, if_false, eq_self, nm_eq, reduceCtorEq, ↓reduceIte, Nat.reduceEqDiff, Nat.reduceLeDiff, Nat.reduceBEq, Nat.reduceAdd, Nat.reduceLT, Nat.reduceSub, Nat.reduceMul, Int.reduceEq, Int.reduceLT, Int.reduceLE, Int.reduceNeg, Int.reduceToNat, List.reduceReplicate, Int.ofNat_le, List.getElem?_drop, wrapS hlt (by omega : xs.length ≤ 4611686018427387904)]
      refine ⟨_, by omega, i + 1, by omega, rfl, rfl, fun j h hj => ?_⟩
      by_cases e : j = i
      · subst e; exact ht.1 rfl
      · exact hall j h (by omega)
  · refine Gh.fin0 hkp trivial (hk _ ⟨fun _ x hx => ?_, fun _ => rfl⟩)
    obtain ⟨j, hj, rfl⟩ := List.mem_iff_getElem.1 hx
    exact hall j hj (by omega)
theorem lieElements_ok {xs : List (List Int)} (hs : PtrR σ s p vP vB) (hR : IsR vP vB W B) (szr : SzR W B) (hL : FII vL xs) (sz : SzL xs) (hk : ∀ t : Bool, (t = true ↔ isLie p W B ∧ Els p W.length xs) → K (.bool t) σ) :
    PCalls Tryz.prog 73 [.ptr s 0, vL] σ K := by
  have hPP := hR.P
  have hxl := sz.l
  obtain ⟨wl, al, rl, rfl, hrl⟩ := hL
  refine pcalls_of_vp mix Tryz.func73 cf73 rfl ?_
  dsimp only [if73, qI, eI, nI, qD, eD]
  simp only [pwA, if_true, if_false, eq_self, nm_eq, reduceCtorEq, ↓reduceIte, Nat.reduceEqDiff, Nat.reduceLeDiff, Nat.reduceBEq, Nat.reduceAdd, Nat.reduceLT, Nat.reduceSub, Nat.reduceMul, Int.reduceEq, Int.reduceLT, Int.reduceLE, Int.reduceNeg, Int.reduceToNat, List.reduceReplicate, Int.ofNat_le, List.getElem?_drop, obj_rd1 hs.obj, obj_rd hs.obj]
  refine IsLieRing_ok hR szr fun t ht => ?_
  cases t with
  | false =>
    simp only [pwA, if_true, if_false, eq_self, nm_eq, reduceCtorEq, ↓reduceIte, Nat.reduceEqDiff, Nat.reduceLeDiff, Nat.reduceBEq, Nat.reduceAdd, Nat.reduceLT, Nat.reduceSub, Nat.reduceMul, Int.reduceEq, Int.reduceLT, Int.reduceLE, Int.reduceNeg, Int.reduceToNat, List.reduceReplicate, Int.ofNat_le, List.getElem?_drop]
    exact hk _ ⟨fun x => (by cases x), fun x => ht.2 x.1⟩
  | true =>
  have hlie := ht.1 rfl
  simp only [pwA, if_true, if_false, eq_self, nm_eq, reduceCtorEq, ↓reduceIte, Nat.reduceEqDiff, Nat.reduceLeDiff, Nat.reduceBEq, Nat.reduceAdd, Nat.reduceLT, Nat.reduceSub, Nat.reduceMul, Int.reduceEq, Int.reduceLT, Int.reduceLE, Int.reduceNeg, Int.reduceToNat, List.reduceReplicate, Int.ofNat_le, List.getElem?_drop]
  refine vp_loop (fun m vs h' => ∃ i : Nat, i ≤ xs.length ∧ m = xs.length - i ∧ vs = [.ptr s 0, .fz wl al xs.length rl, .int .i64 xs.length, .int .i64 i] ∧ σ = h' ∧ ∀ j (h : j < xs.length), j < i → El p W.length xs[j]) xs.length ?_ ?_
  · exact ⟨0, by omega, by omega, rfl, rfl, fun j h hj => by omega⟩
  rintro m vs h' ⟨i, hi, rfl, rfl, rfl, hall⟩
  simp only [pwA, if_true, if_false, eq_self, nm_eq, reduceCtorEq, ↓reduceIte, Nat.reduceEqDiff, Nat.reduceLeDiff, Nat.reduceBEq, Nat.reduceAdd, Nat.reduceLT, Nat.reduceSub, Nat.reduceMul, Int.reduceEq, Int.reduceLT, Int.reduceLE, Int.reduceNeg, Int.reduceToNat, List.reduceReplicate, Int.ofNat_le, List.getElem?_drop]
  refine iteI (fun hlt => ?_) fun hge => ?_
  · obtain ⟨w4, a4, hr⟩ := hrl.rowI hlt
    simp only [pwA, if_true, if_false, eq_self, nm_eq, reduceCtorEq, ↓reduceIte, Nat.reduceEqDiff, Nat.reduceLeDiff, Nat.reduceBEq, Nat.reduceAdd, Nat.reduceLT, Nat.reduceSub, Nat.reduceMul, Int.reduceEq, Int.reduceLT, Int.reduceLE, Int.reduceNeg, Int.reduceToNat, List.reduceReplicate, Int.ofNat_le, List.getElem?_drop, hlt, hr, List.getElem?_drop]
    refine isLieElement_ok hs hPP rfl (sz.r _ (List.getElem_mem hlt)) hlie.1.1 ?_
    by_cases hv : isVec xs[i] p W.length
    · simp only [pwA, if_true, if_false, eq_self, nm_eq, reduceCtorEq, ↓reduceIte, Nat.reduceEqDiff, Nat.reduceLeDiff, Nat.reduceBEq, Nat.reduceAdd, Nat.reduceLT, Nat.reduceSub, Nat.reduceMul, Int.reduceEq, Int.reduceLT, Int.reduceLE, Int.reduceNeg, Int.reduceToNat, List.reduceReplicate, Int.ofNat_le, List.getElem?_drop, hv, wrapS hlt (by omega : xs.length ≤ 4611686018427387904)]
      refine ⟨_, by omega, i + 1, by omega, rfl, rfl, fun j h hj => ?_⟩
      by_cases e : j = i
      · subst e; exact isVec_el.1 hv
      · exact hall j h (by omega)
    · simp only [pwA, if_true, if_false, eq_self, nm_eq, reduceCtorEq, ↓reduceIte, Nat.reduceEqDiff, Nat.reduceLeDiff, Nat.reduceBEq, Nat.reduceAdd, Nat.reduceLT, Nat.reduceSub, Nat.reduceMul, Int.reduceEq, Int.reduceLT, Int.reduceLE, Int.reduceNeg, Int.reduceToNat, List.reduceReplicate, Int.ofNat_le, List.getElem?_drop, hv]
      exact hk _ ⟨fun x => (by cases x), fun x => absurd (isVec_el.2 (x.2 _ (List.getElem_mem hlt))) hv⟩
  · refine hk _ ⟨fun _ => ⟨hlie, fun x hx => ?_⟩, fun _ => rfl⟩
    obtain ⟨j, hj, rfl⟩ := List.mem_iff_getElem.1 hx
    exact hall j hj (by omega)
end Go.Proofs
set_option linter.unusedSimpArgs false
set_option linter.unusedVariables false
namespace Go.Proofs
open Go.Ab Go.Lie
variable {σ : PHeap} {K : PV → PHeap → Prop} {p p' : Int} {n : Nat} {W W' : List (List Int)} {B B' : List (List (List Int))} {vP vB vP' vB' vL vL' : PV}
/-- The rest of what a law allows. -/
def left_ (l : Int) : Prop := 0 ≤ l ∧ l ≤ 1048576
theorem szInt64S_ok {l : Int} {xs : List Int} {v : PV} (hI : FI v xs) (hb : xs.length ≤ 9223372036854775807) (hl : left_ l) (hk : ∀ r : Int, (r = -1 ∨ (left_ r ∧ xs.length ≤ 1048576)) → K (.int .i64 r) σ) : PCalls Tryz.prog 42 [v, .int .i64 l] σ K := by
  obtain ⟨w, a, rfl⟩ := hI
  unfold left_ at hl
  refine pcalls_of_vp mix Tryz.func42 cf42 rfl ?_
  dsimp only [if42, qI, eI, nI, qD, eD]
  simp only [pwA, if_true, if_false, eq_self, nm_eq, reduceCtorEq, ↓reduceIte, Nat.reduceEqDiff, Nat.reduceLeDiff, Nat.reduceBEq, Nat.reduceAdd, Nat.reduceLT, Nat.reduceSub, Nat.reduceMul, Int.reduceEq, Int.reduceLT, Int.reduceLE, Int.reduceNeg, Int.reduceToNat, List.reduceReplicate, Int.ofNat_le, List.getElem?_drop, wrap64 (n := l - (xs.length : Int)) (by omega) (by omega)]
  refine iteI (fun h => ?_) fun h => ?_
  · exact hk _ (.inl rfl)
  · exact hk _ (.inr ⟨by unfold left_; omega, by omega⟩)
theorem szInt64SS_ok {l : Int} {xs : List (List Int)} {v : PV} (hI : FII v xs) (hb : xs.length ≤ 9223372036854775807) (hb2 : ∀ x ∈ xs, x.length ≤ 9223372036854775807) (hl : left_ l) (hk : ∀ r : Int, (r = -1 ∨ (left_ r ∧ SzL xs)) → K (.int .i64 r) σ) : PCalls Tryz.prog 21 [v, .int .i64 l] σ K := by
  obtain ⟨w, a, rs, rfl, hr⟩ := hI
  have hl' := hl
  unfold left_ at hl
  refine pcalls_of_vp mix Tryz.func21 cf21 rfl ?_
  dsimp only [if21, qI, eI, nI, qD, eD]
  simp only [pwA, if_true, if_false, eq_self, nm_eq, reduceCtorEq, ↓reduceIte, Nat.reduceEqDiff, Nat.reduceLeDiff, Nat.reduceBEq, Nat.reduceAdd, Nat.reduceLT, Nat.reduceSub, Nat.reduceMul, Int.reduceEq, Int.reduceLT, Int.reduceLE, Int.reduceNeg, Int.reduceToNat, List.reduceReplicate, Int.ofNat_le, List.getElem?_drop, wrap64 (n := l - (xs.length : Int)) (by omega) (by omega)]
  refine iteI (fun h => ?_) fun h => ?_
  · exact hk _ (.inl rfl)
  refine vp_loop (fun m vs h' => ∃ i : Nat, i ≤ xs.length ∧ m = xs.length - i ∧ ∃ r : Int, left_ r ∧ vs = [.fz w a xs.length rs, .int .i64 r, .int .i64 i] ∧ σ = h' ∧ ∀ x ∈ xs.take i, x.length ≤ 1048576) xs.length ?_ ?_
  · exact ⟨0, by omega, by omega, _, (by unfold left_; omega), rfl, rfl, by simp⟩
  rintro m vs h' ⟨i, hi, rfl, r, hr', rfl, rfl, hall⟩
  simp only [pwA, if_true, if_false, eq_self, nm_eq, reduceCtorEq, ↓reduceIte, Nat.reduceEqDiff, Nat.reduceLeDiff, Nat.reduceBEq, Nat.reduceAdd, Nat.reduceLT, Nat.reduceSub, Nat.reduceMul, Int.reduceEq, Int.reduceLT, Int.reduceLE, Int.reduceNeg, Int.reduceToNat, List.reduceReplicate, Int.ofNat_le, List.getElem?_drop]
  refine iteI (fun hlt => ?_) fun hge => ?_
  rotate_left
  · exact hk _ (.inr ⟨hr', by omega, forall_all (by omega) hall⟩)
  obtain ⟨w4, a4, hrk⟩ := hr.rowI hlt
  simp only [pwA, if_true, if_false, eq_self, nm_eq, reduceCtorEq, ↓reduceIte, Nat.reduceEqDiff, Nat.reduceLeDiff, Nat.reduceBEq, Nat.reduceAdd, Nat.reduceLT, Nat.reduceSub, Nat.reduceMul, Int.reduceEq, Int.reduceLT, Int.reduceLE, Int.reduceNeg, Int.reduceToNat, List.reduceReplicate, Int.ofNat_le, List.getElem?_drop, hlt, hrk, List.getElem?_drop]
  refine szInt64S_ok ⟨_, _, rfl⟩ (hb2 _ (List.getElem_mem hlt)) hr' fun r' h => ?_
  rcases h with rfl | ⟨h1, h2⟩
  · simp only [pwA, if_true, if_false, eq_self, nm_eq, reduceCtorEq, ↓reduceIte, Nat.reduceEqDiff, Nat.reduceLeDiff, Nat.reduceBEq, Nat.reduceAdd, Nat.reduceLT, Nat.reduceSub, Nat.reduceMul, Int.reduceEq, Int.reduceLT, Int.reduceLE, Int.reduceNeg, Int.reduceToNat, List.reduceReplicate, Int.ofNat_le, List.getElem?_drop]
    exact hk _ (.inl rfl)
  · have : ¬ r' < 0 := by unfold left_ at h1; omega
    simp only [pwA, if_true, if_false, eq_self, nm_eq, reduceCtorEq, ↓reduceIte, Nat.reduceEqDiff, Nat.reduceLeDiff, Nat.reduceBEq, Nat.reduceAdd, Nat.reduceLT, Nat.reduceSub, Nat.reduceMul, Int.reduceEq, Int.reduceLT, Int.reduceLE, Int.reduceNeg, Int.reduceToNat, List.reduceReplicate, Int.ofNat_le, List.getElem?_drop, this, wrapS hlt (by omega : xs.length ≤ 4611686018427387904)]
    exact ⟨_, by omega, i + 1, by omega, rfl, _, h1, rfl, forallA_snoc hlt hall h2⟩
/-- Sizes of a list of lists of lists. -/
structure SzM (B : List (List (List Int))) : Prop where
  l : B.length ≤ 1048576
  r : ∀ q ∈ B, SzL q
theorem szInt64SSS_ok {l : Int} {xs : List (List (List Int))} {v : PV} (hI : FIII v xs) (hb : xs.length ≤ 9223372036854775807) (hb2 : ∀ q ∈ xs, q.length ≤ 9223372036854775807 ∧ ∀ x ∈ q, x.length ≤ 9223372036854775807) (hl : left_ l) (hk : ∀ r : Int, (r = -1 ∨ (left_ r ∧ SzM xs)) → K (.int .i64 r) σ) : PCalls Tryz.prog 30 [v, .int .i64 l] σ K := by
  obtain ⟨w, a, rs, rfl, hr⟩ := hI
  have hl' := hl
  unfold left_ at hl
  refine pcalls_of_vp mix Tryz.func30 cf30 rfl ?_
  dsimp only [if30, qI, eI, nI, qD, eD]
  simp only [pwA, if_true, if_false, eq_self, nm_eq, reduceCtorEq, ↓reduceIte, Nat.reduceEqDiff, Nat.reduceLeDiff, Nat.reduceBEq, Nat.reduceAdd, Nat.reduceLT, Nat.reduceSub, Nat.reduceMul, Int.reduceEq, Int.reduceLT, Int.reduceLE, Int.reduceNeg, Int.reduceToNat, List.reduceReplicate, Int.ofNat_le, List.getElem?_drop, wrap64 (n := l - (xs.length : Int)) (by omega) (by omega)]
  refine iteI (fun h => ?_) fun h => ?_
  · exact hk _ (.inl rfl)
  refine vp_loop (fun m vs h' => ∃ i : Nat, i ≤ xs.length ∧ m = xs.length - i ∧ ∃ r : Int, left_ r ∧ vs = [.fz w a xs.length rs, .int .i64 r, .int .i64 i] ∧ σ = h' ∧ ∀ x ∈ xs.take i, SzL x) xs.length ?_ ?_
  · exact ⟨0, by omega, by omega, _, (by unfold left_; omega), rfl, rfl, by simp⟩
  rintro m vs h' ⟨i, hi, rfl, r, hr', rfl, rfl, hall⟩
  simp only [pwA, if_true, if_false, eq_self, nm_eq, reduceCtorEq, ↓reduceIte, Nat.reduceEqDiff, Nat.reduceLeDiff, Nat.reduceBEq, Nat.reduceAdd, Nat.reduceLT, Nat.reduceSub, Nat.reduceMul, Int.reduceEq, Int.reduceLT, Int.reduceLE, Int.reduceNeg, Int.reduceToNat, List.reduceReplicate, Int.ofNat_le, List.getElem?_drop]
  refine iteI (fun hlt => ?_) fun hge => ?_
  rotate_left
  · exact hk _ (.inr ⟨hr', by omega, forall_all (by omega) hall⟩)
  obtain ⟨w4, a4, rk, hrk, hrs⟩ := hr.rowL hlt
  have hbi := hb2 _ (List.getElem_mem hlt)
  simp only [pwA, if_true, if_false, eq_self, nm_eq, reduceCtorEq, ↓reduceIte, Nat.reduceEqDiff, Nat.reduceLeDiff, Nat.reduceBEq, Nat.reduceAdd, Nat.reduceLT, Nat.reduceSub, Nat.reduceMul, Int.reduceEq, Int.reduceLT, Int.reduceLE, Int.reduceNeg, Int.reduceToNat, List.reduceReplicate, Int.ofNat_le, List.getElem?_drop, hlt, hrk, List.getElem?_drop]
  refine szInt64SS_ok ⟨_, _, _, rfl, hrs⟩ hbi.1 hbi.2 hr' fun r' h => ?_
  rcases h with rfl | ⟨h1, h2⟩
  · simp only [pwA, if_true, if_false, eq_self, nm_eq, reduceCtorEq, ↓reduceIte, Nat.reduceEqDiff, Nat.reduceLeDiff, Nat.reduceBEq, Nat.reduceAdd, Nat.reduceLT, Nat.reduceSub, Nat.reduceMul, Int.reduceEq, Int.reduceLT, Int.reduceLE, Int.reduceNeg, Int.reduceToNat, List.reduceReplicate, Int.ofNat_le, List.getElem?_drop]
    exact hk _ (.inl rfl)
  · have : ¬ r' < 0 := by unfold left_ at h1; omega
    simp only [pwA, if_true, if_false, eq_self, nm_eq, reduceCtorEq, ↓reduceIte, Nat.reduceEqDiff, Nat.reduceLeDiff, Nat.reduceBEq, Nat.reduceAdd, Nat.reduceLT, Nat.reduceSub, Nat.reduceMul, Int.reduceEq, Int.reduceLT, Int.reduceLE, Int.reduceNeg, Int.reduceToNat, List.reduceReplicate, Int.ofNat_le, List.getElem?_drop, this, wrapS hlt (by omega : xs.length ≤ 4611686018427387904)]
    exact ⟨_, by omega, i + 1, by omega, rfl, _, h1, rfl, forallA_snoc hlt hall h2⟩
/-- Lengths as they may be of what lies in memory. -/
structure MxR (W : List (List Int)) (B : List (List (List Int))) : Prop where
  a : W.length ≤ 9223372036854775807
  b : ∀ x ∈ W, x.length ≤ 9223372036854775807
  c : B.length ≤ 9223372036854775807
  d : ∀ q ∈ B, q.length ≤ 9223372036854775807 ∧ ∀ x ∈ q, x.length ≤ 9223372036854775807
theorem szLieRing_ok {l : Int} (hR : IsR vP vB W B) (mx : MxR W B) (hl : left_ l) (hk : ∀ r : Int, (r = -1 ∨ (left_ r ∧ SzR W B)) → K (.int .i64 r) σ) : PCalls Tryz.prog 7 [.agg [.int .i64 p, vP, vB], .int .i64 l] σ K := by
  have h1 := hR.P.one
  have h2 := hR.B.one
  refine PCalls.gh ?_
  have hkp := keep_new σ [.int .i64 p, vP, vB]
  refine pcalls_of_vp mix Tryz.func7 cf7 rfl ?_
  dsimp only [if7, qI, eI, nI, qD, eD]
  simp only [pwA, if_true, if_false, eq_self, nm_eq, reduceCtorEq, ↓reduceIte, Nat.reduceEqDiff, Nat.reduceLeDiff, Nat.reduceBEq, Nat.reduceAdd, Nat.reduceLT, Nat.reduceSub, Nat.reduceMul, Int.reduceEq, Int.reduceLT, Int.reduceLE, Int.reduceNeg, Int.reduceToNat, List.reduceReplicate, Int.ofNat_le, List.getElem?_drop, h1, h2]
  refine szInt64SS_ok hR.P mx.a mx.b hl fun r h => ?_
  rcases h with rfl | ⟨g1, g2⟩
  · simp only [pwA, if_true, if_false, eq_self, nm_eq, reduceCtorEq, ↓reduceIte, Nat.reduceEqDiff, Nat.reduceLeDiff, Nat.reduceBEq, Nat.reduceAdd, Nat.reduceLT, Nat.reduceSub, Nat.reduceMul, Int.reduceEq, Int.reduceLT, Int.reduceLE, Int.reduceNeg, Int.reduceToNat, List.reduceReplicate, Int.ofNat_le, List.getElem?_drop]
    exact Gh.fin0 hkp trivial (hk _ (.inl rfl))
  have : ¬ r < 0 := by unfold left_ at g1; omega
  simp only [pwA, if_true, if_false, eq_self, nm_eq, reduceCtorEq, ↓reduceIte, Nat.reduceEqDiff, Nat.reduceLeDiff, Nat.reduceBEq, Nat.reduceAdd, Nat.reduceLT, Nat.reduceSub, Nat.reduceMul, Int.reduceEq, Int.reduceLT, Int.reduceLE, Int.reduceNeg, Int.reduceToNat, List.reduceReplicate, Int.ofNat_le, List.getElem?_drop, this, h1, h2]
  refine szInt64SSS_ok hR.B mx.c mx.d g1 fun r' h => ?_
  rcases h with rfl | ⟨g3, g4⟩
  · simp only [pwA, if_true, if_false, eq_self, nm_eq, reduceCtorEq, ↓reduceIte, Nat.reduceEqDiff, Nat.reduceLeDiff, Nat.reduceBEq, Nat.reduceAdd, Nat.reduceLT, Nat.reduceSub, Nat.reduceMul, Int.reduceEq, Int.reduceLT, Int.reduceLE, Int.reduceNeg, Int.reduceToNat, List.reduceReplicate, Int.ofNat_le, List.getElem?_drop]
    exact Gh.fin0 hkp trivial (hk _ (.inl rfl))
  have : ¬ r' < 0 := by unfold left_ at g3; omega
  simp only [pwA, if_true, if_false, eq_self, nm_eq, reduceCtorEq, ↓reduceIte, Nat.reduceEqDiff, Nat.reduceLeDiff, Nat.reduceBEq, Nat.reduceAdd, Nat.reduceLT, Nat.reduceSub, Nat.reduceMul, Int.reduceEq, Int.reduceLT, Int.reduceLE, Int.reduceNeg, Int.reduceToNat, List.reduceReplicate, Int.ofNat_le, List.getElem?_drop, this]
  exact Gh.fin0 hkp trivial (hk _ (.inr ⟨g3, g2.l, g2.r, g4.l, fun q hq => (g4.r q hq).l, fun q hq => (g4.r q hq).r⟩))
theorem toInt64S_ok {v : PV} {xs : List Int} (hI : FI v xs) (hb : xs.length ≤ 1048576) (hk : ∀ cap, full 1 cap xs.length → K (.sl σ.next 0 xs.length cap) (σ.new (pis xs))) : PCalls Tryz.prog 45 [v] σ K := by
  obtain ⟨w, a, rfl⟩ := hI
  refine pcalls_of_vp mix Tryz.func45 cf45 rfl ?_
  dsimp only [if45, qI, eI, nI, qD, eD]
  simp only [pwA, if_true, if_false, eq_self, nm_eq, reduceCtorEq, ↓reduceIte, Nat.reduceEqDiff, Nat.reduceLeDiff, Nat.reduceBEq, Nat.reduceAdd, Nat.reduceLT, Nat.reduceSub, Nat.reduceMul, Int.reduceEq, Int.reduceLT, Int.reduceLE, Int.reduceNeg, Int.reduceToNat, List.reduceReplicate, Int.ofNat_le, List.getElem?_drop, pis_rep, mk8 (n := xs.length) (by omega), mkL (n := xs.length) (by omega)]
  refine vp_loop (fun m vs h' => ∃ i : Nat, i ≤ xs.length ∧ m = xs.length - i ∧ vs = [.fz w a xs.length (pis xs), .sl σ.next 0 xs.length (.known xs.length), .int .i64 i] ∧ h' = σ.new (pis (xs.take i ++ List.replicate (xs.length - i) 0))) xs.length ?_ ?_
  · exact ⟨0, by omega, by omega, rfl, by rw [List.take_zero, List.nil_append, Nat.sub_zero]⟩
  rintro m vs h' ⟨i, hi, rfl, rfl, rfl⟩
  simp only [pwA, if_true, if_false, eq_self, nm_eq, reduceCtorEq, ↓reduceIte, Nat.reduceEqDiff, Nat.reduceLeDiff, Nat.reduceBEq, Nat.reduceAdd, Nat.reduceLT, Nat.reduceSub, Nat.reduceMul, Int.reduceEq, Int.reduceLT, Int.reduceLE, Int.reduceNeg, Int.reduceToNat, List.reduceReplicate, Int.ofNat_le, List.getElem?_drop]
  refine iteI (fun hlt => ?_) fun hge => ?_
  · have hlen : i + 1 ≤ (xs.take i ++ List.replicate (xs.length - i) 0).length := by simp; omega
    simp only [pwA, if_true, if_false, eq_self, nm_eq, reduceCtorEq, ↓reduceIte, Nat.reduceEqDiff, Nat.reduceLeDiff, Nat.reduceBEq, Nat.reduceAdd, Nat.reduceLT, Nat.reduceSub, Nat.reduceMul, Int.reduceEq, Int.reduceLT, Int.reduceLE, Int.reduceNeg, Int.reduceToNat, List.reduceReplicate, Int.ofNat_le, List.getElem?_drop, hlt, gi hlt, pis_get, pis_length, List.getElem?_drop, hlen, wrapS hlt (by omega : xs.length ≤ 4611686018427387904)]
    refine ⟨_, by omega, i + 1, by omega, rfl, rfl, ?_⟩
    rw [pis_set_at (by omega), take_set_rep xs 0 hlt]
  · have hie : i = xs.length := by omega
    subst hie
    rw [List.take_length, Nat.sub_self, List.replicate_zero, List.append_nil]
    exact hk _ (.inr rfl)
theorem toInt64S_fz {v : PV} {xs : List Int} (hI : FI v xs) (hb : xs.length ≤ 1048576) (hk : ∀ v, FI v xs → K v σ) : PCalls Tryz.prog 45 [v] σ K :=
  PCalls.fz (fun K' => toInt64S_ok hI hb) (pis_bel _ _) fun o cap => hk _ ⟨_, _, rfl⟩
/-- A list of values, one written behind those that are there. -/
theorem rows_set {rows : List PV} {z r : PV} {n i : Nat} (hl : rows.length = i) (hi : i < n) : (rows ++ List.replicate (n - i) z).take i ++ [r] ++ (rows ++ List.replicate (n - i) z).drop (i + 1) = (rows ++ [r]) ++ List.replicate (n - (i + 1)) z := by
  rw [List.take_append_of_le_length (by omega), List.take_of_length_le (by omega), List.drop_append, List.drop_eq_nil_of_le (by omega), List.nil_append, hl]
  congr 1
  obtain ⟨k, hk⟩ : ∃ k, n - i = k + 1 := ⟨n - i - 1, by omega⟩
  rw [hk, show i + 1 - i = 1 by omega, List.replicate_succ, List.drop_succ_cons, List.drop_zero]
  congr 1; omega
theorem toInt64SS_fz {v : PV} {xs : List (List Int)} (hI : FII v xs) (sz : SzL xs) (hk : ∀ v, FII v xs → K v σ) : PCalls Tryz.prog 23 [v] σ K := by
  obtain ⟨w, a, rs, rfl, hr⟩ := hI
  have hb := sz.l
  refine PCalls.gh ?_
  refine pcalls_of_vp mix Tryz.func23 cf23 rfl ?_
  dsimp only [if23, qI, eI, nI, qD, eD]
  simp only [pwA, if_true, if_false, eq_self, nm_eq, reduceCtorEq, ↓reduceIte, Nat.reduceEqDiff, Nat.reduceLeDiff, Nat.reduceBEq, Nat.reduceAdd, Nat.reduceLT, Nat.reduceSub, Nat.reduceMul, Int.reduceEq, Int.reduceLT, Int.reduceLE, Int.reduceNeg, Int.reduceToNat, List.reduceReplicate, Int.ofNat_le, List.getElem?_drop, mk24 (n := xs.length) (by omega), mkL (n := xs.length) (by omega)]
  refine vp_loop (fun m vs h' => ∃ i : Nat, i ≤ xs.length ∧ m = xs.length - i ∧ vs = [.fz w a xs.length rs, .sl σ.next 0 xs.length (.known xs.length), .int .i64 i] ∧ ∃ rows : List PV, rows.length = i ∧ All2 FI rows (xs.take i) ∧ h' = σ.new (rows ++ List.replicate (xs.length - i) (.fz true .nils 0 []))) xs.length ?_ ?_
  · exact ⟨0, by omega, by omega, rfl, [], rfl, by simpa using All2.nil _, by simp⟩
  rintro m vs h' ⟨i, hi, rfl, rfl, rows, hrl, hra, rfl⟩
  simp only [pwA, if_true, if_false, eq_self, nm_eq, reduceCtorEq, ↓reduceIte, Nat.reduceEqDiff, Nat.reduceLeDiff, Nat.reduceBEq, Nat.reduceAdd, Nat.reduceLT, Nat.reduceSub, Nat.reduceMul, Int.reduceEq, Int.reduceLT, Int.reduceLE, Int.reduceNeg, Int.reduceToNat, List.reduceReplicate, Int.ofNat_le, List.getElem?_drop]
  refine iteI (fun hlt => ?_) fun hge => ?_
  · obtain ⟨w4, a4, hrk⟩ := hr.rowI hlt
    simp only [pwA, if_true, if_false, eq_self, nm_eq, reduceCtorEq, ↓reduceIte, Nat.reduceEqDiff, Nat.reduceLeDiff, Nat.reduceBEq, Nat.reduceAdd, Nat.reduceLT, Nat.reduceSub, Nat.reduceMul, Int.reduceEq, Int.reduceLT, Int.reduceLE, Int.reduceNeg, Int.reduceToNat, List.reduceReplicate, Int.ofNat_le, List.getElem?_drop, hlt, hrk, List.getElem?_drop]
    refine toInt64S_fz ⟨_, _, rfl⟩ (sz.r _ (List.getElem_mem hlt)) fun r hr' => ?_
    have hlen : i + 1 ≤ (rows ++ List.replicate (xs.length - i) (PV.fz true .nils 0 [])).length := by simp; omega
    simp only [pwA, if_true, if_false, eq_self, nm_eq, reduceCtorEq, ↓reduceIte, Nat.reduceEqDiff, Nat.reduceLeDiff, Nat.reduceBEq, Nat.reduceAdd, Nat.reduceLT, Nat.reduceSub, Nat.reduceMul, Int.reduceEq, Int.reduceLT, Int.reduceLE, Int.reduceNeg, Int.reduceToNat, List.reduceReplicate, Int.ofNat_le, List.getElem?_drop, hlt, hlen, hr'.cells, hr'.one, wrapS hlt (by omega : xs.length ≤ 4611686018427387904)]
    refine ⟨_, by omega, i + 1, by omega, rfl, rfl, rows ++ [r], by simp [hrl], ?_, ?_⟩
    · rw [List.take_succ_eq_append_getElem hlt]; exact hra.snoc hr'
    · rw [rows_set hrl hlt]
  · have hie : i = xs.length := by omega
    subst hie
    rw [List.take_length] at hra
    rw [Nat.sub_self, List.replicate_zero, List.append_nil]
    exact Gh.finF (keep_new σ _) (by simp only [pwA, if_true, if_false, eq_self, nm_eq, reduceCtorEq, ↓reduceIte, Nat.reduceEqDiff, Nat.reduceLeDiff, Nat.reduceBEq, Nat.reduceAdd, Nat.reduceLT, Nat.reduceSub, Nat.reduceMul, Int.reduceEq, Int.reduceLT, Int.reduceLE, Int.reduceNeg, Int.reduceToNat, List.reduceReplicate, Int.ofNat_le, List.getElem?_drop]) (Nat.le_refl _) (hra.bI 0) (by simp [capOK]) fun o => hk _ ⟨_, _, _, rfl, hra⟩
theorem toInt64SSS_fz {v : PV} {xs : List (List (List Int))} (hI : FIII v xs) (sz : SzM xs) (hk : ∀ v, FIII v xs → K v σ) : PCalls Tryz.prog 33 [v] σ K := by
  obtain ⟨w, a, rs, rfl, hr⟩ := hI
  have hb := sz.l
  refine PCalls.gh ?_
  refine pcalls_of_vp mix Tryz.func33 cf33 rfl ?_
  dsimp only [if33, qI, eI, nI, qD, eD]
  simp only [pwA, if_true, if_false, eq_self, nm_eq, reduceCtorEq, ↓reduceIte, Nat.reduceEqDiff, Nat.reduceLeDiff, Nat.reduceBEq, Nat.reduceAdd, Nat.reduceLT, Nat.reduceSub, Nat.reduceMul, Int.reduceEq, Int.reduceLT, Int.reduceLE, Int.reduceNeg, Int.reduceToNat, List.reduceReplicate, Int.ofNat_le, List.getElem?_drop, mk24 (n := xs.length) (by omega), mkL (n := xs.length) (by omega)]
  refine vp_loop (fun m vs h' => ∃ i : Nat, i ≤ xs.length ∧ m = xs.length - i ∧ vs = [.fz w a xs.length rs, .sl σ.next 0 xs.length (.known xs.length), .int .i64 i] ∧ ∃ rows : List PV, rows.length = i ∧ All2 FII rows (xs.take i) ∧ h' = σ.new (rows ++ List.replicate (xs.length - i) (.fz true .nils 0 []))) xs.length ?_ ?_
  · exact ⟨0, by omega, by omega, rfl, [], rfl, by simpa using All2.nil _, by simp⟩
  rintro m vs h' ⟨i, hi, rfl, rfl, rows, hrl, hra, rfl⟩
  simp only [pwA, if_true, if_false, eq_self, nm_eq, reduceCtorEq, ↓reduceIte, Nat.reduceEqDiff, Nat.reduceLeDiff, Nat.reduceBEq, Nat.reduceAdd, Nat.reduceLT, Nat.reduceSub, Nat.reduceMul, Int.reduceEq, Int.reduceLT, Int.reduceLE, Int.reduceNeg, Int.reduceToNat, List.reduceReplicate, Int.ofNat_le, List.getElem?_drop]
  refine iteI (fun hlt => ?_) fun hge => ?_
  · obtain ⟨w4, a4, rk, hrk, hrs⟩ := hr.rowL hlt
    simp only [pwA, if_true, if_false, eq_self, nm_eq, reduceCtorEq, ↓reduceIte, Nat.reduceEqDiff, Nat.reduceLeDiff, Nat.reduceBEq, Nat.reduceAdd, Nat.reduceLT, Nat.reduceSub, Nat.reduceMul, Int.reduceEq, Int.reduceLT, Int.reduceLE, Int.reduceNeg, Int.reduceToNat, List.reduceReplicate, Int.ofNat_le, List.getElem?_drop, hlt, hrk, List.getElem?_drop]
    refine toInt64SS_fz ⟨_, _, _, rfl, hrs⟩ (sz.r _ (List.getElem_mem hlt)) fun r hr' => ?_
    have hlen : i + 1 ≤ (rows ++ List.replicate (xs.length - i) (PV.fz true .nils 0 [])).length := by simp; omega
    simp only [pwA, if_true, if_false, eq_self, nm_eq, reduceCtorEq, ↓reduceIte, Nat.reduceEqDiff, Nat.reduceLeDiff, Nat.reduceBEq, Nat.reduceAdd, Nat.reduceLT, Nat.reduceSub, Nat.reduceMul, Int.reduceEq, Int.reduceLT, Int.reduceLE, Int.reduceNeg, Int.reduceToNat, List.reduceReplicate, Int.ofNat_le, List.getElem?_drop, hlt, hlen, hr'.cells, hr'.one, wrapS hlt (by omega : xs.length ≤ 4611686018427387904)]
    refine ⟨_, by omega, i + 1, by omega, rfl, rfl, rows ++ [r], by simp [hrl], ?_, ?_⟩
    · rw [List.take_succ_eq_append_getElem hlt]; exact hra.snoc hr'
    · rw [rows_set hrl hlt]
  · have hie : i = xs.length := by omega
    subst hie
    rw [List.take_length] at hra
    rw [Nat.sub_self, List.replicate_zero, List.append_nil]
    exact Gh.finF (keep_new σ _) (by simp only [pwA, if_true, if_false, eq_self, nm_eq, reduceCtorEq, ↓reduceIte, Nat.reduceEqDiff, Nat.reduceLeDiff, Nat.reduceBEq, Nat.reduceAdd, Nat.reduceLT, Nat.reduceSub, Nat.reduceMul, Int.reduceEq, Int.reduceLT, Int.reduceLE, Int.reduceNeg, Int.reduceToNat, List.reduceReplicate, Int.ofNat_le, List.getElem?_drop]) (Nat.le_refl _) (hra.bL 0) (by simp [capOK]) fun o => hk _ ⟨_, _, _, rfl, hra⟩
theorem SzR.L (sz : SzR W B) : SzL W := ⟨sz.Wl, sz.w⟩
theorem SzR.M (sz : SzR W B) : SzM B := ⟨sz.Bl, fun q hq => ⟨sz.b q hq, sz.c q hq⟩⟩
theorem toLieRing_fz (hR : IsR vP vB W B) (sz : SzR W B) (hk : ∀ vP vB, IsR vP vB W B → K (.agg [.int .i64 p, vP, vB]) σ) : PCalls Tryz.prog 9 [.agg [.int .i64 p, vP, vB]] σ K := by
  have h1 := hR.P.one
  have h2 := hR.B.one
  refine PCalls.gh ?_
  refine pcalls_of_vp mix Tryz.func9 cf9 rfl ?_
  dsimp only [if9, qI, eI, nI, qD, eD]
  simp only [pwA, if_true, if_false, eq_self, nm_eq, reduceCtorEq, ↓reduceIte, Nat.reduceEqDiff, Nat.reduceLeDiff, Nat.reduceBEq, Nat.reduceAdd, Nat.reduceLT, Nat.reduceSub, Nat.reduceMul, Int.reduceEq, Int.reduceLT, Int.reduceLE, Int.reduceNeg, Int.reduceToNat, List.reduceReplicate, Int.ofNat_le, List.getElem?_drop, h1, h2]
  refine toInt64SS_fz hR.P sz.L fun v1 hv1 => ?_
  simp only [pwA, if_true, if_false, eq_self, nm_eq, reduceCtorEq, ↓reduceIte, Nat.reduceEqDiff, Nat.reduceLeDiff, Nat.reduceBEq, Nat.reduceAdd, Nat.reduceLT, Nat.reduceSub, Nat.reduceMul, Int.reduceEq, Int.reduceLT, Int.reduceLE, Int.reduceNeg, Int.reduceToNat, List.reduceReplicate, Int.ofNat_le, List.getElem?_drop, hv1.cells, hv1.one]
  refine toInt64SSS_fz hR.B sz.M fun v2 hv2 => ?_
  simp only [pwA, if_true, if_false, eq_self, nm_eq, reduceCtorEq, ↓reduceIte, Nat.reduceEqDiff, Nat.reduceLeDiff, Nat.reduceBEq, Nat.reduceAdd, Nat.reduceLT, Nat.reduceSub, Nat.reduceMul, Int.reduceEq, Int.reduceLT, Int.reduceLE, Int.reduceNeg, Int.reduceToNat, List.reduceReplicate, Int.ofNat_le, List.getElem?_drop, hv2.cells, hv2.one, hv1.one]
  exact Gh.fin0 (v := .agg [.int .i64 p, v1, v2]) (((keep_new σ _).new _).new _) ⟨trivial, hv1.bel _, hv2.bel _, trivial⟩ (hk v1 v2 ⟨hv1, hv2⟩)
theorem eqInt64S_ok {v v' : PV} {xs ys : List Int} (hI : FI v xs) (hI' : FI v' ys) (hb : xs.length ≤ 4611686018427387904) (hk : K (.bool (decide (xs = ys))) σ) : PCalls Tryz.prog 36 [v, v'] σ K := by
  obtain ⟨w, a, rfl⟩ := hI
  obtain ⟨w', a', rfl⟩ := hI'
  refine pcalls_of_vp mix Tryz.func36 cf36 rfl ?_
  dsimp only [if36, qI, eI, nI, qD, eD]
  simp only [pwA, if_true, if_false, eq_self, nm_eq, reduceCtorEq, ↓reduceIte, Nat.reduceEqDiff, Nat.reduceLeDiff, Nat.reduceBEq, Nat.reduceAdd, Nat.reduceLT, Nat.reduceSub, Nat.reduceMul, Int.reduceEq, Int.reduceLT, Int.reduceLE, Int.reduceNeg, Int.reduceToNat, List.reduceReplicate, Int.ofNat_le, List.getElem?_drop]
  refine iteI (fun hl => ?_) fun hl => ?_
  rotate_left
  · exact pkf hk fun hv => hl (by rw [hv])
  have hl : xs.length = ys.length := by omega
  refine vp_loop (fun m vs h' => ∃ i : Nat, i ≤ xs.length ∧ m = xs.length - i ∧ vs = [.fz w a xs.length (pis xs), .fz w' a' ys.length (pis ys), .int .i64 i] ∧ σ = h' ∧ xs.take i = ys.take i) xs.length ?_ ?_
  · exact ⟨0, by omega, by omega, rfl, rfl, by simp⟩
  rintro m vs h' ⟨i, hi, rfl, rfl, rfl, hall⟩
  simp only [pwA, if_true, if_false, eq_self, nm_eq, reduceCtorEq, ↓reduceIte, Nat.reduceEqDiff, Nat.reduceLeDiff, Nat.reduceBEq, Nat.reduceAdd, Nat.reduceLT, Nat.reduceSub, Nat.reduceMul, Int.reduceEq, Int.reduceLT, Int.reduceLE, Int.reduceNeg, Int.reduceToNat, List.reduceReplicate, Int.ofNat_le, List.getElem?_drop]
  refine iteI (fun hlt => ?_) fun hge => ?_
  · have hlt2 : i < ys.length := by omega
    simp only [pwA, if_true, if_false, eq_self, nm_eq, reduceCtorEq, ↓reduceIte, Nat.reduceEqDiff, Nat.reduceLeDiff, Nat.reduceBEq, Nat.reduceAdd, Nat.reduceLT, Nat.reduceSub, Nat.reduceMul, Int.reduceEq, Int.reduceLT, Int.reduceLE, Int.reduceNeg, Int.reduceToNat, List.reduceReplicate, Int.ofNat_le, List.getElem?_drop, hlt, hlt2, List.getElem?_drop, pis_get, gi hlt, gi hlt2]
    refine iteI (fun h0 => ?_) fun hn => ?_
    · simp only [pwA, if_true, if_false, eq_self, nm_eq, reduceCtorEq, ↓reduceIte, Nat.reduceEqDiff, Nat.reduceLeDiff, Nat.reduceBEq, Nat.reduceAdd, Nat.reduceLT, Nat.reduceSub, Nat.reduceMul, Int.reduceEq, Int.reduceLT, Int.reduceLE, Int.reduceNeg, Int.reduceToNat, List.reduceReplicate, Int.ofNat_le, List.getElem?_drop, wrapS hlt hb]
      exact ⟨_, by omega, i + 1, by omega, rfl, rfl, eqList hl hlt hall h0⟩
    · exact pkf hk fun hv => hn (by subst hv; rfl)
  · refine pkt hk ?_
    rwa [List.take_of_length_le (by omega), List.take_of_length_le (by omega)] at hall
theorem eqTake {α : Type} {xs ys : List α} (hl : xs.length = ys.length) {i : Nat} (hi : i < xs.length) (h : xs.take i = ys.take i) (he : xs[i] = ys[i]'(by omega)) : xs.take (i + 1) = ys.take (i + 1) := by
  rw [List.take_succ_eq_append_getElem hi, List.take_succ_eq_append_getElem (by omega : i < ys.length), h, he]
theorem eqInt64SS_ok {v v' : PV} {xs ys : List (List Int)} (hI : FII v xs) (hI' : FII v' ys) (sz : SzL xs) (hk : ∀ t : Bool, (t = true ↔ xs = ys) → K (.bool t) σ) : PCalls Tryz.prog 25 [v, v'] σ K := by
  obtain ⟨w, a, rs, rfl, hr⟩ := hI
  obtain ⟨w', a', rs', rfl, hr'⟩ := hI'
  have hb := sz.l
  have fl : ∀ {A : Prop}, ¬ A → ((false = true) ↔ A) := fun h => ⟨fun x => (by cases x), fun x => absurd x h⟩
  refine pcalls_of_vp mix Tryz.func25 cf25 rfl ?_
  dsimp only [if25, qI, eI, nI, qD, eD]
  simp only [pwA, if_true, if_false, eq_self, nm_eq, reduceCtorEq, ↓reduceIte, Nat.reduceEqDiff, Nat.reduceLeDiff, Nat.reduceBEq, Nat.reduceAdd, Nat.reduceLT, Nat.reduceSub, Nat.reduceMul, Int.reduceEq, Int.reduceLT, Int.reduceLE, Int.reduceNeg, Int.reduceToNat, List.reduceReplicate, Int.ofNat_le, List.getElem?_drop]
  refine iteI (fun hl => ?_) fun hl => ?_
  rotate_left
  · exact hk _ (fl fun hv => hl (by rw [hv]))
  have hl : xs.length = ys.length := by omega
  refine vp_loop (fun m vs h' => ∃ i : Nat, i ≤ xs.length ∧ m = xs.length - i ∧ vs = [.fz w a xs.length rs, .fz w' a' ys.length rs', .int .i64 i] ∧ σ = h' ∧ xs.take i = ys.take i) xs.length ?_ ?_
  · exact ⟨0, by omega, by omega, rfl, rfl, by simp⟩
  rintro m vs h' ⟨i, hi, rfl, rfl, rfl, hall⟩
  simp only [pwA, if_true, if_false, eq_self, nm_eq, reduceCtorEq, ↓reduceIte, Nat.reduceEqDiff, Nat.reduceLeDiff, Nat.reduceBEq, Nat.reduceAdd, Nat.reduceLT, Nat.reduceSub, Nat.reduceMul, Int.reduceEq, Int.reduceLT, Int.reduceLE, Int.reduceNeg, Int.reduceToNat, List.reduceReplicate, Int.ofNat_le, List.getElem?_drop]
  refine iteI (fun hlt => ?_) fun hge => ?_
  · have hlt2 : i < ys.length := by omega
    obtain ⟨w4, a4, h4⟩ := hr.rowI hlt
    obtain ⟨w5, a5, h5⟩ := hr'.rowI hlt2
    simp only [pwA, if_true, if_false, eq_self, nm_eq, reduceCtorEq, ↓reduceIte, Nat.reduceEqDiff, Nat.reduceLeDiff, Nat.reduceBEq, Nat.reduceAdd, Nat.reduceLT, Nat.reduceSub, Nat.reduceMul, Int.reduceEq, Int.reduceLT, Int.reduceLE, Int.reduceNeg, Int.reduceToNat, List.reduceReplicate, Int.ofNat_le, List.getElem?_drop, hlt, hlt2, List.getElem?_drop, h4, h5]
    refine eqInt64S_ok ⟨_, _, rfl⟩ ⟨_, _, rfl⟩ (by have := sz.r _ (List.getElem_mem hlt); omega) ?_
    by_cases he : xs[i] = ys[i]
    · simp only [pwA, if_true, if_false, eq_self, nm_eq, reduceCtorEq, ↓reduceIte, Nat.reduceEqDiff, Nat.reduceLeDiff, Nat.reduceBEq, Nat.reduceAdd, Nat.reduceLT, Nat.reduceSub, Nat.reduceMul, Int.reduceEq, Int.reduceLT, Int.reduceLE, Int.reduceNeg, Int.reduceToNat, List.reduceReplicate, Int.ofNat_le, List.getElem?_drop, eq_true he, wrapS hlt (by omega : xs.length ≤ 4611686018427387904)]
      exact ⟨_, by omega, i + 1, by omega, rfl, rfl, eqTake hl hlt hall he⟩
    · simp only [pwA, if_true, if_false, eq_self, nm_eq, reduceCtorEq, ↓reduceIte, Nat.reduceEqDiff, Nat.reduceLeDiff, Nat.reduceBEq, Nat.reduceAdd, Nat.reduceLT, Nat.reduceSub, Nat.reduceMul, Int.reduceEq, Int.reduceLT, Int.reduceLE, Int.reduceNeg, Int.reduceToNat, List.reduceReplicate, Int.ofNat_le, List.getElem?_drop, he]
      exact hk _ (fl fun hv => he (by subst hv; rfl))
  · refine hk _ ⟨fun _ => ?_, fun _ => rfl⟩
    rwa [List.take_of_length_le (by omega), List.take_of_length_le (by omega)] at hall
theorem eqInt64SSS_ok {v v' : PV} {xs ys : List (List (List Int))} (hI : FIII v xs) (hI' : FIII v' ys) (sz : SzM xs) (hk : ∀ t : Bool, (t = true ↔ xs = ys) → K (.bool t) σ) : PCalls Tryz.prog 37 [v, v'] σ K := by
  obtain ⟨w, a, rs, rfl, hr⟩ := hI
  obtain ⟨w', a', rs', rfl, hr'⟩ := hI'
  have hb := sz.l
  have fl : ∀ {A : Prop}, ¬ A → ((false = true) ↔ A) := fun h => ⟨fun x => (by cases x), fun x => absurd x h⟩
  refine pcalls_of_vp mix Tryz.func37 cf37 rfl ?_
  dsimp only [if37, qI, eI, nI, qD, eD]
  simp only [pwA, if_true, if_false, eq_self, nm_eq, reduceCtorEq, ↓reduceIte, Nat.reduceEqDiff, Nat.reduceLeDiff, Nat.reduceBEq, Nat.reduceAdd, Nat.reduceLT, Nat.reduceSub, Nat.reduceMul, Int.reduceEq, Int.reduceLT, Int.reduceLE, Int.reduceNeg, Int.reduceToNat, List.reduceReplicate, Int.ofNat_le, List.getElem?_drop]
  refine iteI (fun hl => ?_) fun hl => ?_
  rotate_left
  · exact hk _ (fl fun hv => hl (by rw [hv]))
  have hl : xs.length = ys.length := by omega
  refine vp_loop (fun m vs h' => ∃ i : Nat, i ≤ xs.length ∧ m = xs.length - i ∧ vs = [.fz w a xs.length rs, .fz w' a' ys.length rs', .int .i64 i] ∧ σ = h' ∧ xs.take i = ys.take i) xs.length ?_ ?_
  · exact ⟨0, by omega, by omega, rfl, rfl, by simp⟩
  rintro m vs h' ⟨i, hi, rfl, rfl, rfl, hall⟩
  simp only [pwA, if_true, if_false, eq_self, nm_eq, reduceCtorEq, ↓reduceIte, Nat.reduceEqDiff, Nat.reduceLeDiff, Nat.reduceBEq, Nat.reduceAdd, Nat.reduceLT, Nat.reduceSub, Nat.reduceMul, Int.reduceEq, Int.reduceLT, Int.reduceLE, Int.reduceNeg, Int.reduceToNat, List.reduceReplicate, Int.ofNat_le, List.getElem?_drop]
  refine iteI (fun hlt => ?_) fun hge => ?_
  · have hlt2 : i < ys.length := by omega
    obtain ⟨w4, a4, r4, h4, g4⟩ := hr.rowL hlt
    obtain ⟨w5, a5, r5, h5, g5⟩ := hr'.rowL hlt2
    simp only [pwA, if_true, if_false, eq_self, nm_eq, reduceCtorEq, ↓reduceIte, Nat.reduceEqDiff, Nat.reduceLeDiff, Nat.reduceBEq, Nat.reduceAdd, Nat.reduceLT, Nat.reduceSub, Nat.reduceMul, Int.reduceEq, Int.reduceLT, Int.reduceLE, Int.reduceNeg, Int.reduceToNat, List.reduceReplicate, Int.ofNat_le, List.getElem?_drop, hlt, hlt2, List.getElem?_drop, h4, h5]
    refine eqInt64SS_ok ⟨_, _, _, rfl, g4⟩ ⟨_, _, _, rfl, g5⟩ (sz.r _ (List.getElem_mem hlt)) fun t ht => ?_
    cases t with
    | true =>
      simp only [pwA, if_true, if_false, eq_self, nm_eq, reduceCtorEq, ↓reduceIte, Nat.reduceEqDiff, Nat.reduceLeDiff, Nat.reduceBEq, Nat.reduceAdd, Nat.reduceLT, Nat.reduceSub, Nat.reduceMul, Int.reduceEq, Int.reduceLT, Int.reduceLE, Int.reduceNeg, Int.reduceToNat, List.reduceReplicate, Int.ofNat_le, List.getElem?_drop, wrapS hlt (by omega : xs.length ≤ 4611686018427387904)]
      exact ⟨_, by omega, i + 1, by omega, rfl, rfl, eqTake hl hlt hall (ht.1 rfl)⟩
    | false =>
      simp only [pwA, if_true, if_false, eq_self, nm_eq, reduceCtorEq, ↓reduceIte, Nat.reduceEqDiff, Nat.reduceLeDiff, Nat.reduceBEq, Nat.reduceAdd, Nat.reduceLT, Nat.reduceSub, Nat.reduceMul, Int.reduceEq, Int.reduceLT, Int.reduceLE, Int.reduceNeg, Int.reduceToNat, List.reduceReplicate, Int.ofNat_le, List.getElem?_drop]
      exact hk _ (fl fun hv => by subst hv; cases ht.2 rfl)
  · refine hk _ ⟨fun _ => ?_, fun _ => rfl⟩
    rwa [List.take_of_length_le (by omega), List.take_of_length_le (by omega)] at hall
theorem eqLieRing_ok (hR : IsR vP vB W B) (hR' : IsR vP' vB' W' B') (sz : SzR W B) (hk : ∀ t : Bool, (t = true ↔ p = p' ∧ W = W' ∧ B = B') → K (.bool t) σ) : PCalls Tryz.prog 12 [.agg [.int .i64 p, vP, vB], .agg [.int .i64 p', vP', vB']] σ K := by
  have h1 := hR.P.one
  have h2 := hR.B.one
  have h1' := hR'.P.one
  have h2' := hR'.B.one
  refine PCalls.gh ?_
  have hkp : Keep σ ((σ.new [.int .i64 p, vP, vB]).new [.int .i64 p', vP', vB']) := (keep_new σ _).new _
  have fin : ∀ {t : Bool}, (t = true ↔ p = p' ∧ W = W' ∧ B = B') → Gh σ K (.bool t) ((σ.new [.int .i64 p, vP, vB]).new [.int .i64 p', vP', vB']) := fun h => Gh.fin0 hkp trivial (hk _ h)
  have fl : ∀ {A : Prop}, ¬ A → ((false = true) ↔ A) := fun h => ⟨fun x => (by cases x), fun x => absurd x h⟩
  refine pcalls_of_vp mix Tryz.func12 cf12 rfl ?_
  dsimp only [if12, qI, eI, nI, qD, eD]
  by_cases hp : p = p'
  rotate_left
  · simp only [pwA, if_true, if_false, eq_self, nm_eq, reduceCtorEq, ↓reduceIte, Nat.reduceEqDiff, Nat.reduceLeDiff, Nat.reduceBEq, Nat.reduceAdd, Nat.reduceLT, Nat.reduceSub, Nat.reduceMul, Int.reduceEq, Int.reduceLT, Int.reduceLE, Int.reduceNeg, Int.reduceToNat, List.reduceReplicate, Int.ofNat_le, List.getElem?_drop, h1, h2, h1', h2', hp]
    exact fin (fl fun h => hp h.1)
  simp only [pwA, if_true, if_false, eq_self, nm_eq, reduceCtorEq, ↓reduceIte, Nat.reduceEqDiff, Nat.reduceLeDiff, Nat.reduceBEq, Nat.reduceAdd, Nat.reduceLT, Nat.reduceSub, Nat.reduceMul, Int.reduceEq, Int.reduceLT, Int.reduceLE, Int.reduceNeg, Int.reduceToNat, List.reduceReplicate, Int.ofNat_le, List.getElem?_drop, h1, h2, h1', h2', hp]
  refine eqInt64SS_ok hR.P hR'.P sz.L fun t ht => ?_
  cases t with
  | false =>
    simp only [pwA, if_true, if_false, eq_self, nm_eq, reduceCtorEq, ↓reduceIte, Nat.reduceEqDiff, Nat.reduceLeDiff, Nat.reduceBEq, Nat.reduceAdd, Nat.reduceLT, Nat.reduceSub, Nat.reduceMul, Int.reduceEq, Int.reduceLT, Int.reduceLE, Int.reduceNeg, Int.reduceToNat, List.reduceReplicate, Int.ofNat_le, List.getElem?_drop]
    have := fin (fl fun h : p = p' ∧ W = W' ∧ B = B' => by cases ht.2 h.2.1)
    rw [hp] at this
    exact this
  | true =>
  simp only [pwA, if_true, if_false, eq_self, nm_eq, reduceCtorEq, ↓reduceIte, Nat.reduceEqDiff, Nat.reduceLeDiff, Nat.reduceBEq, Nat.reduceAdd, Nat.reduceLT, Nat.reduceSub, Nat.reduceMul, Int.reduceEq, Int.reduceLT, Int.reduceLE, Int.reduceNeg, Int.reduceToNat, List.reduceReplicate, Int.ofNat_le, List.getElem?_drop]
  refine eqInt64SSS_ok hR.B hR'.B sz.M fun t ht' => ?_
  have := fin (t := t) ⟨fun h => ⟨hp, ht.1 rfl, ht'.1 h⟩, fun h => ht'.2 h.2.2⟩
  rw [hp] at this
  cases t with
  | false =>
    simp only [pwA, if_true, if_false, eq_self, nm_eq, reduceCtorEq, ↓reduceIte, Nat.reduceEqDiff, Nat.reduceLeDiff, Nat.reduceBEq, Nat.reduceAdd, Nat.reduceLT, Nat.reduceSub, Nat.reduceMul, Int.reduceEq, Int.reduceLT, Int.reduceLE, Int.reduceNeg, Int.reduceToNat, List.reduceReplicate, Int.ofNat_le, List.getElem?_drop]
    exact this
  | true =>
    simp only [pwA, if_true, if_false, eq_self, nm_eq, reduceCtorEq, ↓reduceIte, Nat.reduceEqDiff, Nat.reduceLeDiff, Nat.reduceBEq, Nat.reduceAdd, Nat.reduceLT, Nat.reduceSub, Nat.reduceMul, Int.reduceEq, Int.reduceLT, Int.reduceLE, Int.reduceNeg, Int.reduceToNat, List.reduceReplicate, Int.ofNat_le, List.getElem?_drop]
    exact this
end Go.Proofs
