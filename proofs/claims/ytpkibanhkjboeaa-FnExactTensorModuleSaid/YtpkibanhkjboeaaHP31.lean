/- What a law does with modules; modules are recognised on both sides. -/
import Derived.Test.YtpkibanhkjboeaaHP29
import Derived.Test.YtpkibanhkjboeaaHAbPz
import Derived.Test.YtpkibanhkjboeaaHP28
set_option linter.unusedSimpArgs false
set_option linter.unusedVariables false
namespace Go.Proofs
open Go.Ab Go.Lie Go.Grp Go.Mx
variable {σ : PHeap} {K : PV → PHeap → Prop} {p : Int} {n : Nat} {v w xs ys : List Int} {A M : List (List Int)} {vA vM vv v0 : PV}
theorem td_set {α : Type} {a b : List α} {i : Nat} (hl : a.length = b.length) (hi : i < a.length) : (a.take i ++ b.drop i).set i a[i] = a.take (i + 1) ++ b.drop (i + 1) := by
  have h1 : (a.take i).length = i := by rw [List.length_take]; omega
  rw [List.set_append_right _ _ (by omega), h1, Nat.sub_self, List.drop_eq_getElem_cons (by omega : i < b.length), List.set_cons_zero, List.take_succ_eq_append_getElem hi, List.append_assoc]
  rfl
theorem td_get {α : Type} {a b : List α} {i : Nat} (hl : a.length = b.length) (hi : i < b.length) : (a.take i ++ b.drop i)[i]? = some b[i] := by
  have h1 : (a.take i).length = i := by rw [List.length_take]; omega
  rw [List.getElem?_append_right (by omega), h1, List.getElem?_drop, Nat.sub_self, Nat.add_zero, List.getElem?_eq_getElem hi]
theorem vstep_get {x : Int} {r out : List Int} (h : r.length = out.length) {j : Nat} (hj : j < out.length) : (vstep p x r out)[j]'(by rw [vstep_length h]; exact hj) = (out[j] + x * r[j]) % p := by
  simp [vstep]
/-- Small numbers. -/
def sm2 (x : Int) : Prop := -1000000000 ≤ x ∧ x ≤ 1000000000
theorem addMultiple_ok {s l l' : Nat} {cap : Cap} {w : Bool} {a : AV} {k : Int} (hp : 0 < p ∧ p ≤ 1000) (hs : σ.obj s = some (pis xs)) (hl : l = xs.length) (hl' : l' = ys.length) (hle : ys.length = xs.length) (hb : xs.length ≤ 1048576)
    (hsm : ∀ i (h1 : i < xs.length) (h2 : i < ys.length), sm2 (k * ys[i]) ∧ sm2 (xs[i])) (hk : K (.tup []) (σ.set s (pis (vstep p k ys xs)))) :
    PCalls Try.prog 110 [.sl s 0 l cap, .fz w a l' (pis ys), .int .i64 k, .int .i64 p] σ K := by
  subst hl
  subst hl'
  have hvl := vstep_length (p := p) (x := k) hle
  refine pcalls_of_vp mix Try.func110 cf110 rfl ?_
  dsimp only [if110, qI, eI, nI, qD, eD]
  simp only [pwA, if_true, if_false, eq_self, nm_eq, reduceCtorEq, ↓reduceIte, Nat.reduceEqDiff, Nat.reduceLeDiff, Nat.reduceBEq, Nat.reduceAdd, Nat.reduceLT, Nat.reduceSub, Nat.reduceMul, Int.reduceEq, Int.reduceLT, Int.reduceLE, Int.reduceNeg, Int.reduceToNat, List.reduceReplicate, Int.ofNat_le, List.getElem?_drop]
  refine vp_loop (fun m vs h' => ∃ i : Nat, i ≤ xs.length ∧ m = xs.length - i ∧ vs = [.sl s 0 xs.length cap, .fz w a ys.length (pis ys), .int .i64 k, .int .i64 p, .int .i64 xs.length, .int .i64 i] ∧ h' = σ.set s (pis ((vstep p k ys xs).take i ++ xs.drop i))) xs.length ?_ ?_
  · exact ⟨0, by omega, by omega, rfl, by rw [List.take_zero, List.drop_zero, List.nil_append, set_same hs]⟩
  rintro m vs h' ⟨i, hi, rfl, rfl, rfl⟩
  simp only [pwA, if_true, if_false, eq_self, nm_eq, reduceCtorEq, ↓reduceIte, Nat.reduceEqDiff, Nat.reduceLeDiff, Nat.reduceBEq, Nat.reduceAdd, Nat.reduceLT, Nat.reduceSub, Nat.reduceMul, Int.reduceEq, Int.reduceLT, Int.reduceLE, Int.reduceNeg, Int.reduceToNat, List.reduceReplicate, Int.ofNat_le, List.getElem?_drop]
  refine iteI (fun hlt => ?_) fun hge => ?_
  rotate_left
  · have : i = xs.length := by omega
    subst this
    rw [List.drop_length, List.append_nil, List.take_of_length_le (by omega)]
    exact hk
  have hlt2 : i < ys.length := by omega
  have e1 := td_get hvl hlt
  obtain ⟨b1, b2⟩ := hsm i hlt hlt2
  unfold sm2 at b1 b2
  have hlen : i + 1 ≤ ((vstep p k ys xs).take i ++ xs.drop i).length := by simp; omega
  have ew1 : IntKind.i64.wrap (k * ys[i]) = k * ys[i] := wrap64 (by omega) (by omega)
  have ew2 : IntKind.i64.wrap (xs[i] + k * ys[i]) = xs[i] + k * ys[i] := wrap64 (by omega) (by omega)
  simp only [pwA, if_true, if_false, eq_self, nm_eq, reduceCtorEq, ↓reduceIte, Nat.reduceEqDiff, Nat.reduceLeDiff, Nat.reduceBEq, Nat.reduceAdd, Nat.reduceLT, Nat.reduceSub, Nat.reduceMul, Int.reduceEq, Int.reduceLT, Int.reduceLE, Int.reduceNeg, Int.reduceToNat, List.reduceReplicate, Int.ofNat_le, List.getElem?_drop, hlt, hlt2, List.getElem?_drop, pis_get, pis_length, gi hlt2, e1, hlen, ew1, ew2]
  refine residue_ok hp.1 (by omega) ?_
  simp only [pwA, if_true, if_false, eq_self, nm_eq, reduceCtorEq, ↓reduceIte, Nat.reduceEqDiff, Nat.reduceLeDiff, Nat.reduceBEq, Nat.reduceAdd, Nat.reduceLT, Nat.reduceSub, Nat.reduceMul, Int.reduceEq, Int.reduceLT, Int.reduceLE, Int.reduceNeg, Int.reduceToNat, List.reduceReplicate, Int.ofNat_le, List.getElem?_drop, hlt, hlen, pis_length, wrapS hlt (by omega : xs.length ≤ 4611686018427387904)]
  refine ⟨_, by omega, i + 1, by omega, rfl, rfl, ?_⟩
  rw [pis_set_at (by simp; omega)]
  have hiv : i < (vstep p k ys xs).length := by omega
  rw [← td_set hvl hiv, vstep_get hle hlt]
theorem sm6 {a b : Int} (ha : 0 ≤ a ∧ a ≤ 6) (hb : 0 ≤ b ∧ b ≤ 6) : 0 ≤ a * b ∧ a * b ≤ 36 := by
  have h1 := Int.mul_nonneg ha.1 hb.1
  have h2 := Int.mul_le_mul ha.2 hb.2 hb.1 (by decide)
  omega
theorem vectorTimes_ok (hp : 2 ≤ p ∧ p ≤ 7) (hA : Ma p n A) (hv : Ve p A.length v) (hn : n ≤ 8) (hal : A.length ≤ 8) (hvA : FII vA A) (hvv : FI vv v) (hk : ∀ cap, full 1 cap n → K (.sl σ.next 0 n cap) (σ.new (pis (vt p n v A)))) :
    PCalls Try.prog 69 [vv, .agg [.int .i64 p, .int .i64 n, vA]] σ K := by
  have h1 := hvA.one
  have hvl := hv.len
  obtain ⟨wv, av, rfl⟩ := hvv
  obtain ⟨wA, aA, rA, rfl, hrA⟩ := hvA
  refine PCalls.gh ?_
  refine pcalls_of_vp mix Try.func69 cf69 rfl ?_
  dsimp only [if69, qI, eI, nI, qD, eD]
  simp only [pwA, if_true, if_false, eq_self, nm_eq, reduceCtorEq, ↓reduceIte, Nat.reduceEqDiff, Nat.reduceLeDiff, Nat.reduceBEq, Nat.reduceAdd, Nat.reduceLT, Nat.reduceSub, Nat.reduceMul, Int.reduceEq, Int.reduceLT, Int.reduceLE, Int.reduceNeg, Int.reduceToNat, List.reduceReplicate, Int.ofNat_le, List.getElem?_drop, h1, List.length_replicate, pis_rep, mk8 (n := n) (by omega), mkL (n := n) (by omega)]
  refine vp_loop (fun m vs h' => ∃ i : Nat, i ≤ v.length ∧ m = v.length - i ∧ vs = [.ptr σ.next 0, .sl (σ.next + 1) 0 n (.known n), .fz wv av v.length (pis v), .int .i64 v.length, .int .i64 i] ∧ h' = (σ.new [.int .i64 p, .int .i64 n, .fz wA aA A.length rA]).new (pis (vmul p n v A i))) v.length ?_ ?_
  · exact ⟨0, by omega, by omega, rfl, rfl⟩
  rintro m vs h' ⟨i, hi, rfl, rfl, rfl⟩
  simp only [pwA, if_true, if_false, eq_self, nm_eq, reduceCtorEq, ↓reduceIte, Nat.reduceEqDiff, Nat.reduceLeDiff, Nat.reduceBEq, Nat.reduceAdd, Nat.reduceLT, Nat.reduceSub, Nat.reduceMul, Int.reduceEq, Int.reduceLT, Int.reduceLE, Int.reduceNeg, Int.reduceToNat, List.reduceReplicate, Int.ofNat_le, List.getElem?_drop]
  refine iteI (fun hlt => ?_) fun hge => ?_
  rotate_left
  · have hie : i = v.length := by omega
    subst hie
    exact Gh.finS (s := σ.next + 1) ((keep_new σ _).new _) (by simp only [pwA, if_true, if_false, eq_self, nm_eq, reduceCtorEq, ↓reduceIte, Nat.reduceEqDiff, Nat.reduceLeDiff, Nat.reduceBEq, Nat.reduceAdd, Nat.reduceLT, Nat.reduceSub, Nat.reduceMul, Int.reduceEq, Int.reduceLT, Int.reduceLE, Int.reduceNeg, Int.reduceToNat, List.reduceReplicate, Int.ofNat_le, List.getElem?_drop]) (by omega) (pis_bel _ _) (hk _ (.inr rfl))
  have hiA : i < A.length := by omega
  obtain ⟨w4, a4, hr⟩ := hrA.rowI hiA
  have hrow := hA.row hiA
  rw [row_eq hiA] at hrow
  have hml := vmul_length (v := v) hA (i := i) (by omega)
  have hve := vmul_ve (v := v) (by omega : 0 < p) hA (i := i) (by omega)
  have bx := hv.bd i
  rw [at_eq hlt] at bx
  simp only [pwA, if_true, if_false, eq_self, nm_eq, reduceCtorEq, ↓reduceIte, Nat.reduceEqDiff, Nat.reduceLeDiff, Nat.reduceBEq, Nat.reduceAdd, Nat.reduceLT, Nat.reduceSub, Nat.reduceMul, Int.reduceEq, Int.reduceLT, Int.reduceLE, Int.reduceNeg, Int.reduceToNat, List.reduceReplicate, Int.ofNat_le, List.getElem?_drop, hlt, hiA, hr, gi hlt, pis_get, List.getElem?_drop]
  refine addMultiple_ok (xs := vmul p n v A i) (by omega) (by simp only [pwA, if_true, if_false, eq_self, nm_eq, reduceCtorEq, ↓reduceIte, Nat.reduceEqDiff, Nat.reduceLeDiff, Nat.reduceBEq, Nat.reduceAdd, Nat.reduceLT, Nat.reduceSub, Nat.reduceMul, Int.reduceEq, Int.reduceLT, Int.reduceLE, Int.reduceNeg, Int.reduceToNat, List.reduceReplicate, Int.ofNat_le, List.getElem?_drop]) hml.symm rfl (by rw [hml]; exact hrow.len) (by omega) (fun t g1 g2 => ?_) ?_
  · have c1 := hrow.bd t
    have c2 := hve.bd t
    rw [at_eq g2] at c1
    rw [at_eq g1] at c2
    have := sm6 (a := v[i]) (b := A[i][t]) (by omega) (by omega)
    unfold sm2
    omega
  · simp only [pwA, if_true, if_false, eq_self, nm_eq, reduceCtorEq, ↓reduceIte, Nat.reduceEqDiff, Nat.reduceLeDiff, Nat.reduceBEq, Nat.reduceAdd, Nat.reduceLT, Nat.reduceSub, Nat.reduceMul, Int.reduceEq, Int.reduceLT, Int.reduceLE, Int.reduceNeg, Int.reduceToNat, List.reduceReplicate, Int.ofNat_le, List.getElem?_drop, wrapS hlt (by omega : v.length ≤ 4611686018427387904)]
    refine ⟨_, by omega, i + 1, by omega, rfl, rfl, ?_⟩
    rw [vmul, at_eq hlt, row_eq hiA]
theorem vectorTimes_fz (hp : 2 ≤ p ∧ p ≤ 7) (hA : Ma p n A) (hv : Ve p A.length v) (hn : n ≤ 8) (hal : A.length ≤ 8) (hvA : FII vA A) (hvv : FI vv v) (hk : ∀ z, FI z (vt p n v A) → K z σ) :
    PCalls Try.prog 69 [vv, .agg [.int .i64 p, .int .i64 n, vA]] σ K := by
  have hl := (vt_ve (by omega : 0 < p) hA hv.len).len
  refine PCalls.fz (l := n) (e := 1) (cs := pis (vt p n v A)) (fun K' k' => vectorTimes_ok hp hA hv hn hal hvA hvv k') (pis_bel _ _) fun o cap => hk _ ?_
  exact ⟨true, .sl o 0 n cap, by rw [hl]⟩
/-- A struct of three cells whose last cell is the rows made so far. -/
structure Acc3 (H h : PHeap) (p : Int) (n : Nat) (v : PV) (i : Nat) (rows : List PV) : Prop where
  keep : Keep H h
  obj : h.obj H.next = some [.int .i64 p, .int .i64 n, v]
  lt : H.next < h.next
  acc : PAcc (H.next + 1) 1 h v i rows
theorem Acc3.out {H h : PHeap} {i : Nat} {rows : List PV} (a : Acc3 H h p n v0 i rows) (hk0 : Keep σ H) {t : Nat} (ht : σ.next ≤ t) (htH : t < H.next) (hall : All2 FI rows M) (hk : ∀ v, FII v M → K (.agg [.int .i64 p, .int .i64 n, v]) σ) :
    Gh σ K (.agg [.int .i64 p, .int .i64 n, v0]) (h.set t [.int .i64 p, .int .i64 n, v0]) := by
  have hkσ : Keep σ (h.set t [.int .i64 p, .int .i64 n, v0]) := (hk0.trans a.keep).set ht _
  have hlen := hall.1
  rcases a.acc with ⟨rfl, h0, h1⟩ | ⟨s, cap, rfl, hc, q2, q3, q4, q5⟩
  · refine Gh.fin0 hkσ ⟨trivial, trivial, trivial, trivial⟩ (hk _ ⟨true, .nils, rows, ?_, hall⟩)
    rw [← hlen, h1]; rfl
  · have hk1 := hk0.next
    refine Gh.freeze (s := s) (cs := rows) (by rw [pobj_set, if_neg (by omega)]; exact q2) (by omega) (hall.bI 0) fun o g1 g2 g3 => ?_
    simp only [sb, sbs, hc.ok, and_self, if_true]
    refine Gh.fin0 ((hkσ.kill (by omega)).up (by simp only [PHeap.kill]; omega)) ⟨trivial, trivial, trivial, trivial⟩ (hk _ ⟨true, .sl o 0 i cap, rows, ?_, hall⟩)
    rw [← hlen, q3, Nat.mul_one]
end Go.Proofs
set_option linter.unusedSimpArgs false
set_option linter.unusedVariables false
namespace Go.Proofs
open Go.Ab Go.Lie Go.Grp Go.Mx
variable {σ : PHeap} {K : PV → PHeap → Prop} {p : Int} {n na : Nat} {v w xs ys : List Int} {A B M : List (List Int)} {vA vB vM vv v0 : PV}
theorem mm_take {i : Nat} (hi : i < A.length) : (mm p n A B).take (i + 1) = (mm p n A B).take i ++ [vt p n A[i] B] := by
  rw [List.take_succ_eq_append_getElem (by rw [mm_length]; exact hi)]
  simp [mm]
theorem product_ok (hp : 2 ≤ p ∧ p ≤ 7) (hA : Ma p B.length A) (hB : Ma p n B) (hn : n ≤ 8) (hbl : B.length ≤ 8) (hal : A.length ≤ 8) (hvA : FII vA A) (hvB : FII vB B) {ca : PV} (hca : ca.one = true) (hk : ∀ v, FII v (mm p n A B) → K (.agg [.int .i64 p, .int .i64 n, v]) σ) :
    PCalls Try.prog 112 [.agg [.int .i64 p, ca, vA], .agg [.int .i64 p, .int .i64 n, vB]] σ K := by
  have h1 := hvA.one
  have h2 := hvB.one
  have hvBB := hvB
  obtain ⟨wA, aA, rA, rfl, hrA⟩ := hvA
  refine PCalls.gh ?_
  generalize hH : ((σ.new [.int .i64 p, ca, .fz wA aA A.length rA]).new [.int .i64 p, .int .i64 n, vB]).new [.int .i64 0, .int .i64 0, .fz true .nils 0 []] = H
  have hHn : H.next = σ.next + 3 := by rw [← hH]; rfl
  have hHk : Keep σ H := by rw [← hH]; exact ((keep_new σ _).new _).new _
  have ho1 : H.obj (σ.next + 1) = some [.int .i64 p, .int .i64 n, vB] := by rw [← hH]; simp only [pwA, if_true, if_false, eq_self, nm_eq, reduceCtorEq, ↓reduceIte, Nat.reduceEqDiff, Nat.reduceLeDiff, Nat.reduceBEq, Nat.reduceAdd, Nat.reduceLT, Nat.reduceSub, Nat.reduceMul, Int.reduceEq, Int.reduceLT, Int.reduceLE, Int.reduceNeg, Int.reduceToNat, List.reduceReplicate, Int.ofNat_le, List.getElem?_drop]
  refine pcalls_of_vp mix Try.func112 cf112 rfl ?_
  dsimp only [if112, qI, eI, nI, qD, eD]
  simp only [pwA, if_true, if_false, eq_self, nm_eq, reduceCtorEq, ↓reduceIte, Nat.reduceEqDiff, Nat.reduceLeDiff, Nat.reduceBEq, Nat.reduceAdd, Nat.reduceLT, Nat.reduceSub, Nat.reduceMul, Int.reduceEq, Int.reduceLT, Int.reduceLE, Int.reduceNeg, Int.reduceToNat, List.reduceReplicate, Int.ofNat_le, List.getElem?_drop, h1, h2, hca]
  rw [hH]
  refine vp_loop (fun m vs h' => ∃ (i : Nat) (vC : PV) (rows : List PV), i ≤ A.length ∧ m = A.length - i ∧ vs = [.ptr (σ.next + 1) 0, .ptr (σ.next + 2) 0, .ptr (σ.next + 3) 0, .fz wA aA A.length rA, .int .i64 A.length, .int .i64 i] ∧ Acc3 H h' p n vC i rows ∧ All2 FI rows ((mm p n A B).take i)) A.length ?_ ?_
  · exact ⟨0, _, [], by omega, by omega, rfl, ⟨keep_new H _, by rw [pobj_new, if_pos rfl], Nat.lt_succ_self _, PAcc.nil _ _ _⟩, by rw [List.take_zero]; exact All2.nil _⟩
  rintro m vs h' ⟨i, vC, rows, hi, rfl, rfl, a, hall⟩
  have hob := a.obj
  have hlt0 := a.lt
  rw [hHn] at hob hlt0
  have r2 : h'.rd1 (σ.next + 3) 2 = some vC := by rw [obj_rd1 hob]; rfl
  have hor : h'.obj (σ.next + 2) = some [.int .i64 0, .int .i64 0, .fz true .nils 0 []] := by rw [a.keep.obj _ (by omega), ← hH]; simp only [pwA, if_true, if_false, eq_self, nm_eq, reduceCtorEq, ↓reduceIte, Nat.reduceEqDiff, Nat.reduceLeDiff, Nat.reduceBEq, Nat.reduceAdd, Nat.reduceLT, Nat.reduceSub, Nat.reduceMul, Int.reduceEq, Int.reduceLT, Int.reduceLE, Int.reduceNeg, Int.reduceToNat, List.reduceReplicate, Int.ofNat_le, List.getElem?_drop]
  have ho1' : h'.obj (σ.next + 1) = some [.int .i64 p, .int .i64 n, vB] := by rw [a.keep.obj _ (by omega)]; exact ho1
  have rb : h'.rd (σ.next + 1) 0 3 = some [.int .i64 p, .int .i64 n, vB] := by rw [obj_rd ho1']; rfl
  simp only [pwA, if_true, if_false, eq_self, nm_eq, reduceCtorEq, ↓reduceIte, Nat.reduceEqDiff, Nat.reduceLeDiff, Nat.reduceBEq, Nat.reduceAdd, Nat.reduceLT, Nat.reduceSub, Nat.reduceMul, Int.reduceEq, Int.reduceLT, Int.reduceLE, Int.reduceNeg, Int.reduceToNat, List.reduceReplicate, Int.ofNat_le, List.getElem?_drop]
  refine iteI (fun hlt => ?_) fun hge => ?_
  rotate_left
  · have hie : i = A.length := by omega
    subst hie
    have rd : h'.rd (σ.next + 3) 0 3 = some [.int .i64 p, .int .i64 n, vC] := by rw [obj_rd hob]; rfl
    have hwr : h'.wr (σ.next + 2) 0 [.int .i64 p, .int .i64 n, vC] = some (h'.set (σ.next + 2) [.int .i64 p, .int .i64 n, vC]) := by
      rw [obj_wr hor, if_pos ⟨by simp, by simp only [List.all_cons, List.all_nil, a.acc.one]; rfl⟩]; rfl
    simp only [pwA, if_true, if_false, eq_self, nm_eq, reduceCtorEq, ↓reduceIte, Nat.reduceEqDiff, Nat.reduceLeDiff, Nat.reduceBEq, Nat.reduceAdd, Nat.reduceLT, Nat.reduceSub, Nat.reduceMul, Int.reduceEq, Int.reduceLT, Int.reduceLE, Int.reduceNeg, Int.reduceToNat, List.reduceReplicate, Int.ofNat_le, List.getElem?_drop, rd, hwr]
    rw [List.take_of_length_le (by rw [mm_length]; exact Nat.le_refl _)] at hall
    exact a.out hHk (by omega) (by omega) hall hk
  obtain ⟨w4, a4, hr⟩ := hrA.rowI hlt
  have hrow := hA _ (List.getElem_mem hlt)
  have hvl := (vt_ve (by omega : 0 < p) hB hrow.len).len
  simp only [pwA, if_true, if_false, eq_self, nm_eq, reduceCtorEq, ↓reduceIte, Nat.reduceEqDiff, Nat.reduceLeDiff, Nat.reduceBEq, Nat.reduceAdd, Nat.reduceLT, Nat.reduceSub, Nat.reduceMul, Int.reduceEq, Int.reduceLT, Int.reduceLE, Int.reduceNeg, Int.reduceToNat, List.reduceReplicate, Int.ofNat_le, List.getElem?_drop, hlt, hr, r2, rb, List.getElem?_drop]
  refine vectorTimes_fz hp hB hrow hn hbl hvBB ⟨w4, a4, rfl⟩ fun z hz => ?_
  have hzz := hz
  obtain ⟨wz, az, rfl⟩ := hz
  have hne : ¬ σ.next + 3 = h'.next := by omega
  simp only [pwA, if_true, if_false, eq_self, nm_eq, reduceCtorEq, ↓reduceIte, Nat.reduceEqDiff, Nat.reduceLeDiff, Nat.reduceBEq, Nat.reduceAdd, Nat.reduceLT, Nat.reduceSub, Nat.reduceMul, Int.reduceEq, Int.reduceLT, Int.reduceLE, Int.reduceNeg, Int.reduceToNat, List.reduceReplicate, Int.ofNat_le, List.getElem?_drop, r2, hne]
  refine PAcc.pushS (σb := H) (bytes := 24) a.keep (a.acc.low (Nat.le_succ _)) rfl (by omega) (by omega) fun v' h2 k2 a2 o2 n2 l2 => ?_
  have hob2 : h2.obj (σ.next + 3) = some [.int .i64 p, .int .i64 n, vC] := by rw [o2 _ hlt0 (a.acc.ne' (by omega))]; exact hob
  have hwr : h2.wr (σ.next + 3) 2 [v'] = some (h2.set (σ.next + 3) [.int .i64 p, .int .i64 n, v']) := by
    rw [obj_wr hob2, if_pos ⟨by simp, by simp [a2.one]⟩]; rfl
  simp only [pwA, if_true, if_false, eq_self, nm_eq, reduceCtorEq, ↓reduceIte, Nat.reduceEqDiff, Nat.reduceLeDiff, Nat.reduceBEq, Nat.reduceAdd, Nat.reduceLT, Nat.reduceSub, Nat.reduceMul, Int.reduceEq, Int.reduceLT, Int.reduceLE, Int.reduceNeg, Int.reduceToNat, List.reduceReplicate, Int.ofNat_le, List.getElem?_drop, hwr, a2.cells, wrapS hlt (by omega : A.length ≤ 4611686018427387904)]
  refine ⟨_, by omega, i + 1, v', rows ++ [.fz wz az (vt p n A[i] B).length (pis (vt p n A[i] B))], by omega, rfl, rfl, ⟨k2.set (by omega) _, by rw [hHn, pobj_set, if_pos rfl], by rw [hHn]; show σ.next + 3 < h2.next; omega, ?_⟩, ?_⟩
  · exact (PSl.setO (a2.high (b' := H.next + 1) fun t ht => n2 t (by omega)) (by omega) _).acc
  · rw [mm_take hlt]
    exact hall.snoc hzz
end Go.Proofs
set_option linter.unusedSimpArgs false
set_option linter.unusedVariables false
namespace Go.Proofs
open Go.Ab Go.Lie Go.Grp Go.Mx
variable {σ : PHeap} {K : PV → PHeap → Prop} {p : Int} {n na : Nat} {v w xs ys : List Int} {A B M : List (List Int)} {vA vB vM vv v0 : PV}
theorem idm_take {i : Nat} (hi : i < n) : (idm n).take (i + 1) = (idm n).take i ++ [uv n i] := by
  rw [List.take_succ_eq_append_getElem (by rw [idm_length]; exact hi)]
  simp [idm]
theorem identityOf_ok (hn : n ≤ 8) (hk : ∀ v, FII v (idm n) → K (.agg [.int .i64 p, .int .i64 n, v]) σ) : PCalls Try.prog 111 [.int .i64 p, .int .i64 n] σ K := by
  refine PCalls.pwf fun w0 => PCalls.gh ?_
  generalize hH : σ.new [.int .i64 0, .int .i64 0, .fz true .nils 0 []] = H
  have hHn : H.next = σ.next + 1 := by rw [← hH]; rfl
  have hHk : Keep σ H := by rw [← hH]; exact keep_new σ _
  have wH : PWF H := by rw [← hH]; exact w0.newB ⟨trivial, trivial, trivial, trivial⟩
  refine pcalls_of_vp mix Try.func111 cf111 rfl ?_
  dsimp only [if111, qI, eI, nI, qD, eD]
  simp only [pwA, if_true, if_false, eq_self, nm_eq, reduceCtorEq, ↓reduceIte, Nat.reduceEqDiff, Nat.reduceLeDiff, Nat.reduceBEq, Nat.reduceAdd, Nat.reduceLT, Nat.reduceSub, Nat.reduceMul, Int.reduceEq, Int.reduceLT, Int.reduceLE, Int.reduceNeg, Int.reduceToNat, List.reduceReplicate, Int.ofNat_le, List.getElem?_drop]
  rw [hH]
  refine vp_loopG (fun m vs h' => ∃ (i : Nat) (vC : PV) (rows : List PV), i ≤ n ∧ m = n - i ∧ vs = [.int .i64 n, .ptr σ.next 0, .ptr (σ.next + 1) 0, .int .i64 n, .int .i64 i] ∧ Acc3 H h' p n vC i rows ∧ All2 FI rows ((idm n).take i)) n ?_ ?_
  · exact .here ⟨0, _, [], by omega, by omega, rfl, ⟨keep_new H _, by rw [pobj_new, if_pos rfl], Nat.lt_succ_self _, PAcc.nil _ _ _⟩, by rw [List.take_zero]; exact All2.nil _⟩
  rintro m vs h' ⟨i, vC, rows, hi, rfl, rfl, a, hall⟩
  have hob := a.obj
  have hlt0 := a.lt
  rw [hHn] at hob hlt0
  have r2 : h'.rd1 (σ.next + 1) 2 = some vC := by rw [obj_rd1 hob]; rfl
  have hor : h'.obj σ.next = some [.int .i64 0, .int .i64 0, .fz true .nils 0 []] := by rw [a.keep.obj _ (by omega), ← hH]; simp only [pwA, if_true, if_false, eq_self, nm_eq, reduceCtorEq, ↓reduceIte, Nat.reduceEqDiff, Nat.reduceLeDiff, Nat.reduceBEq, Nat.reduceAdd, Nat.reduceLT, Nat.reduceSub, Nat.reduceMul, Int.reduceEq, Int.reduceLT, Int.reduceLE, Int.reduceNeg, Int.reduceToNat, List.reduceReplicate, Int.ofNat_le, List.getElem?_drop]
  simp only [pwA, if_true, if_false, eq_self, nm_eq, reduceCtorEq, ↓reduceIte, Nat.reduceEqDiff, Nat.reduceLeDiff, Nat.reduceBEq, Nat.reduceAdd, Nat.reduceLT, Nat.reduceSub, Nat.reduceMul, Int.reduceEq, Int.reduceLT, Int.reduceLE, Int.reduceNeg, Int.reduceToNat, List.reduceReplicate, Int.ofNat_le, List.getElem?_drop]
  refine iteI (fun hlt => ?_) fun hge => ?_
  rotate_left
  · have hie : i = n := by omega
    subst hie
    have rd : h'.rd (σ.next + 1) 0 3 = some [.int .i64 p, .int .i64 i, vC] := by rw [obj_rd hob]; rfl
    have hwr : h'.wr σ.next 0 [.int .i64 p, .int .i64 i, vC] = some (h'.set σ.next [.int .i64 p, .int .i64 i, vC]) := by
      rw [obj_wr hor, if_pos ⟨by simp, by simp only [List.all_cons, List.all_nil, a.acc.one]; rfl⟩]; rfl
    simp only [pwA, if_true, if_false, eq_self, nm_eq, reduceCtorEq, ↓reduceIte, Nat.reduceEqDiff, Nat.reduceLeDiff, Nat.reduceBEq, Nat.reduceAdd, Nat.reduceLT, Nat.reduceSub, Nat.reduceMul, Int.reduceEq, Int.reduceLT, Int.reduceLE, Int.reduceNeg, Int.reduceToNat, List.reduceReplicate, Int.ofNat_le, List.getElem?_drop, rd, hwr]
    rw [List.take_of_length_le (by rw [idm_length]; exact Nat.le_refl _)] at hall
    exact a.out hHk (by omega) (by omega) hall hk
  have hlt' : i < n := by omega
  have hne : ¬ σ.next + 1 = h'.next := by omega
  have hne2 : ¬ σ.next + 1 = h'.next + 1 := by omega
  have hset : (pis (List.replicate n 0)).take i ++ [PV.int .i64 1] ++ (pis (List.replicate n 0)).drop (i + 1) = pis (uv n i) := pis_set_at (by simpa using hlt')
  simp only [pwA, if_true, if_false, eq_self, nm_eq, reduceCtorEq, ↓reduceIte, Nat.reduceEqDiff, Nat.reduceLeDiff, Nat.reduceBEq, Nat.reduceAdd, Nat.reduceLT, Nat.reduceSub, Nat.reduceMul, Int.reduceEq, Int.reduceLT, Int.reduceLE, Int.reduceNeg, Int.reduceToNat, List.reduceReplicate, Int.ofNat_le, List.getElem?_drop, hlt', r2, hne, hne2, List.length_replicate, pis_rep, pis_length, hset, mk8 (n := n) (by omega), mkL (n := n) (by omega), Nat.succ_le_of_lt hlt']
  have hul : (uv n i).length = n := by simp [uv]
  refine PAcc.pushS (σb := H) (bytes := 24) (a.keep.new _) ((a.acc.keep (keep_new _ _)).low (Nat.le_succ _)) rfl (by omega) (by omega) fun v' h2 k2 a2 o2 n2 l2 => ?_
  have hnx : (h'.new (pis (uv n i))).next = h'.next + 1 := rfl
  rw [hnx] at o2 n2 l2
  have hob2 : h2.obj (σ.next + 1) = some [.int .i64 p, .int .i64 n, vC] := by
    rw [o2 _ (by omega) (a.acc.ne' (by omega)), pobj_new, if_neg hne]; exact hob
  have hrow2 : h2.obj h'.next = some (pis (uv n i)) := by rw [o2 _ (by omega) (a.acc.ne (Nat.le_refl _)), pobj_new, if_pos rfl]
  have hwr : h2.wr (σ.next + 1) 2 [v'] = some (h2.set (σ.next + 1) [.int .i64 p, .int .i64 n, v']) := by
    rw [obj_wr hob2, if_pos ⟨by simp, by simp [a2.one]⟩]; rfl
  simp only [pwA, if_true, if_false, eq_self, nm_eq, reduceCtorEq, ↓reduceIte, Nat.reduceEqDiff, Nat.reduceLeDiff, Nat.reduceBEq, Nat.reduceAdd, Nat.reduceLT, Nat.reduceSub, Nat.reduceMul, Int.reduceEq, Int.reduceLT, Int.reduceLE, Int.reduceNeg, Int.reduceToNat, List.reduceReplicate, Int.ofNat_le, List.getElem?_drop, hwr, a2.cells, wrapS hlt' (by omega : n ≤ 4611686018427387904)]
  have hk3 : Keep H (h2.set (σ.next + 1) [.int .i64 p, .int .i64 n, v']) := k2.set (by omega) _
  have a3 : PSl (H.next + 1) 1 (h2.set (σ.next + 1) [.int .i64 p, .int .i64 n, v']) v' (i + 1) (rows ++ [.sl h'.next 0 n (.known n)]) := PSl.setO (a2.high fun t ht => n2 t (by omega)) (by omega) _
  refine ⟨n - (i + 1), by omega, .fzh h'.next (pis (uv n i)) (by rw [pobj_set, if_neg (by omega)]; exact hrow2) (pis_bel _ _) fun o1 => ?_⟩
  obtain ⟨f1, f2, f3⟩ := PSl.fzr wH hk3 (a3.acc.low (Nat.le_succ _) |>.pos (by omega)) (s := h'.next) (cs := pis (uv n i)) (by omega) (n2 _ (by omega)) o1
  refine .here ⟨i + 1, v', rows ++ [.fz true (.sl o1 0 n (.known n)) n (pis (uv n i))], by omega, rfl, ?_, ⟨f1, ?_, ?_, ?_⟩, ?_⟩
  · simp only [sbs, sb]
  · rw [hHn]
    simp only [PHeap.sub, PHeap.kill, PHeap.set, if_neg (by omega : ¬ σ.next + 1 = h'.next), if_true, Option.map_some, sbs, sb, f3]
  · rw [hHn]; show σ.next + 1 < h2.next; omega
  · have hcap : capOK (.known n) n = true := by simp [capOK]
    rw [sbs_row (hall.bI 0) hcap] at f2
    exact (f2.high fun t ht => n2 t (by omega)).acc
  · rw [idm_take hlt']
    exact hall.snoc ⟨true, _, by rw [hul]⟩
end Go.Proofs
set_option linter.unusedSimpArgs false
set_option linter.unusedVariables false
namespace Go.Proofs
open Go.Ab Go.Lie Go.Grp Go.Mx
variable {σ : PHeap} {K : PV → PHeap → Prop} {p : Int} {n na : Nat} {v w xs ys : List Int} {A B M : List (List Int)} {vA vB vM vv v0 : PV}
theorem l02Unit_ok (hn : n ≤ 8) (hk : ∀ v, FII v (idm n) → K v σ) : PCalls Try.prog 100 [.int .i64 n] σ K := by
  refine PCalls.pwf fun w0 => PCalls.gh ?_
  refine pcalls_of_vp mix Try.func100 cf100 rfl ?_
  dsimp only [if100, qI, eI, nI, qD, eD]
  simp only [pwA, if_true, if_false, eq_self, nm_eq, reduceCtorEq, ↓reduceIte, Nat.reduceEqDiff, Nat.reduceLeDiff, Nat.reduceBEq, Nat.reduceAdd, Nat.reduceLT, Nat.reduceSub, Nat.reduceMul, Int.reduceEq, Int.reduceLT, Int.reduceLE, Int.reduceNeg, Int.reduceToNat, List.reduceReplicate, Int.ofNat_le, List.getElem?_drop]
  refine vp_loopG (fun m vs h' => ∃ (i : Nat) (vC : PV) (rows : List PV), i ≤ n ∧ m = n - i ∧ vs = [.int .i64 n, vC, .int .i64 i] ∧ Keep σ h' ∧ PSl σ.next 1 h' vC i rows ∧ All2 FI rows ((idm n).take i)) n ?_ ?_
  · exact .here ⟨0, _, [], by omega, by omega, rfl, keep_new σ _, PSl.new _ 1 rfl (Nat.le_refl _), by rw [List.take_zero]; exact All2.nil _⟩
  rintro m vs h' ⟨i, vC, rows, hi, rfl, rfl, hkp, ha, hall⟩
  simp only [pwA, if_true, if_false, eq_self, nm_eq, reduceCtorEq, ↓reduceIte, Nat.reduceEqDiff, Nat.reduceLeDiff, Nat.reduceBEq, Nat.reduceAdd, Nat.reduceLT, Nat.reduceSub, Nat.reduceMul, Int.reduceEq, Int.reduceLT, Int.reduceLE, Int.reduceNeg, Int.reduceToNat, List.reduceReplicate, Int.ofNat_le, List.getElem?_drop]
  refine iteI (fun hlt => ?_) fun hge => ?_
  rotate_left
  · have hie : i = n := by omega
    subst hie
    rw [List.take_of_length_le (by rw [idm_length]; exact Nat.le_refl _)] at hall
    exact ha.fin hkp (hall.bI 0) fun o cap => hk _ ⟨true, _, rows, by rw [idm_length], hall⟩
  have hlt' : i < n := by omega
  have hset : (pis (List.replicate n 0)).take i ++ [PV.int .i64 1] ++ (pis (List.replicate n 0)).drop (i + 1) = pis (uv n i) := pis_set_at (by simpa using hlt')
  have hul : (uv n i).length = n := by simp [uv]
  simp only [pwA, if_true, if_false, eq_self, nm_eq, reduceCtorEq, ↓reduceIte, Nat.reduceEqDiff, Nat.reduceLeDiff, Nat.reduceBEq, Nat.reduceAdd, Nat.reduceLT, Nat.reduceSub, Nat.reduceMul, Int.reduceEq, Int.reduceLT, Int.reduceLE, Int.reduceNeg, Int.reduceToNat, List.reduceReplicate, Int.ofNat_le, List.getElem?_drop, hlt', List.length_replicate, pis_rep, pis_length, hset, mk8 (n := n) (by omega), mkL (n := n) (by omega), Nat.succ_le_of_lt hlt']
  refine PAcc.pushS (σb := σ) (bytes := 24) (hkp.new _) (ha.acc.keep (keep_new _ _)) rfl (by omega) (by omega) fun v' h2 k2 a2 o2 n2 l2 => ?_
  have hnx : (h'.new (pis (uv n i))).next = h'.next + 1 := rfl
  rw [hnx] at o2 n2 l2
  have hrow2 : h2.obj h'.next = some (pis (uv n i)) := by rw [o2 _ (by omega) (ha.acc.ne (Nat.le_refl _)), pobj_new, if_pos rfl]
  simp only [pwA, if_true, if_false, eq_self, nm_eq, reduceCtorEq, ↓reduceIte, Nat.reduceEqDiff, Nat.reduceLeDiff, Nat.reduceBEq, Nat.reduceAdd, Nat.reduceLT, Nat.reduceSub, Nat.reduceMul, Int.reduceEq, Int.reduceLT, Int.reduceLE, Int.reduceNeg, Int.reduceToNat, List.reduceReplicate, Int.ofNat_le, List.getElem?_drop, wrapS hlt' (by omega : n ≤ 4611686018427387904)]
  refine ⟨n - (i + 1), by omega, .fzh h'.next (pis (uv n i)) hrow2 (pis_bel _ _) fun o1 => ?_⟩
  obtain ⟨f1, f2, f3⟩ := PSl.fzr w0 k2 a2 (s := h'.next) (cs := pis (uv n i)) (by have := hkp.next; omega) (n2 _ (by omega)) o1
  refine .here ⟨i + 1, v', rows ++ [.fz true (.sl o1 0 n (.known n)) n (pis (uv n i))], by omega, rfl, ?_, f1, ?_, ?_⟩
  · simp only [sbs, sb, f3]
  · have hcap : capOK (.known n) n = true := by simp [capOK]
    rwa [sbs_row (hall.bI 0) hcap] at f2
  · rw [idm_take hlt']
    exact hall.snoc ⟨true, _, by rw [hul]⟩
theorem l02Times_fz (hp : 2 ≤ p ∧ p ≤ 7) (hA : Ma p n A) (hv : Ve p A.length v) (hn : n ≤ 8) (hal : A.length ≤ 8) (hvA : FII vA A) (hvv : FI vv v) (hk : ∀ z, FI z (vt p n v A) → K z σ) :
    PCalls Try.prog 65 [.int .i64 p, vv, vA, .int .i64 n] σ K := by
  have h1 := hvA.one
  have hvl := hv.len
  obtain ⟨wv, av, rfl⟩ := hvv
  obtain ⟨wA, aA, rA, rfl, hrA⟩ := hvA
  have hl := (vt_ve (by omega : 0 < p) hA hv.len).len
  refine PCalls.gh ?_
  refine pcalls_of_vp mix Try.func65 cf65 rfl ?_
  dsimp only [if65, qI, eI, nI, qD, eD]
  simp only [pwA, if_true, if_false, eq_self, nm_eq, reduceCtorEq, ↓reduceIte, Nat.reduceEqDiff, Nat.reduceLeDiff, Nat.reduceBEq, Nat.reduceAdd, Nat.reduceLT, Nat.reduceSub, Nat.reduceMul, Int.reduceEq, Int.reduceLT, Int.reduceLE, Int.reduceNeg, Int.reduceToNat, List.reduceReplicate, Int.ofNat_le, List.getElem?_drop, List.length_replicate, pis_rep, mk8 (n := n) (by omega), mkL (n := n) (by omega)]
  refine vp_loop (fun m vs h' => ∃ i : Nat, i ≤ v.length ∧ m = v.length - i ∧ vs = [.int .i64 p, .fz wv av v.length (pis v), .fz wA aA A.length rA, .sl σ.next 0 n (.known n), .int .i64 i] ∧ h' = σ.new (pis (vmul p n v A i))) v.length ?_ ?_
  · exact ⟨0, by omega, by omega, rfl, rfl⟩
  rintro m vs h' ⟨i, hi, rfl, rfl, rfl⟩
  by_cases hlt : i < v.length
  rotate_left
  · have hie : i = v.length := by omega
    subst hie
    simp only [pwA, if_true, if_false, eq_self, nm_eq, reduceCtorEq, ↓reduceIte, Nat.reduceEqDiff, Nat.reduceLeDiff, Nat.reduceBEq, Nat.reduceAdd, Nat.reduceLT, Nat.reduceSub, Nat.reduceMul, Int.reduceEq, Int.reduceLT, Int.reduceLE, Int.reduceNeg, Int.reduceToNat, List.reduceReplicate, Int.ofNat_le, List.getElem?_drop, Nat.lt_irrefl]
    exact Gh.finF (s := σ.next) (keep_new σ _) (by simp only [pwA, if_true, if_false, eq_self, nm_eq, reduceCtorEq, ↓reduceIte, Nat.reduceEqDiff, Nat.reduceLeDiff, Nat.reduceBEq, Nat.reduceAdd, Nat.reduceLT, Nat.reduceSub, Nat.reduceMul, Int.reduceEq, Int.reduceLT, Int.reduceLE, Int.reduceNeg, Int.reduceToNat, List.reduceReplicate, Int.ofNat_le, List.getElem?_drop]; rfl) (Nat.le_refl _) (pis_bel _ _) (show capOK (.known n) n = true by simp [capOK]) fun o => hk _ ⟨true, .sl o 0 n (.known n), by rw [hl]⟩
  have hiA : i < A.length := by omega
  obtain ⟨w4, a4, hr⟩ := hrA.rowI hiA
  have hrow := hA.row hiA
  rw [row_eq hiA] at hrow
  have hrl := hrow.len
  have hml := vmul_length (v := v) hA (i := i) (by omega)
  have hve := vmul_ve (v := v) (by omega : 0 < p) hA (i := i) (by omega)
  have bx := hv.bd i
  rw [at_eq hlt] at bx
  have hvs : vmul p n v A (i + 1) = vstep p v[i] A[i] (vmul p n v A i) := by rw [vmul, at_eq hlt, row_eq hiA]
  generalize hacc : vmul p n v A i = acc at *
  have hvsl : (vstep p v[i] A[i] acc).length = acc.length := vstep_length (by omega)
  simp only [pwA, if_true, if_false, eq_self, nm_eq, reduceCtorEq, ↓reduceIte, Nat.reduceEqDiff, Nat.reduceLeDiff, Nat.reduceBEq, Nat.reduceAdd, Nat.reduceLT, Nat.reduceSub, Nat.reduceMul, Int.reduceEq, Int.reduceLT, Int.reduceLE, Int.reduceNeg, Int.reduceToNat, List.reduceReplicate, Int.ofNat_le, List.getElem?_drop, hlt, hiA]
  refine vp_loop (fun m vs h' => ∃ j : Nat, j ≤ n ∧ m = n - j ∧ vs = [.int .i64 p, .fz wv av v.length (pis v), .fz wA aA A.length rA, .sl σ.next 0 n (.known n), .int .i64 i, .int .i64 j] ∧ h' = σ.new (pis ((vstep p v[i] A[i] acc).take j ++ acc.drop j))) n ?_ ?_
  · exact ⟨0, by omega, by omega, rfl, by rw [List.take_zero, List.drop_zero, List.nil_append]⟩
  rintro m vs h' ⟨j, hj, rfl, rfl, rfl⟩
  by_cases hjn : j < n
  rotate_left
  · have hje : j = n := by omega
    subst hje
    simp only [pwA, if_true, if_false, eq_self, nm_eq, reduceCtorEq, ↓reduceIte, Nat.reduceEqDiff, Nat.reduceLeDiff, Nat.reduceBEq, Nat.reduceAdd, Nat.reduceLT, Nat.reduceSub, Nat.reduceMul, Int.reduceEq, Int.reduceLT, Int.reduceLE, Int.reduceNeg, Int.reduceToNat, List.reduceReplicate, Int.ofNat_le, List.getElem?_drop, Nat.lt_irrefl, wrapS hlt (by omega : v.length ≤ 4611686018427387904)]
    refine ⟨_, by omega, i + 1, by omega, rfl, rfl, ?_⟩
    rw [List.drop_of_length_le (by omega), List.append_nil, List.take_of_length_le (by omega), hvs]
  have hjr : j < A[i].length := by omega
  have hja : j < acc.length := by omega
  have c1 := hrow.bd j
  have c2 := hve.bd j
  rw [at_eq hjr] at c1
  rw [at_eq hja] at c2
  have c3 := sm6 (a := v[i]) (b := A[i][j]) (by omega) (by omega)
  have e1 := td_get hvsl hja
  have hlen : j + 1 ≤ ((vstep p v[i] A[i] acc).take j ++ acc.drop j).length := by simp; omega
  have ew1 : IntKind.i64.wrap (v[i] * A[i][j]) = v[i] * A[i][j] := wrap64 (by omega) (by omega)
  have ew2 : IntKind.i64.wrap (acc[j] + v[i] * A[i][j]) = acc[j] + v[i] * A[i][j] := wrap64 (by omega) (by omega)
  have hp0 : ¬ p = 0 := by omega
  have et : (acc[j] + v[i] * A[i][j]).tmod p = (acc[j] + v[i] * A[i][j]) % p := Int.tmod_eq_emod_of_nonneg (by omega)
  have hem := Int.emod_nonneg (acc[j] + v[i] * A[i][j]) hp0
  have hem2 := Int.emod_lt_of_pos (acc[j] + v[i] * A[i][j]) (by omega : 0 < p)
  have ew3 : IntKind.i64.wrap ((acc[j] + v[i] * A[i][j]) % p) = (acc[j] + v[i] * A[i][j]) % p := wrap64 (by omega) (by omega)
  simp only [pwA, if_true, if_false, eq_self, nm_eq, reduceCtorEq, ↓reduceIte, Nat.reduceEqDiff, Nat.reduceLeDiff, Nat.reduceBEq, Nat.reduceAdd, Nat.reduceLT, Nat.reduceSub, Nat.reduceMul, Int.reduceEq, Int.reduceLT, Int.reduceLE, Int.reduceNeg, Int.reduceToNat, List.reduceReplicate, Int.ofNat_le, List.getElem?_drop, hjn, hiA, hr, hjr, hlt, List.getElem?_drop, pis_get, pis_length, gi hlt, gi hjr, e1, hlen, ew1, ew2, hp0, et, ew3, wrapS hjn (by omega : n ≤ 4611686018427387904)]
  refine ⟨_, by omega, j + 1, by omega, rfl, rfl, ?_⟩
  rw [pis_set_at (by simp; omega)]
  have hjv : j < (vstep p v[i] A[i] acc).length := by omega
  rw [← td_set hvsl hjv, vstep_get (by omega) hja]
theorem l02Product_ok (hp : 2 ≤ p ∧ p ≤ 7) (hA : Ma p B.length A) (hB : Ma p n B) (hn : n ≤ 8) (hbl : B.length ≤ 8) (hal : A.length ≤ 8) (hvA : FII vA A) (hvB : FII vB B) (hk : ∀ v, FII v (mm p n A B) → K v σ) :
    PCalls Try.prog 101 [.int .i64 p, vA, vB, .int .i64 n] σ K := by
  have h1 := hvA.one
  have h2 := hvB.one
  have hvBB := hvB
  obtain ⟨wA, aA, rA, rfl, hrA⟩ := hvA
  refine PCalls.gh ?_
  refine pcalls_of_vp mix Try.func101 cf101 rfl ?_
  dsimp only [if101, qI, eI, nI, qD, eD]
  simp only [pwA, if_true, if_false, eq_self, nm_eq, reduceCtorEq, ↓reduceIte, Nat.reduceEqDiff, Nat.reduceLeDiff, Nat.reduceBEq, Nat.reduceAdd, Nat.reduceLT, Nat.reduceSub, Nat.reduceMul, Int.reduceEq, Int.reduceLT, Int.reduceLE, Int.reduceNeg, Int.reduceToNat, List.reduceReplicate, Int.ofNat_le, List.getElem?_drop]
  refine vp_loop (fun m vs h' => ∃ (i : Nat) (vC : PV) (rows : List PV), i ≤ A.length ∧ m = A.length - i ∧ vs = [.int .i64 p, .fz wA aA A.length rA, vB, .int .i64 n, vC, .int .i64 i] ∧ Keep σ h' ∧ PSl σ.next 1 h' vC i rows ∧ All2 FI rows ((mm p n A B).take i)) A.length ?_ ?_
  · exact ⟨0, _, [], by omega, by omega, rfl, keep_new σ _, PSl.new _ 1 rfl (Nat.le_refl _), by rw [List.take_zero]; exact All2.nil _⟩
  rintro m vs h' ⟨i, vC, rows, hi, rfl, rfl, hkp, ha, hall⟩
  simp only [pwA, if_true, if_false, eq_self, nm_eq, reduceCtorEq, ↓reduceIte, Nat.reduceEqDiff, Nat.reduceLeDiff, Nat.reduceBEq, Nat.reduceAdd, Nat.reduceLT, Nat.reduceSub, Nat.reduceMul, Int.reduceEq, Int.reduceLT, Int.reduceLE, Int.reduceNeg, Int.reduceToNat, List.reduceReplicate, Int.ofNat_le, List.getElem?_drop]
  refine iteI (fun hlt => ?_) fun hge => ?_
  rotate_left
  · have hie : i = A.length := by omega
    subst hie
    rw [List.take_of_length_le (by rw [mm_length]; exact Nat.le_refl _)] at hall
    exact ha.fin hkp (hall.bI 0) fun o cap => hk _ ⟨true, _, rows, by rw [mm_length], hall⟩
  obtain ⟨w4, a4, hr⟩ := hrA.rowI hlt
  have hrow := hA _ (List.getElem_mem hlt)
  simp only [pwA, if_true, if_false, eq_self, nm_eq, reduceCtorEq, ↓reduceIte, Nat.reduceEqDiff, Nat.reduceLeDiff, Nat.reduceBEq, Nat.reduceAdd, Nat.reduceLT, Nat.reduceSub, Nat.reduceMul, Int.reduceEq, Int.reduceLT, Int.reduceLE, Int.reduceNeg, Int.reduceToNat, List.reduceReplicate, Int.ofNat_le, List.getElem?_drop, hlt, hr, List.getElem?_drop]
  refine l02Times_fz hp hB hrow hn hbl hvBB ⟨w4, a4, rfl⟩ fun z hz => ?_
  have hzz := hz
  obtain ⟨wz, az, rfl⟩ := hz
  simp only [pwA, if_true, if_false, eq_self, nm_eq, reduceCtorEq, ↓reduceIte, Nat.reduceEqDiff, Nat.reduceLeDiff, Nat.reduceBEq, Nat.reduceAdd, Nat.reduceLT, Nat.reduceSub, Nat.reduceMul, Int.reduceEq, Int.reduceLT, Int.reduceLE, Int.reduceNeg, Int.reduceToNat, List.reduceReplicate, Int.ofNat_le, List.getElem?_drop]
  refine PSl.push (bytes := 24) hkp ha (by omega) (by omega) fun v' h2 k2 a2 => ?_
  simp only [pwA, if_true, if_false, eq_self, nm_eq, reduceCtorEq, ↓reduceIte, Nat.reduceEqDiff, Nat.reduceLeDiff, Nat.reduceBEq, Nat.reduceAdd, Nat.reduceLT, Nat.reduceSub, Nat.reduceMul, Int.reduceEq, Int.reduceLT, Int.reduceLE, Int.reduceNeg, Int.reduceToNat, List.reduceReplicate, Int.ofNat_le, List.getElem?_drop, wrapS hlt (by omega : A.length ≤ 4611686018427387904)]
  refine ⟨_, by omega, i + 1, v', _, by omega, rfl, rfl, k2, a2, ?_⟩
  rw [mm_take hlt]
  exact hall.snoc hzz
theorem l01Same2_ok {xs ys : List (List Int)} (hU : FII vA xs) (hV : FII vB ys) (hx : xs.length ≤ 1048576) (hxl : ∀ x ∈ xs, x.length ≤ 1048576) (hk : ∀ t : Bool, (t = true ↔ xs = ys) → K (.bool t) σ) : PCalls Try.prog 102 [vA, vB] σ K := by
  have fl : ∀ {A : Prop}, ¬ A → ((false = true) ↔ A) := fun h => ⟨fun x => (by cases x), fun x => absurd x h⟩
  obtain ⟨wA, aA, rA, rfl, hrA⟩ := hU
  obtain ⟨wB, aB, rB, rfl, hrB⟩ := hV
  refine pcalls_of_vp mix Try.func102 cf102 rfl ?_
  dsimp only [if102, qI, eI, nI, qD, eD]
  by_cases hl : xs.length = ys.length
  rotate_left
  · have hl' : ¬ (xs.length : Int) = (ys.length : Int) := by omega
    simp only [pwA, if_true, if_false, eq_self, nm_eq, reduceCtorEq, ↓reduceIte, Nat.reduceEqDiff, Nat.reduceLeDiff, Nat.reduceBEq, Nat.reduceAdd, Nat.reduceLT, Nat.reduceSub, Nat.reduceMul, Int.reduceEq, Int.reduceLT, Int.reduceLE, Int.reduceNeg, Int.reduceToNat, List.reduceReplicate, Int.ofNat_le, List.getElem?_drop, hl']
    exact hk _ (fl fun h => hl (by rw [h]))
  have hl' : (xs.length : Int) = (ys.length : Int) := by omega
  simp only [pwA, if_true, if_false, eq_self, nm_eq, reduceCtorEq, ↓reduceIte, Nat.reduceEqDiff, Nat.reduceLeDiff, Nat.reduceBEq, Nat.reduceAdd, Nat.reduceLT, Nat.reduceSub, Nat.reduceMul, Int.reduceEq, Int.reduceLT, Int.reduceLE, Int.reduceNeg, Int.reduceToNat, List.reduceReplicate, Int.ofNat_le, List.getElem?_drop, eq_true hl']
  refine vp_loop (fun m vs h' => ∃ i : Nat, i ≤ xs.length ∧ m = xs.length - i ∧ vs = [.fz wA aA xs.length rA, .fz wB aB ys.length rB, .int .i64 i] ∧ σ = h' ∧ xs.take i = ys.take i) xs.length ?_ ?_
  · exact ⟨0, by omega, by omega, rfl, rfl, rfl⟩
  rintro m vs h' ⟨i, hi, rfl, rfl, rfl, heq⟩
  simp only [pwA, if_true, if_false, eq_self, nm_eq, reduceCtorEq, ↓reduceIte, Nat.reduceEqDiff, Nat.reduceLeDiff, Nat.reduceBEq, Nat.reduceAdd, Nat.reduceLT, Nat.reduceSub, Nat.reduceMul, Int.reduceEq, Int.reduceLT, Int.reduceLE, Int.reduceNeg, Int.reduceToNat, List.reduceReplicate, Int.ofNat_le, List.getElem?_drop]
  refine iteI (fun hlt => ?_) fun hge => ?_
  rotate_left
  · have hie : i = xs.length := by omega
    subst hie
    rw [List.take_length, hl, List.take_length] at heq
    exact hk _ ⟨fun _ => heq, fun _ => rfl⟩
  have hlt2 : i < ys.length := by omega
  obtain ⟨w4, a4, hr⟩ := hrA.rowI hlt
  obtain ⟨w5, a5, hr2⟩ := hrB.rowI hlt2
  have hb := hxl _ (List.getElem_mem hlt)
  simp only [pwA, if_true, if_false, eq_self, nm_eq, reduceCtorEq, ↓reduceIte, Nat.reduceEqDiff, Nat.reduceLeDiff, Nat.reduceBEq, Nat.reduceAdd, Nat.reduceLT, Nat.reduceSub, Nat.reduceMul, Int.reduceEq, Int.reduceLT, Int.reduceLE, Int.reduceNeg, Int.reduceToNat, List.reduceReplicate, Int.ofNat_le, List.getElem?_drop, hlt, hlt2, hr, hr2, List.getElem?_drop]
  refine l01Same_ok rfl rfl (by omega) ?_
  by_cases he : xs[i] = ys[i]
  · simp only [pwA, if_true, if_false, eq_self, nm_eq, reduceCtorEq, ↓reduceIte, Nat.reduceEqDiff, Nat.reduceLeDiff, Nat.reduceBEq, Nat.reduceAdd, Nat.reduceLT, Nat.reduceSub, Nat.reduceMul, Int.reduceEq, Int.reduceLT, Int.reduceLE, Int.reduceNeg, Int.reduceToNat, List.reduceReplicate, Int.ofNat_le, List.getElem?_drop, he, wrapS hlt (by omega : xs.length ≤ 4611686018427387904)]
    refine ⟨_, by omega, i + 1, by omega, rfl, rfl, ?_⟩
    rw [List.take_succ_eq_append_getElem hlt, List.take_succ_eq_append_getElem hlt2, heq, he]
  · simp only [pwA, if_true, if_false, eq_self, nm_eq, reduceCtorEq, ↓reduceIte, Nat.reduceEqDiff, Nat.reduceLeDiff, Nat.reduceBEq, Nat.reduceAdd, Nat.reduceLT, Nat.reduceSub, Nat.reduceMul, Int.reduceEq, Int.reduceLT, Int.reduceLE, Int.reduceNeg, Int.reduceToNat, List.reduceReplicate, Int.ofNat_le, List.getElem?_drop, he]
    refine hk _ (fl fun h => he ?_)
    subst h; rfl
end Go.Proofs
set_option linter.unusedSimpArgs false
set_option linter.unusedVariables false
namespace Go.Proofs
open Go.Ab Go.Lie Go.Grp Go.Mx
variable {σ : PHeap} {K : PV → PHeap → Prop} {p : Int} {n na : Nat} {v w x xs ys : List Int} {A B M : List (List Int)} {vA vB vM vv vx v0 : PV} {O : List Int} {P : List (List Int)} {C : List (List (List Int))} {vO vP vC : PV} {s : Nat}
theorem nword_step (i k : Nat) : nword x i ++ List.replicate (k + 1) ((i : Int) + 1) = (nword x i ++ List.replicate k ((i : Int) + 1)) ++ [(i : Int) + 1] := by
  rw [List.replicate_succ', List.append_assoc]
theorem normalWord_ok (hx : ∀ j, 0 ≤ at_ x j ∧ at_ x j ≤ 7) (hl : x.length ≤ 6) (hvx : FI vx x) (hk : ResI σ K (nw x)) : PCalls Try.prog 71 [vx] σ K := by
  obtain ⟨wx, ax, rfl⟩ := hvx
  have hwl : ∀ i, i ≤ x.length → (nword x i).length ≤ 42 := fun i hi => by
    have := nword_length (x := x) (b := 7) (fun j => by have := hx j; unfold nx; omega) i
    omega
  refine PCalls.gh ?_
  refine pcalls_of_vp mix Try.func71 cf71 rfl ?_
  dsimp only [if71, qI, eI, nI, qD, eD]
  simp only [pwA, if_true, if_false, eq_self, nm_eq, reduceCtorEq, ↓reduceIte, Nat.reduceEqDiff, Nat.reduceLeDiff, Nat.reduceBEq, Nat.reduceAdd, Nat.reduceLT, Nat.reduceSub, Nat.reduceMul, Int.reduceEq, Int.reduceLT, Int.reduceLE, Int.reduceNeg, Int.reduceToNat, List.reduceReplicate, Int.ofNat_le, List.getElem?_drop]
  refine vp_loop (fun m vs h' => ∃ (i : Nat) (vC : PV), i ≤ x.length ∧ m = x.length - i ∧ vs = [vC, .fz wx ax x.length (pis x), .int .i64 x.length, .int .i64 i] ∧ Keep σ h' ∧ PAcc σ.next 1 h' vC (nword x i).length (pis (nword x i))) x.length ?_ ?_
  · exact ⟨0, _, by omega, by omega, rfl, Keep.refl σ, PAcc.nil _ _ _⟩
  rintro m vs h' ⟨i, vC, hi, rfl, rfl, hkp, ha⟩
  simp only [pwA, if_true, if_false, eq_self, nm_eq, reduceCtorEq, ↓reduceIte, Nat.reduceEqDiff, Nat.reduceLeDiff, Nat.reduceBEq, Nat.reduceAdd, Nat.reduceLT, Nat.reduceSub, Nat.reduceMul, Int.reduceEq, Int.reduceLT, Int.reduceLE, Int.reduceNeg, Int.reduceToNat, List.reduceReplicate, Int.ofNat_le, List.getElem?_drop]
  refine iteI (fun hlt => ?_) fun hge => ?_
  rotate_left
  · have hie : i = x.length := by omega
    subst hie
    exact ha.res hkp rfl hk
  have bx := hx i
  have hnx : ((nx x i : Nat) : Int) = x[i] := by
    unfold nx
    rw [Int.toNat_of_nonneg bx.1, at_eq hlt]
  have hn7 : nx x i ≤ 7 := by unfold nx; omega
  simp only [pwA, if_true, if_false, eq_self, nm_eq, reduceCtorEq, ↓reduceIte, Nat.reduceEqDiff, Nat.reduceLeDiff, Nat.reduceBEq, Nat.reduceAdd, Nat.reduceLT, Nat.reduceSub, Nat.reduceMul, Int.reduceEq, Int.reduceLT, Int.reduceLE, Int.reduceNeg, Int.reduceToNat, List.reduceReplicate, Int.ofNat_le, List.getElem?_drop, hlt, gi hlt, pis_get, List.getElem?_drop]
  refine vp_loop (fun m vs h' => ∃ (k : Nat) (vC : PV), k ≤ nx x i ∧ m = nx x i - k ∧ vs = [vC, .int .i64 i, .fz wx ax x.length (pis x), .int .i64 x.length, .int .i64 i, .int .i64 x[i], .int .i64 k] ∧ Keep σ h' ∧ PAcc σ.next 1 h' vC (nword x i ++ List.replicate k ((i : Int) + 1)).length (pis (nword x i ++ List.replicate k ((i : Int) + 1)))) (nx x i) ?_ ?_
  · exact ⟨0, vC, by omega, by omega, rfl, hkp, by simpa using ha⟩
  clear ha hkp vC
  rintro m vs h' ⟨k, vC, hk', rfl, rfl, hkp, ha⟩
  rw [← hnx]
  simp only [pwA, if_true, if_false, eq_self, nm_eq, reduceCtorEq, ↓reduceIte, Nat.reduceEqDiff, Nat.reduceLeDiff, Nat.reduceBEq, Nat.reduceAdd, Nat.reduceLT, Nat.reduceSub, Nat.reduceMul, Int.reduceEq, Int.reduceLT, Int.reduceLE, Int.reduceNeg, Int.reduceToNat, List.reduceReplicate, Int.ofNat_le, List.getElem?_drop]
  refine iteI (fun hlk => ?_) fun hgk => ?_
  · have hlk' : k < nx x i := by omega
    have hb := hwl i (by omega)
    have hlen : (nword x i ++ List.replicate k ((i : Int) + 1)).length ≤ 60 := by simp; omega
    have ew : IntKind.i64.wrap ((i : Int) + 1) = (i : Int) + 1 := wrap64 (by omega) (by omega)
    have ew2 : IntKind.i64.wrap ((k : Int) + 1) = ((k + 1 : Nat) : Int) := wrapS hlk' (by omega)
    simp only [pwA, if_true, if_false, eq_self, nm_eq, reduceCtorEq, ↓reduceIte, Nat.reduceEqDiff, Nat.reduceLeDiff, Nat.reduceBEq, Nat.reduceAdd, Nat.reduceLT, Nat.reduceSub, Nat.reduceMul, Int.reduceEq, Int.reduceLT, Int.reduceLE, Int.reduceNeg, Int.reduceToNat, List.reduceReplicate, Int.ofNat_le, List.getElem?_drop, ew]
    refine PAcc.push (bytes := 8) (σb := σ) hkp ha (by omega) (by omega) fun v' h2 k2 a2 => ?_
    simp only [pwA, if_true, if_false, eq_self, nm_eq, reduceCtorEq, ↓reduceIte, Nat.reduceEqDiff, Nat.reduceLeDiff, Nat.reduceBEq, Nat.reduceAdd, Nat.reduceLT, Nat.reduceSub, Nat.reduceMul, Int.reduceEq, Int.reduceLT, Int.reduceLE, Int.reduceNeg, Int.reduceToNat, List.reduceReplicate, Int.ofNat_le, List.getElem?_drop, ew2]
    refine ⟨nx x i - (k + 1), by omega, k + 1, v', by omega, rfl, by rw [hnx], k2, ?_⟩
    rw [nword_step]
    have := a2.acc
    simpa [pis, Nat.add_assoc] using this
  · have hke : k = nx x i := by omega
    subst hke
    simp only [pwA, if_true, if_false, eq_self, nm_eq, reduceCtorEq, ↓reduceIte, Nat.reduceEqDiff, Nat.reduceLeDiff, Nat.reduceBEq, Nat.reduceAdd, Nat.reduceLT, Nat.reduceSub, Nat.reduceMul, Int.reduceEq, Int.reduceLT, Int.reduceLE, Int.reduceNeg, Int.reduceToNat, List.reduceReplicate, Int.ofNat_le, List.getElem?_drop, wrapS hlt (by omega : x.length ≤ 4611686018427387904)]
    exact ⟨_, by omega, i + 1, vC, by omega, rfl, rfl, hkp, ha⟩
theorem Mul64_ok {c : Nat} (hc : c ≤ 7) (hk : K (.tup [.int .u64 0, .int .u64 c]) σ) : PCalls Try.prog 148 [.int .u64 1, .int .u64 c] σ K := by
  have e1 : pbin .and .other (.int .u64 1) (.int .u64 4294967295) = some (.int .u64 1) := by rfl
  have e2 : pbin .shr .other (.int .u64 1) (.int .u64 32) = some (.int .u64 0) := by rfl
  have e3 : pbin .and .other (.int .u64 c) (.int .u64 4294967295) = some (.int .u64 c) := by
    obtain rfl | rfl | rfl | rfl | rfl | rfl | rfl | rfl : c = 0 ∨ c = 1 ∨ c = 2 ∨ c = 3 ∨ c = 4 ∨ c = 5 ∨ c = 6 ∨ c = 7 := by omega
    all_goals rfl
  have e4 : pbin .shr .other (.int .u64 c) (.int .u64 32) = some (.int .u64 0) := by
    obtain rfl | rfl | rfl | rfl | rfl | rfl | rfl | rfl : c = 0 ∨ c = 1 ∨ c = 2 ∨ c = 3 ∨ c = 4 ∨ c = 5 ∨ c = 6 ∨ c = 7 := by omega
    all_goals rfl
  have e5 : pbin .and .other (.int .u64 0) (.int .u64 4294967295) = some (.int .u64 0) := by rfl
  have e6 : pbin .shr .other (.int .u64 0) (.int .u64 32) = some (.int .u64 0) := by rfl
  have w0 : IntKind.u64.wrap 0 = 0 := by rfl
  have w1 : IntKind.u64.wrap (c : Int) = (c : Int) := by
    obtain rfl | rfl | rfl | rfl | rfl | rfl | rfl | rfl : c = 0 ∨ c = 1 ∨ c = 2 ∨ c = 3 ∨ c = 4 ∨ c = 5 ∨ c = 6 ∨ c = 7 := by omega
    all_goals rfl
  have m0 : ∀ k : Int, (0 : Int) * k = 0 := Int.zero_mul
  have m1 : ∀ k : Int, (1 : Int) * k = k := Int.one_mul
  have m2 : ∀ k : Int, k * (0 : Int) = 0 := Int.mul_zero
  have a0 : (0 : Int) + 0 = 0 := rfl
  refine pcalls_of_vp mix Try.func148 cf148 rfl ?_
  dsimp only [if148, qI, eI, nI, qD, eD]
  simp only [pwA, if_true, if_false, eq_self, nm_eq, reduceCtorEq, ↓reduceIte, Nat.reduceEqDiff, Nat.reduceLeDiff, Nat.reduceBEq, Nat.reduceAdd, Nat.reduceLT, Nat.reduceSub, Nat.reduceMul, Int.reduceEq, Int.reduceLT, Int.reduceLE, Int.reduceNeg, Int.reduceToNat, List.reduceReplicate, Int.ofNat_le, List.getElem?_drop, e1, e2, e3, e4, e5, e6, w0, w1, m0, m1, m2, a0]
  exact hk
theorem Mul_ok {c : Nat} (hc : c ≤ 7) (hk : K (.tup [.int .u64 0, .int .u64 c]) σ) : PCalls Try.prog 138 [.int .u64 1, .int .u64 c] σ K := by
  refine pcalls_of_vp mix Try.func138 cf138 rfl ?_
  dsimp only [if138, qI, eI, nI, qD, eD]
  simp only [pwA, if_true, if_false, eq_self, nm_eq, reduceCtorEq, ↓reduceIte, Nat.reduceEqDiff, Nat.reduceLeDiff, Nat.reduceBEq, Nat.reduceAdd, Nat.reduceLT, Nat.reduceSub, Nat.reduceMul, Int.reduceEq, Int.reduceLT, Int.reduceLE, Int.reduceNeg, Int.reduceToNat, List.reduceReplicate, Int.ofNat_le, List.getElem?_drop]
  refine Mul64_ok hc ?_
  simp only [pwA, if_true, if_false, eq_self, nm_eq, reduceCtorEq, ↓reduceIte, Nat.reduceEqDiff, Nat.reduceLeDiff, Nat.reduceBEq, Nat.reduceAdd, Nat.reduceLT, Nat.reduceSub, Nat.reduceMul, Int.reduceEq, Int.reduceLT, Int.reduceLE, Int.reduceNeg, Int.reduceToNat, List.reduceReplicate, Int.ofNat_le, List.getElem?_drop]
  exact hk
theorem pnew_setX {h : PHeap} {a b : List PV} : (h.new a).set h.next b = h.new b := by
  show PHeap.mk _ _ _ = PHeap.mk _ _ _
  congr 1
  funext t
  show (if t = h.next then some b else if t = h.next then some a else h.obj t) = if t = h.next then some b else h.obj t
  by_cases e : t = h.next
  · rw [if_pos e, if_pos e]
  · rw [if_neg e, if_neg e, if_neg e]
/-- k entries l, then zeros. -/
def rl (l : Int) (c k : Nat) : List Int := List.replicate k l ++ List.replicate (c - k) 0
theorem rl_length {l : Int} {c k : Nat} (h : k ≤ c) : (rl l c k).length = c := by simp [rl]; omega
theorem rl_step {l : Int} {c k m : Nat} (h : k + m ≤ c) : (pis (rl l c k)).take k ++ pis (List.replicate m l) ++ (pis (rl l c k)).drop (k + m) = pis (rl l c (k + m)) := by
  have e1 : (pis (rl l c k)).take k = pis (List.replicate k l) := by
    unfold rl pis
    rw [List.map_append, List.take_append_of_le_length (by simp), List.take_of_length_le (by simp)]
  have e2 : (pis (rl l c k)).drop (k + m) = pis (List.replicate (c - (k + m)) 0) := by
    unfold rl pis
    rw [List.map_append, List.drop_append, List.drop_of_length_le (by simp), List.nil_append]
    simp
    omega
  rw [e1, e2]
  unfold rl pis
  rw [← List.map_append, List.replicate_append_replicate, ← List.map_append]
theorem copy_first {l : Int} {c : Nat} {w : Bool} {a : AV} : pcopy 1 (σ.new (pis (rl l c 0))) (.sl σ.next 0 c (.known c)) (.fz w a 1 (pis [l])) = some (.int .i64 ((min 1 c : Nat) : Int), σ.new (pis (rl l c (min 1 c)))) := by
  rw [pcopy_eq]
  simp only [plen, Option.bind_some]
  rcases Nat.eq_zero_or_pos c with rfl | hc
  · rfl
  have e : min 1 c = 1 := by omega
  rw [e, if_neg (by omega), pfirst_fz, if_neg (by omega), if_pos (by simp [pis])]
  simp only [Option.bind_some]
  rw [obj_wr (cs := pis (rl l c 0)) (by rw [pobj_new, if_pos rfl]), if_pos ⟨by rw [pis_length, rl_length (Nat.zero_le _)]; simp [pis]; omega, by simp [pis, PV.one]⟩, pnew_setX]
  have := rl_step (l := l) (c := c) (k := 0) (m := 1) (by omega)
  simp only [Option.map_some]
  rw [Nat.zero_add] at this
  rw [← this]
  simp [pis]
theorem copy_next {l : Int} {c k : Nat} (h0 : 0 < k) (hk : k < c) : pcopy 1 (σ.new (pis (rl l c k))) (.sl σ.next k (c - k) (.known (c - k))) (.sl σ.next 0 k (.known c)) = some (.int .i64 ((min k (c - k) : Nat) : Int), σ.new (pis (rl l c (k + min k (c - k))))) := by
  rw [pcopy_eq]
  simp only [plen, Option.bind_some]
  have hm : min k (c - k) ≠ 0 := by omega
  have hmk : min k (c - k) ≤ k := by omega
  have hmc : k + min k (c - k) ≤ c := by omega
  generalize min k (c - k) = m at *
  have hf : pfirst 1 (σ.new (pis (rl l c k))) (.sl σ.next 0 k (.known c)) m = some (pis (List.replicate m l)) := by
    rw [pfirst_sl, if_neg hm, if_pos hmk, obj_rd (cs := pis (rl l c k)) (by rw [pobj_new, if_pos rfl]), if_pos (by rw [pis_length, rl_length (by omega)]; omega), List.drop_zero, Nat.mul_one]
    congr 1
    unfold rl pis
    rw [List.map_append, List.take_append_of_le_length (by simp; omega), List.map_replicate, List.take_replicate, List.map_replicate, Nat.min_eq_left hmk]
  rw [if_neg hm, hf]
  simp only [Option.bind_some]
  rw [obj_wr (cs := pis (rl l c k)) (by rw [pobj_new, if_pos rfl]), if_pos ⟨by rw [pis_length, pis_length, rl_length (by omega), List.length_replicate]; omega, by simp [pis, PV.one]⟩, pnew_setX, pis_length, List.length_replicate, rl_step hmc]
  rfl
theorem Repeat_ok {l : Int} {c : Nat} (hc : c ≤ 7) (hvx : FI vx [l]) (hk : ∀ v, FI v (List.replicate c l) → K v σ) : PCalls Try.prog 129 [vx, .int .i64 c] σ K := by
  obtain ⟨wx, ax, rfl⟩ := hvx
  refine PCalls.gh ?_
  have h0 : ¬ (c : Int) < 0 := by omega
  have h1 : ¬ (9223372036854775807 : Int) < (c : Int) := by omega
  have w1 : IntKind.u64.wrap (c : Int) = (c : Int) := by
    obtain rfl | rfl | rfl | rfl | rfl | rfl | rfl | rfl : c = 0 ∨ c = 1 ∨ c = 2 ∨ c = 3 ∨ c = 4 ∨ c = 5 ∨ c = 6 ∨ c = 7 := by omega
    all_goals rfl
  have w2 : IntKind.i64.wrap (c : Int) = (c : Int) := wrap64 (by omega) (by omega)
  have w3 : IntKind.u64.wrap 1 = 1 := by rfl
  refine pcalls_of_vp mix Try.func129 cf129 rfl ?_
  dsimp only [if129, qI, eI, nI, qD, eD]
  simp only [pwA, if_true, if_false, eq_self, nm_eq, reduceCtorEq, ↓reduceIte, Nat.reduceEqDiff, Nat.reduceLeDiff, Nat.reduceBEq, Nat.reduceAdd, Nat.reduceLT, Nat.reduceSub, Nat.reduceMul, Int.reduceEq, Int.reduceLT, Int.reduceLE, Int.reduceNeg, Int.reduceToNat, List.reduceReplicate, Int.ofNat_le, List.getElem?_drop, h0, w1, w3, List.length_cons, List.length_nil]
  refine Mul_ok hc ?_
  simp only [pwA, if_true, if_false, eq_self, nm_eq, reduceCtorEq, ↓reduceIte, Nat.reduceEqDiff, Nat.reduceLeDiff, Nat.reduceBEq, Nat.reduceAdd, Nat.reduceLT, Nat.reduceSub, Nat.reduceMul, Int.reduceEq, Int.reduceLT, Int.reduceLE, Int.reduceNeg, Int.reduceToNat, List.reduceReplicate, Int.ofNat_le, List.getElem?_drop, h1, w2, List.length_replicate, pis_rep, mk8 (n := c) (by omega), mkL (n := c) (by omega)]
  have hz : List.replicate c 0 = rl l c 0 := by simp [rl]
  rw [hz, copy_first]
  refine ⟨_, rfl, ?_⟩
  simp only [pwA, if_true, if_false, eq_self, nm_eq, reduceCtorEq, ↓reduceIte, Nat.reduceEqDiff, Nat.reduceLeDiff, Nat.reduceBEq, Nat.reduceAdd, Nat.reduceLT, Nat.reduceSub, Nat.reduceMul, Int.reduceEq, Int.reduceLT, Int.reduceLE, Int.reduceNeg, Int.reduceToNat, List.reduceReplicate, Int.ofNat_le, List.getElem?_drop]
  refine vp_loop (fun m vs h' => ∃ k : Nat, k ≤ c ∧ (k = 0 → c = 0) ∧ m = c - k ∧ vs = [.sl σ.next 0 c (.known c), .int .i64 k] ∧ h' = σ.new (pis (rl l c k))) (c - min 1 c) ?_ ?_
  · exact ⟨min 1 c, by omega, fun h => by omega, rfl, rfl, rfl⟩
  rintro m vs h' ⟨k, hkc, hk0, rfl, rfl, rfl⟩
  simp only [pwA, if_true, if_false, eq_self, nm_eq, reduceCtorEq, ↓reduceIte, Nat.reduceEqDiff, Nat.reduceLeDiff, Nat.reduceBEq, Nat.reduceAdd, Nat.reduceLT, Nat.reduceSub, Nat.reduceMul, Int.reduceEq, Int.reduceLT, Int.reduceLE, Int.reduceNeg, Int.reduceToNat, List.reduceReplicate, Int.ofNat_le, List.getElem?_drop]
  refine iteI (fun hlt => ?_) fun hge => ?_
  rotate_left
  · have hke : k = c := by omega
    subst hke
    have hre : rl l k k = List.replicate k l := by simp [rl]
    rw [hre]
    exact Gh.finF (s := σ.next) (keep_new σ _) (by simp only [pwA, if_true, if_false, eq_self, nm_eq, reduceCtorEq, ↓reduceIte, Nat.reduceEqDiff, Nat.reduceLeDiff, Nat.reduceBEq, Nat.reduceAdd, Nat.reduceLT, Nat.reduceSub, Nat.reduceMul, Int.reduceEq, Int.reduceLT, Int.reduceLE, Int.reduceNeg, Int.reduceToNat, List.reduceReplicate, Int.ofNat_le, List.getElem?_drop]; rfl) (Nat.le_refl _) (pis_bel _ _) (show capOK (.known k) k = true by simp [capOK]) fun o => hk _ ⟨true, .sl o 0 k (.known k), by rw [List.length_replicate]⟩
  have hlt' : k < c := by omega
  have hle : k ≤ c := by omega
  have hleI : (k : Int) ≤ (c : Int) := by omega
  have hne : ¬ c = k := by omega
  have hcn := copy_next (σ := σ) (l := l) (by omega : 0 < k) hlt'
  have hm : min k (c - k) ≤ c := by omega
  have ew : IntKind.i64.wrap ((k : Int) + ((min k (c - k) : Nat) : Int)) = ((k + min k (c - k) : Nat) : Int) := by rw [wrap64 (by omega) (by omega)]; omega
  simp only [pwA, if_true, if_false, eq_self, nm_eq, reduceCtorEq, ↓reduceIte, Nat.reduceEqDiff, Nat.reduceLeDiff, Nat.reduceBEq, Nat.reduceAdd, Nat.reduceLT, Nat.reduceSub, Nat.reduceMul, Int.reduceEq, Int.reduceLT, Int.reduceLE, Int.reduceNeg, Int.reduceToNat, List.reduceReplicate, Int.ofNat_le, List.getElem?_drop, hle, hleI, hne, hcn, ew, Nat.sub_zero, ite_self, Option.isSome_none, Option.isNone_none, Bool.false_eq_true, and_false]
  exact ⟨_, by omega, k + min k (c - k), by omega, fun h => by omega, rfl, rfl, rfl⟩
end Go.Proofs
set_option linter.unusedSimpArgs false
set_option linter.unusedVariables false
namespace Go.Proofs
open Go.Ab Go.Lie Go.Grp Go.Mx
variable {σ : PHeap} {K : PV → PHeap → Prop} {p : Int} {n na : Nat} {v w x xs ys : List Int} {A B M : List (List Int)} {vA vB vM vv vx v0 : PV} {O : List Int} {P : List (List Int)} {C : List (List (List Int))} {vO vP vC : PV} {s : Nat}
theorem normalWord_fz (hx : ∀ j, 0 ≤ at_ x j ∧ at_ x j ≤ 7) (hl : x.length ≤ 6) (hvx : FI vx x) (hk : ∀ v, FI v (nw x) → K v σ) : PCalls Try.prog 71 [vx] σ K :=
  PCalls.fzI (fun K' => normalWord_ok hx hl hvx) fun a => hk _ ⟨_, _, rfl⟩
/-- Pairs of words in cells. -/
def fl2 (rows : List (PV × PV)) : List PV := rows.flatMap fun r => [r.1, r.2]
def FI2 (a : PV × PV) (b : List Int × List Int) : Prop := FI a.1 b.1 ∧ FI a.2 b.2
theorem fl2_snoc (rows : List (PV × PV)) (a b : PV) : fl2 (rows ++ [(a, b)]) = fl2 rows ++ [a, b] := by simp [fl2]
theorem fl2_length : ∀ rows : List (PV × PV), (fl2 rows).length = 2 * rows.length
  | [] => rfl
  | r :: rows => by
    have := fl2_length rows
    simp only [fl2, List.flatMap_cons, List.length_append, List.length_cons, List.length_nil] at this ⊢
    omega
theorem fl2_bel {rows : List (PV × PV)} {rel : List (List Int × List Int)} (h : All2 FI2 rows rel) : Bels 0 (fl2 rows) := by
  refine Bels_iff.2 fun c hc => ?_
  simp only [fl2, List.mem_flatMap] at hc
  obtain ⟨r, hr, hc⟩ := hc
  obtain ⟨k, hk, rfl⟩ := List.mem_iff_getElem.1 hr
  have hk2 : k < rel.length := by rw [← h.1]; exact hk
  have := h.2 k _ _ (List.getElem?_eq_getElem hk) (List.getElem?_eq_getElem hk2)
  simp only [List.mem_cons, List.not_mem_nil, or_false] at hc
  rcases hc with rfl | rfl
  · exact this.1.bel 0
  · exact this.2.bel 0
theorem fl2_get : ∀ {rows : List (PV × PV)} {k : Nat} (hk : k < rows.length), ((fl2 rows).drop (k * 2)).take 2 = [rows[k].1, rows[k].2]
  | r :: rows, 0, _ => by simp [fl2]
  | r :: rows, k + 1, hk => by
    have := fl2_get (rows := rows) (k := k) (by simpa using hk)
    have e : (k + 1) * 2 = k * 2 + 2 := by omega
    rw [e]
    simpa [fl2] using this
/-- A list of pairs of words. -/
def FLP (v : PV) (rel : List (List Int × List Int)) : Prop := ∃ a rows, v = .fz true a rel.length (fl2 rows) ∧ All2 FI2 rows rel
/-- The pairs up to a generator. -/
def relA (O : List Int) (P : List (List Int)) (C : List (List (List Int))) (i : Nat) : List (List Int × List Int) :=
  (List.range O.length).map (powR O P) ++ (List.range i).flatMap fun i => (List.range (C.getD i []).length).map (conR C i)
theorem relA_succ (i : Nat) : relA O P C (i + 1) = relA O P C i ++ (List.range (C.getD i []).length).map (conR C i) := by
  unfold relA
  rw [List.range_succ, List.flatMap_append, ← List.append_assoc]
  simp
theorem relA_len (s : Shp O P C) : ∀ {i : Nat}, i ≤ O.length → (relA O P C i).length ≤ 6 + 6 * i
  | 0, _ => by have := s.le; simp [relA]; omega
  | i + 1, hi => by
    have h1 := relA_len s (i := i) (by omega)
    have h2 := s.row i (by omega)
    have := s.le
    rw [relA_succ, List.length_append, List.length_map, List.length_range, h2]
    omega
theorem relationSides_ok (s : Shp O P C) {sp : Nat} (hs : PtrG σ sp vO vP vC) (hR : IsPr vO vP vC O P C) (hk : ∀ v, FLP v (relL O P C) → K v σ) : PCalls Try.prog 107 [.ptr sp 0] σ K := by
  have hn6 := s.le
  have hR0 := hR
  have hsl := hs.lt
  obtain ⟨⟨w0, a0, rfl⟩, ⟨w1, a1, rP, rfl, hP⟩, ⟨w3, a3, rC, rfl, hC⟩⟩ := hR
  have e00 : σ.rd1 sp 0 = some (.fz w0 a0 O.length (pis O)) := by rw [obj_rd1 hs.obj]; rfl
  have hz2 : ofAVs (zeros [AV.nils, AV.nils] 1) = [.fz true .nils 0 [], .fz true .nils 0 []] := rfl
  refine PCalls.pwf fun wf => PCalls.gh ?_
  refine pcalls_of_vp mix Try.func107 cf107 rfl ?_
  dsimp only [if107, qI, eI, nI, qD, eD]
  simp only [pwA, if_true, if_false, eq_self, nm_eq, reduceCtorEq, ↓reduceIte, Nat.reduceEqDiff, Nat.reduceLeDiff, Nat.reduceBEq, Nat.reduceAdd, Nat.reduceLT, Nat.reduceSub, Nat.reduceMul, Int.reduceEq, Int.reduceLT, Int.reduceLE, Int.reduceNeg, Int.reduceToNat, List.reduceReplicate, Int.ofNat_le, List.getElem?_drop, e00]
  refine vp_loop (fun m vs h' => ∃ (i : Nat) (vL : PV) (rows : List (PV × PV)), i ≤ O.length ∧ m = O.length - i ∧ vs = [.ptr sp 0, vL, .fz w0 a0 O.length (pis O), .int .i64 O.length, .int .i64 i] ∧ Keep σ h' ∧ PAcc σ.next 2 h' vL i (fl2 rows) ∧ All2 FI2 rows ((List.range i).map (powR O P))) O.length ?_ ?_
  · exact ⟨0, _, [], by omega, by omega, rfl, Keep.refl σ, PAcc.nil _ _ _, All2.nil _⟩
  rintro m vs h' ⟨i, vL, rows, hi, rfl, rfl, hkp, ha, hall⟩
  have hs' := hs.keep hkp
  have e0 : h'.rd1 sp 0 = some (.fz w0 a0 O.length (pis O)) := by rw [obj_rd1 hs'.obj]; rfl
  have e1 : h'.rd1 sp 1 = some (.fz w1 a1 P.length rP) := by rw [obj_rd1 hs'.obj]; rfl
  have e2 : h'.rd1 sp 2 = some (.fz w3 a3 C.length rC) := by rw [obj_rd1 hs'.obj]; rfl
  have hspl : sp < h'.next := hs'.lt
  simp only [pwA, if_true, if_false, eq_self, nm_eq, reduceCtorEq, ↓reduceIte, Nat.reduceEqDiff, Nat.reduceLeDiff, Nat.reduceBEq, Nat.reduceAdd, Nat.reduceLT, Nat.reduceSub, Nat.reduceMul, Int.reduceEq, Int.reduceLT, Int.reduceLE, Int.reduceNeg, Int.reduceToNat, List.reduceReplicate, Int.ofNat_le, List.getElem?_drop]
  refine iteI (fun hlt => ?_) fun hge => ?_
  · have bO := s.pr i hlt
    rw [at_eq hlt] at bO
    have hnO : ((nx O i : Nat) : Int) = O[i] := by unfold nx; rw [at_eq hlt]; omega
    have hiP : i < P.length := by rw [s.pl]; exact hlt
    obtain ⟨w5, a5, hpr⟩ := hP.rowI hiP
    have hpv := s.pw i hlt
    have gP : P.getD i [] = P[i] := getD_row' hiP
    rw [show pvec P i = P[i] from gP] at hpv
    have ew : IntKind.i64.wrap ((i : Int) + 1) = (i : Int) + 1 := wrap64 (by omega) (by omega)
    have hsn : ¬ sp = h'.next := by omega
    simp only [pwA, if_true, if_false, eq_self, nm_eq, reduceCtorEq, ↓reduceIte, Nat.reduceEqDiff, Nat.reduceLeDiff, Nat.reduceBEq, Nat.reduceAdd, Nat.reduceLT, Nat.reduceSub, Nat.reduceMul, Int.reduceEq, Int.reduceLT, Int.reduceLE, Int.reduceNeg, Int.reduceToNat, List.reduceReplicate, Int.ofNat_le, List.getElem?_drop, hlt, gi hlt, pis_get, List.getElem?_drop, e1, hiP, hpr, ew, hsn]
    rw [← hnO]
    have hcap1 : capOK (.known 1) 1 = true := rfl
    refine PCalls.frz (s := h'.next) (cs := pis [(i : Int) + 1]) (by simp only [pwA, if_true, if_false, eq_self, nm_eq, reduceCtorEq, ↓reduceIte, Nat.reduceEqDiff, Nat.reduceLeDiff, Nat.reduceBEq, Nat.reduceAdd, Nat.reduceLT, Nat.reduceSub, Nat.reduceMul, Int.reduceEq, Int.reduceLT, Int.reduceLE, Int.reduceNeg, Int.reduceToNat, List.reduceReplicate, Int.ofNat_le, List.getElem?_drop]; rfl) (pis_bel _ _) fun o1 => ?_
    simp only [sbs, sb, hcap1, and_self, if_true, nm_eq]
    refine Repeat_ok (l := (i : Int) + 1) (by omega) ⟨true, _, rfl⟩ fun v1 hv1 => ?_
    simp only [pwA, if_true, if_false, eq_self, nm_eq, reduceCtorEq, ↓reduceIte, Nat.reduceEqDiff, Nat.reduceLeDiff, Nat.reduceBEq, Nat.reduceAdd, Nat.reduceLT, Nat.reduceSub, Nat.reduceMul, Int.reduceEq, Int.reduceLT, Int.reduceLE, Int.reduceNeg, Int.reduceToNat, List.reduceReplicate, Int.ofNat_le, List.getElem?_drop, e1, hsn, hiP, hpr]
    refine normalWord_fz (x := P[i]) (fun j => by
      rcases Nat.lt_or_ge j O.length with g | g
      · have := hpv.bd j g
        have := s.pr j g
        omega
      · rw [at_ge (by rw [hpv.len]; exact g)]; omega) (by rw [hpv.len]; exact hn6) ⟨w5, a5, rfl⟩ fun v2 hv2 => ?_
    simp only [pwA, if_true, if_false, eq_self, nm_eq, reduceCtorEq, ↓reduceIte, Nat.reduceEqDiff, Nat.reduceLeDiff, Nat.reduceBEq, Nat.reduceAdd, Nat.reduceLT, Nat.reduceSub, Nat.reduceMul, Int.reduceEq, Int.reduceLT, Int.reduceLE, Int.reduceNeg, Int.reduceToNat, List.reduceReplicate, Int.ofNat_le, List.getElem?_drop, hv1.cells, hv2.cells, hv1.one, hv2.one, hz2, List.length_cons, List.length_nil, List.drop_succ_cons, List.drop_zero]
    refine PAcc.pushS (σb := σ) (bytes := 48) (h := (h'.new [PV.int .i64 ((i : Int) + 1)]).kill h'.next) (news := [v1, v2]) ((hkp.new _).kill hkp.next) (ha.keep ((keep_new h' _).kill (Nat.le_refl _))) rfl (by omega) (by omega) fun v' h2 k2 a2 o2 n2 l2 => ?_
    simp only [pwA, if_true, if_false, eq_self, nm_eq, reduceCtorEq, ↓reduceIte, Nat.reduceEqDiff, Nat.reduceLeDiff, Nat.reduceBEq, Nat.reduceAdd, Nat.reduceLT, Nat.reduceSub, Nat.reduceMul, Int.reduceEq, Int.reduceLT, Int.reduceLE, Int.reduceNeg, Int.reduceToNat, List.reduceReplicate, Int.ofNat_le, List.getElem?_drop, wrapS hlt (by omega : O.length ≤ 4611686018427387904)]
    refine ⟨_, by omega, i + 1, v', rows ++ [(v1, v2)], by omega, rfl, rfl, k2, ?_, ?_⟩
    · rw [fl2_snoc]; exact a2.acc
    · rw [List.range_succ, List.map_append]
      refine hall.snoc ⟨hv1, ?_⟩
      show FI v2 (nw (P.getD i []))
      rw [gP]; exact hv2
  have hie : i = O.length := by omega
  subst hie
  simp only [pwA, if_true, if_false, eq_self, nm_eq, reduceCtorEq, ↓reduceIte, Nat.reduceEqDiff, Nat.reduceLeDiff, Nat.reduceBEq, Nat.reduceAdd, Nat.reduceLT, Nat.reduceSub, Nat.reduceMul, Int.reduceEq, Int.reduceLT, Int.reduceLE, Int.reduceNeg, Int.reduceToNat, List.reduceReplicate, Int.ofNat_le, List.getElem?_drop, e0]
  refine vp_loop (fun m vs h' => ∃ (i : Nat) (vL : PV) (rows : List (PV × PV)), i ≤ O.length ∧ m = O.length - i ∧ vs = [.ptr sp 0, vL, .int .i64 O.length, .int .i64 i] ∧ Keep σ h' ∧ PAcc σ.next 2 h' vL (relA O P C i).length (fl2 rows) ∧ All2 FI2 rows (relA O P C i)) O.length ?_ ?_
  · refine ⟨0, vL, rows, by omega, by omega, rfl, hkp, ?_, ?_⟩
    · simpa [relA] using ha
    · simpa [relA] using hall
  clear ha hall hkp hs' e0 e1 e2 hspl rows vL h' hi hge
  rintro m vs h' ⟨i, vL, rows, hi, rfl, rfl, hkp, ha, hall⟩
  have hs' := hs.keep hkp
  have e2 : h'.rd1 sp 2 = some (.fz w3 a3 C.length rC) := by rw [obj_rd1 hs'.obj]; rfl
  simp only [pwA, if_true, if_false, eq_self, nm_eq, reduceCtorEq, ↓reduceIte, Nat.reduceEqDiff, Nat.reduceLeDiff, Nat.reduceBEq, Nat.reduceAdd, Nat.reduceLT, Nat.reduceSub, Nat.reduceMul, Int.reduceEq, Int.reduceLT, Int.reduceLE, Int.reduceNeg, Int.reduceToNat, List.reduceReplicate, Int.ofNat_le, List.getElem?_drop]
  refine iteI (fun hlt => ?_) fun hge => ?_
  rotate_left
  · have hie : i = O.length := by omega
    subst hie
    have hlen : (relA O P C O.length).length = (relL O P C).length := rfl
    refine ha.fin hkp (fl2_bel hall) fun a => hk _ ⟨a, rows, by rw [hlen], hall⟩
  have hiC : i < C.length := by rw [s.cl]; exact hlt
  obtain ⟨w5, a5, rs, hrb, hrs⟩ := cvRow s hC hlt
  have hlr := s.row i hlt
  have hbnd : ∀ j, j ≤ O.length → (relA O P C j).length ≤ 6 + 6 * j := fun j hj => relA_len s hj
  simp only [pwA, if_true, if_false, eq_self, nm_eq, reduceCtorEq, ↓reduceIte, Nat.reduceEqDiff, Nat.reduceLeDiff, Nat.reduceBEq, Nat.reduceAdd, Nat.reduceLT, Nat.reduceSub, Nat.reduceMul, Int.reduceEq, Int.reduceLT, Int.reduceLE, Int.reduceNeg, Int.reduceToNat, List.reduceReplicate, Int.ofNat_le, List.getElem?_drop, e2, hiC, hrb, List.getElem?_drop]
  refine vp_loopG (fun m vs h' => ∃ (k : Nat) (vL : PV) (rows : List (PV × PV)), k ≤ O.length - 1 - i ∧ m = O.length - 1 - i - k ∧ vs = [.ptr sp 0, vL, .int .i64 i, .int .i64 O.length, .int .i64 i, .fz w5 a5 (O.length - 1 - i) rs, .int .i64 (O.length - 1 - i : Nat), .int .i64 k] ∧ Keep σ h' ∧ PAcc σ.next 2 h' vL (relA O P C i ++ (List.range k).map (conR C i)).length (fl2 rows) ∧ All2 FI2 rows (relA O P C i ++ (List.range k).map (conR C i))) (O.length - 1 - i) ?_ ?_
  · exact .here ⟨0, vL, rows, by omega, by omega, rfl, hkp, by simpa using ha, by simpa using hall⟩
  clear ha hall hkp hs' e2 rows vL h'
  rintro m vs h' ⟨k, vL, rows, hk', rfl, rfl, hkp, ha, hall⟩
  simp only [pwA, if_true, if_false, eq_self, nm_eq, reduceCtorEq, ↓reduceIte, Nat.reduceEqDiff, Nat.reduceLeDiff, Nat.reduceBEq, Nat.reduceAdd, Nat.reduceLT, Nat.reduceSub, Nat.reduceMul, Int.reduceEq, Int.reduceLT, Int.reduceLE, Int.reduceNeg, Int.reduceToNat, List.reduceReplicate, Int.ofNat_le, List.getElem?_drop]
  refine iteI (fun hlk => ?_) fun hgk => ?_
  rotate_left
  · have hke : k = O.length - 1 - i := by omega
    subst hke
    have hra : relA O P C i ++ (List.range (O.length - 1 - i)).map (conR C i) = relA O P C (i + 1) := by
      rw [← hlr]; exact (relA_succ i).symm
    rw [hra] at ha hall
    simp only [pwA, if_true, if_false, eq_self, nm_eq, reduceCtorEq, ↓reduceIte, Nat.reduceEqDiff, Nat.reduceLeDiff, Nat.reduceBEq, Nat.reduceAdd, Nat.reduceLT, Nat.reduceSub, Nat.reduceMul, Int.reduceEq, Int.reduceLT, Int.reduceLE, Int.reduceNeg, Int.reduceToNat, List.reduceReplicate, Int.ofNat_le, List.getElem?_drop, wrapS hlt (by omega : O.length ≤ 4611686018427387904)]
    exact ⟨_, by omega, i + 1, vL, rows, by omega, rfl, rfl, hkp, ha, hall⟩
  obtain ⟨w7, a7, hrk⟩ := hrs k hlk
  have hcv := s.cj i (i + (1 + k)) (by omega) (by omega)
  have gC : (C.getD i []).getD k [] = cvec C i (i + (1 + k)) := by
    show _ = (C.getD i []).getD (i + (1 + k) - i - 1) []
    rw [show i + (1 + k) - i - 1 = k by omega]
  have hlk' : k < O.length - 1 - i := hlk
  have ew1 : IntKind.i64.wrap ((i : Int) + 1) = (i : Int) + 1 := wrap64 (by omega) (by omega)
  have ew2 : IntKind.i64.wrap ((i : Int) + (k : Int)) = ((i + k : Nat) : Int) := by rw [wrap64 (by omega) (by omega)]; omega
  have ew3 : IntKind.i64.wrap (((i + k : Nat) : Int) + 2) = ((i + k : Nat) : Int) + 2 := wrap64 (by omega) (by omega)
  have ew4 : IntKind.i64.wrap ((k : Int) + 1) = ((k + 1 : Nat) : Int) := wrapS hlk (by omega)
  simp only [pwA, if_true, if_false, eq_self, nm_eq, reduceCtorEq, ↓reduceIte, Nat.reduceEqDiff, Nat.reduceLeDiff, Nat.reduceBEq, Nat.reduceAdd, Nat.reduceLT, Nat.reduceSub, Nat.reduceMul, Int.reduceEq, Int.reduceLT, Int.reduceLE, Int.reduceNeg, Int.reduceToNat, List.reduceReplicate, Int.ofNat_le, List.getElem?_drop, hlk', hrk, List.getElem?_drop, ew1, ew2, ew3]
  generalize hc : cvec C i (i + (1 + k)) = c at *
  have hnwl : (nw c).length ≤ 42 := by
    have := nword_length (x := c) (b := 7) (fun j => by
      rcases Nat.lt_or_ge j O.length with g | g
      · have := hcv.bd j g
        have := s.pr j g
        unfold nx; omega
      · unfold nx; rw [at_ge (by rw [hcv.len]; exact g)]; decide) c.length
    have := hcv.len
    have e : c.length * 7 ≤ 42 := by omega
    show (nword c c.length).length ≤ 42
    omega
  refine normalWord_fz (x := c) (fun j => by
      rcases Nat.lt_or_ge j O.length with g | g
      · have := hcv.bd j g
        have := s.pr j g
        omega
      · rw [at_ge (by rw [hcv.len]; exact g)]; omega) (by rw [hcv.len]; exact hn6) ⟨w7, a7, by rw [hcv.len]⟩ fun v2 hv2 => ?_
  obtain ⟨w8, a8, rfl⟩ := hv2
  simp only [pwA, if_true, if_false, eq_self, nm_eq, reduceCtorEq, ↓reduceIte, Nat.reduceEqDiff, Nat.reduceLeDiff, Nat.reduceBEq, Nat.reduceAdd, Nat.reduceLT, Nat.reduceSub, Nat.reduceMul, Int.reduceEq, Int.reduceLT, Int.reduceLE, Int.reduceNeg, Int.reduceToNat, List.reduceReplicate, Int.ofNat_le, List.getElem?_drop]
  refine PSl.cat (bytes := 8) (σb := h'.new [PV.int .i64 (((i + k : Nat) : Int) + 2), PV.int .i64 ((i : Int) + 1)]) (n := 1) (cs := [PV.int .i64 ((i : Int) + 1)]) (keep_new _ _) (PSl.new _ 1 rfl (Nat.le_refl _)) (by rw [pis_length]) (by omega) (by omega) fun v3 h3 k3 a3 => ?_
  obtain ⟨s2, cap2, rfl, hc2, q2, q3, q4, q5⟩ := a3
  have hn3 := k3.next
  have q4' : h'.next + 1 ≤ s2 := q4
  have hn3' : h'.next + 1 ≤ h3.next := hn3
  have o31 : h3.obj h'.next = some (pis [((i + k : Nat) : Int) + 2, (i : Int) + 1]) := by rw [k3.obj _ (Nat.lt_succ_self _), pobj_new, if_pos rfl]; rfl
  have hk3 : Keep σ h3 := (hkp.new _).trans k3
  have ha3 := ha.keep ((keep_new h' _).trans k3)
  simp only [pwA, if_true, if_false, eq_self, nm_eq, reduceCtorEq, ↓reduceIte, Nat.reduceEqDiff, Nat.reduceLeDiff, Nat.reduceBEq, Nat.reduceAdd, Nat.reduceLT, Nat.reduceSub, Nat.reduceMul, Int.reduceEq, Int.reduceLT, Int.reduceLE, Int.reduceNeg, Int.reduceToNat, List.reduceReplicate, Int.ofNat_le, List.getElem?_drop, hz2, List.length_cons, List.length_nil, List.drop_succ_cons, List.drop_zero]
  have hbL := hbnd i (by omega)
  have hbL2 : (relA O P C i ++ (List.range k).map (conR C i)).length ≤ 48 := by simp; omega
  refine PAcc.pushS (σb := σ) (bytes := 48) (news := [.sl h'.next 0 2 (.known 2), .sl s2 0 (1 + (nw c).length) cap2]) hk3 ha3 rfl (by omega) (by omega) fun v' h4 k4 a4 o4 n4 l4 => ?_
  simp only [pwA, if_true, if_false, eq_self, nm_eq, reduceCtorEq, ↓reduceIte, Nat.reduceEqDiff, Nat.reduceLeDiff, Nat.reduceBEq, Nat.reduceAdd, Nat.reduceLT, Nat.reduceSub, Nat.reduceMul, Int.reduceEq, Int.reduceLT, Int.reduceLE, Int.reduceNeg, Int.reduceToNat, List.reduceReplicate, Int.ofNat_le, List.getElem?_drop, ew4]
  have o41 : h4.obj h'.next = some (pis [((i + k : Nat) : Int) + 2, (i : Int) + 1]) := by rw [o4 _ (by omega) (ha.ne (Nat.le_refl _))]; exact o31
  have o42 : h4.obj s2 = some ([PV.int .i64 ((i : Int) + 1)] ++ pis (nw c)) := by rw [o4 _ q5 (ha.ne (by omega))]; exact q2
  have hb2 : Bels 0 ([PV.int .i64 ((i : Int) + 1)] ++ pis (nw c)) := pis_bel 0 (((i : Int) + 1) :: nw c)
  have hnk := hkp.next
  refine ⟨O.length - 1 - i - (k + 1), by omega, .fzh h'.next _ o41 (pis_bel _ _) fun o1 => ?_⟩
  obtain ⟨f1, f2, f3⟩ := PSl.fzr wf k4 a4 (s := h'.next) (cs := pis [((i + k : Nat) : Int) + 2, (i : Int) + 1]) (by omega) (n4 _ (by omega)) o1
  have hne12 : ¬ s2 = h'.next := by omega
  refine .fzh s2 ([PV.int .i64 ((i : Int) + 1)] ++ pis (nw c)) ?_ hb2 fun o2 => ?_
  · simp only [PHeap.sub, PHeap.kill, if_neg hne12, o42, Option.map_some, sbs_bel (Nat.zero_le _) hb2]
  obtain ⟨g1, g2, g3⟩ := PSl.fzr wf f1 f2 (s := s2) (cs := [PV.int .i64 ((i : Int) + 1)] ++ pis (nw c)) (by omega) (n4 _ q5) o2
  refine .here ⟨k + 1, v', rows ++ [(.fz true (.sl o1 0 2 (.known 2)) 2 (pis [((i + k : Nat) : Int) + 2, (i : Int) + 1]), .fz true (.sl o2 0 (1 + (nw c).length) cap2) (1 + (nw c).length) ([PV.int .i64 ((i : Int) + 1)] ++ pis (nw c)))], by omega, rfl, ?_, g1, ?_, ?_⟩
  · simp only [sbs, sb, f3, g3]
  · have hcap1 : capOK (.known 2) 2 = true := rfl
    have hlen1 : (relA O P C i ++ (List.range (k + 1)).map (conR C i)).length = (relA O P C i ++ (List.range k).map (conR C i)).length + 1 := by simp; omega
    rw [hlen1, fl2_snoc]
    have hb0 := fl2_bel hall
    rw [sbs_append, sbs_bel (Nat.zero_le _) hb0, sbs_append, sbs_bel (Nat.zero_le _) hb0] at g2
    simp only [sbs, sb, hcap1, hc2.ok, and_self, if_true, hne12, false_and, if_false] at g2
    exact g2.acc
  · rw [List.range_succ, List.map_append, ← List.append_assoc]
    refine hall.snoc ⟨⟨_, _, rfl⟩, ?_⟩
    show FI _ (((i : Int) + 1) :: nw ((C.getD i []).getD k []))
    rw [gC]
    exact ⟨true, .sl o2 0 (1 + (nw c).length) cap2, by rw [List.length_cons, Nat.add_comm (nw c).length 1]; rfl⟩
end Go.Proofs
set_option linter.unusedSimpArgs false
set_option linter.unusedVariables false
namespace Go.Proofs
open Go.Ab Go.Lie Go.Grp Go.Mx
variable {σ : PHeap} {K : PV → PHeap → Prop} {p d : Int} {n na : Nat} {v w x xs ys : List Int} {A B M : List (List Int)} {As : List (List (List Int))} {vA vB vM vv vx v0 : PV} {O : List Int} {P : List (List Int)} {C : List (List (List Int))} {vO vP vC : PV} {s : Nat}
theorem ve_iff (hp : 0 < p) : isVec xs p (n : Int) ↔ Ve p n xs := by
  constructor
  · rintro ⟨h1, h2⟩
    refine ⟨by omega, fun j => ?_⟩
    rcases Nat.lt_or_ge j xs.length with g | g
    · rw [at_eq g]
      have := h2 _ (List.getElem_mem g)
      omega
    · rw [at_ge g]; omega
  · intro h
    refine ⟨by rw [h.len], fun y hy => ?_⟩
    obtain ⟨j, hj, rfl⟩ := List.mem_iff_getElem.1 hy
    have := h.bd j
    rw [at_eq hj] at this
    omega
theorem l02Vector_ok {w : Bool} {a : AV} {xs : List Int} {p : Int} {n : Nat} {l : Nat} (hl : l = xs.length) (hb : xs.length ≤ 4611686018427387904) (hp : 0 < p) (hp2 : p < 4611686018427387904) (hk : K (.bool (decide (isVec xs p n))) σ) :
    PCalls Try.prog 63 [.int .i64 p, .int .i64 n, .fz w a l (pis xs)] σ K := by
  subst hl
  refine pcalls_of_vp mix Try.func63 cf63 rfl ?_
  dsimp only [if63, qI, eI, nI, qD, eD]
  simp only [pwA, if_true, if_false, eq_self, nm_eq, reduceCtorEq, ↓reduceIte, Nat.reduceEqDiff, Nat.reduceLeDiff, Nat.reduceBEq, Nat.reduceAdd, Nat.reduceLT, Nat.reduceSub, Nat.reduceMul, Int.reduceEq, Int.reduceLT, Int.reduceLE, Int.reduceNeg, Int.reduceToNat, List.reduceReplicate, Int.ofNat_le, List.getElem?_drop]
  split
  · rename_i hl
    refine vp_loop (fun m vs h' => ∃ i : Nat, i ≤ xs.length ∧ m = xs.length - i ∧ vs = [.int .i64 p, .fz w a xs.length (pis xs), .int .i64 i] ∧ h' = σ ∧ ∀ x ∈ xs.take i, 0 ≤ x ∧ x ≤ p - 1) xs.length ?_ ?_
    · exact ⟨0, by omega, by omega, rfl, rfl, by simp⟩
    · rintro m vs h' ⟨i, hi, rfl, rfl, rfl, hall⟩
      simp only [pwA, if_true, if_false, eq_self, nm_eq, reduceCtorEq, ↓reduceIte, Nat.reduceEqDiff, Nat.reduceLeDiff, Nat.reduceBEq, Nat.reduceAdd, Nat.reduceLT, Nat.reduceSub, Nat.reduceMul, Int.reduceEq, Int.reduceLT, Int.reduceLE, Int.reduceNeg, Int.reduceToNat, List.reduceReplicate, Int.ofNat_le, List.getElem?_drop]
      split
      · rename_i hlt
        have hw1 : IntKind.i64.wrap (p - 1) = p - 1 := wrap64 (by omega) (by omega)
        simp only [pwA, if_true, if_false, eq_self, nm_eq, reduceCtorEq, ↓reduceIte, Nat.reduceEqDiff, Nat.reduceLeDiff, Nat.reduceBEq, Nat.reduceAdd, Nat.reduceLT, Nat.reduceSub, Nat.reduceMul, Int.reduceEq, Int.reduceLT, Int.reduceLE, Int.reduceNeg, Int.reduceToNat, List.reduceReplicate, Int.ofNat_le, List.getElem?_drop, hlt, List.getElem?_drop, pis_get, gi hlt, wrapS hlt hb, hw1]
        refine l01In_ok ?_
        simp only [pwA, if_true, if_false, eq_self, nm_eq, reduceCtorEq, ↓reduceIte, Nat.reduceEqDiff, Nat.reduceLeDiff, Nat.reduceBEq, Nat.reduceAdd, Nat.reduceLT, Nat.reduceSub, Nat.reduceMul, Int.reduceEq, Int.reduceLT, Int.reduceLE, Int.reduceNeg, Int.reduceToNat, List.reduceReplicate, Int.ofNat_le, List.getElem?_drop, wrapS hlt hb]
        split
        · exact ⟨_, by omega, i + 1, by omega, rfl, rfl, forall_snoc hlt hall (by assumption)⟩
        · rename_i hn
          exact pkf hk fun hv => hn (hv.2 _ (List.getElem_mem hlt))
      · refine pkt hk ⟨hl, forall_all (by omega) hall⟩
  · rename_i hne
    exact pkf hk fun hv => hne hv.1
theorem actionAt_ok {i : Nat} (hs : PtrR σ s p (.int .i64 d) vA) (hvA : FIII vA As) (hi : i < As.length) (hk : ∀ v, FII v As[i] → K (.agg [.int .i64 p, .int .i64 d, v]) σ) : PCalls Try.prog 106 [.ptr s 0, .int .i64 i] σ K := by
  obtain ⟨wA, aA, rA, rfl, hrA⟩ := hvA
  obtain ⟨w4, a4, rs, hr, hrs⟩ := hrA.rowL hi
  have hsl := hs.lt
  have e0 : σ.rd1 s 0 = some (.int .i64 p) := by rw [obj_rd1 hs.obj]; rfl
  have e1 : σ.rd1 s 1 = some (.int .i64 d) := by rw [obj_rd1 hs.obj]; rfl
  have e2 : σ.rd1 s 2 = some (.fz wA aA As.length rA) := by rw [obj_rd1 hs.obj]; rfl
  have hne : ¬ s = σ.next := by omega
  refine PCalls.gh ?_
  refine pcalls_of_vp mix Try.func106 cf106 rfl ?_
  dsimp only [if106, qI, eI, nI, qD, eD]
  simp only [pwA, if_true, if_false, eq_self, nm_eq, reduceCtorEq, ↓reduceIte, Nat.reduceEqDiff, Nat.reduceLeDiff, Nat.reduceBEq, Nat.reduceAdd, Nat.reduceLT, Nat.reduceSub, Nat.reduceMul, Int.reduceEq, Int.reduceLT, Int.reduceLE, Int.reduceNeg, Int.reduceToNat, List.reduceReplicate, Int.ofNat_le, List.getElem?_drop, e0, e1, e2, hi, hr, hne, List.getElem?_drop]
  exact Gh.fin0 (keep_new σ _) ⟨trivial, trivial, trivial, trivial⟩ (hk _ ⟨w4, a4, rs, rfl, hrs⟩)
theorem IsMatrix_ok (hp : isP p) (hn : n ≤ 8) (hal : A.length ≤ 8) (sz : ∀ r ∈ A, r.length ≤ 1048576) (hvA : FII vA A) (hk : ∀ t : Bool, (t = true ↔ Ma p n A) → K (.bool t) σ) : PCalls Try.prog 76 [.agg [.int .i64 p, .int .i64 n, vA]] σ K := by
  have fl : ∀ {A : Prop}, ¬ A → ((false = true) ↔ A) := fun h => ⟨fun x => (by cases x), fun x => absurd x h⟩
  have h1 := hvA.one
  have hpb := hp.bd
  obtain ⟨wA, aA, rA, rfl, hrA⟩ := hvA
  refine PCalls.gh ?_
  have hkp := keep_new σ [.int .i64 p, .int .i64 n, .fz wA aA A.length rA]
  refine pcalls_of_vp mix Try.func76 cf76 rfl ?_
  dsimp only [if76, qI, eI, nI, qD, eD]
  simp only [pwA, if_true, if_false, eq_self, nm_eq, reduceCtorEq, ↓reduceIte, Nat.reduceEqDiff, Nat.reduceLeDiff, Nat.reduceBEq, Nat.reduceAdd, Nat.reduceLT, Nat.reduceSub, Nat.reduceMul, Int.reduceEq, Int.reduceLT, Int.reduceLE, Int.reduceNeg, Int.reduceToNat, List.reduceReplicate, Int.ofNat_le, List.getElem?_drop, h1]
  refine IsGroupPrime_ok ?_
  simp only [pwA, if_true, if_false, eq_self, nm_eq, reduceCtorEq, ↓reduceIte, Nat.reduceEqDiff, Nat.reduceLeDiff, Nat.reduceBEq, Nat.reduceAdd, Nat.reduceLT, Nat.reduceSub, Nat.reduceMul, Int.reduceEq, Int.reduceLT, Int.reduceLE, Int.reduceNeg, Int.reduceToNat, List.reduceReplicate, Int.ofNat_le, List.getElem?_drop, hp]
  refine inside_ok ?_
  have hn0 : (0 : Int) ≤ (n : Int) ∧ (n : Int) ≤ 8 := by omega
  have ha0 : ¬ (8 : Int) < (A.length : Int) := by omega
  simp only [pwA, if_true, if_false, eq_self, nm_eq, reduceCtorEq, ↓reduceIte, Nat.reduceEqDiff, Nat.reduceLeDiff, Nat.reduceBEq, Nat.reduceAdd, Nat.reduceLT, Nat.reduceSub, Nat.reduceMul, Int.reduceEq, Int.reduceLT, Int.reduceLE, Int.reduceNeg, Int.reduceToNat, List.reduceReplicate, Int.ofNat_le, List.getElem?_drop, hn0, ha0]
  refine vp_loop (fun m vs h' => ∃ i : Nat, i ≤ A.length ∧ m = A.length - i ∧ vs = [.ptr σ.next 0, .fz wA aA A.length rA, .int .i64 A.length, .int .i64 i] ∧ σ.new [.int .i64 p, .int .i64 n, .fz wA aA A.length rA] = h' ∧ ∀ r ∈ A.take i, Ve p n r) A.length ?_ ?_
  · exact ⟨0, by omega, by omega, rfl, rfl, by simp⟩
  rintro m vs h' ⟨i, hi, rfl, rfl, rfl, hall⟩
  simp only [pwA, if_true, if_false, eq_self, nm_eq, reduceCtorEq, ↓reduceIte, Nat.reduceEqDiff, Nat.reduceLeDiff, Nat.reduceBEq, Nat.reduceAdd, Nat.reduceLT, Nat.reduceSub, Nat.reduceMul, Int.reduceEq, Int.reduceLT, Int.reduceLE, Int.reduceNeg, Int.reduceToNat, List.reduceReplicate, Int.ofNat_le, List.getElem?_drop]
  refine iteI (fun hlt => ?_) fun hge => ?_
  rotate_left
  · exact Gh.fin0 hkp trivial (hk _ ⟨fun _ r hr => hall r (by rwa [List.take_of_length_le (by omega)]), fun _ => rfl⟩)
  obtain ⟨w4, a4, hr⟩ := hrA.rowI hlt
  have hb := sz _ (List.getElem_mem hlt)
  simp only [pwA, if_true, if_false, eq_self, nm_eq, reduceCtorEq, ↓reduceIte, Nat.reduceEqDiff, Nat.reduceLeDiff, Nat.reduceBEq, Nat.reduceAdd, Nat.reduceLT, Nat.reduceSub, Nat.reduceMul, Int.reduceEq, Int.reduceLT, Int.reduceLE, Int.reduceNeg, Int.reduceToNat, List.reduceReplicate, Int.ofNat_le, List.getElem?_drop, hlt, hr, List.getElem?_drop]
  refine isVector_ok rfl (by omega) (by omega) (by omega) ?_
  by_cases hv : isVec A[i] p (n : Int)
  · simp only [pwA, if_true, if_false, eq_self, nm_eq, reduceCtorEq, ↓reduceIte, Nat.reduceEqDiff, Nat.reduceLeDiff, Nat.reduceBEq, Nat.reduceAdd, Nat.reduceLT, Nat.reduceSub, Nat.reduceMul, Int.reduceEq, Int.reduceLT, Int.reduceLE, Int.reduceNeg, Int.reduceToNat, List.reduceReplicate, Int.ofNat_le, List.getElem?_drop, hv, wrapS hlt (by omega : A.length ≤ 4611686018427387904)]
    refine ⟨_, by omega, i + 1, by omega, rfl, rfl, fun r hr => ?_⟩
    rw [List.take_succ_eq_append_getElem hlt, List.mem_append, List.mem_singleton] at hr
    rcases hr with hr | rfl
    · exact hall r hr
    · exact (ve_iff (by omega)).1 hv
  · simp only [pwA, if_true, if_false, eq_self, nm_eq, reduceCtorEq, ↓reduceIte, Nat.reduceEqDiff, Nat.reduceLeDiff, Nat.reduceBEq, Nat.reduceAdd, Nat.reduceLT, Nat.reduceSub, Nat.reduceMul, Int.reduceEq, Int.reduceLT, Int.reduceLE, Int.reduceNeg, Int.reduceToNat, List.reduceReplicate, Int.ofNat_le, List.getElem?_drop, hv]
    exact Gh.fin0 hkp trivial (hk _ (fl fun h => hv ((ve_iff (by omega)).2 (h _ (List.getElem_mem hlt)))))
theorem l21Rows_ok (hp : isP p) (hn : n ≤ 8) (hal : A.length ≤ 1048576) (sz : ∀ r ∈ A, r.length ≤ 1048576) (hvA : FII vA A) (hk : ∀ t : Bool, (t = true ↔ Sq p n A) → K (.bool t) σ) : PCalls Try.prog 99 [.int .i64 p, .int .i64 n, vA] σ K := by
  have fl : ∀ {A : Prop}, ¬ A → ((false = true) ↔ A) := fun h => ⟨fun x => (by cases x), fun x => absurd x h⟩
  have h1 := hvA.one
  have hpb := hp.bd
  obtain ⟨wA, aA, rA, rfl, hrA⟩ := hvA
  refine pcalls_of_vp mix Try.func99 cf99 rfl ?_
  dsimp only [if99, qI, eI, nI, qD, eD]
  by_cases hl : A.length = n
  rotate_left
  · have hl' : ¬ (A.length : Int) = (n : Int) := by omega
    simp only [pwA, if_true, if_false, eq_self, nm_eq, reduceCtorEq, ↓reduceIte, Nat.reduceEqDiff, Nat.reduceLeDiff, Nat.reduceBEq, Nat.reduceAdd, Nat.reduceLT, Nat.reduceSub, Nat.reduceMul, Int.reduceEq, Int.reduceLT, Int.reduceLE, Int.reduceNeg, Int.reduceToNat, List.reduceReplicate, Int.ofNat_le, List.getElem?_drop, hl']
    exact hk _ (fl fun h => hl h.1)
  have hl' : (A.length : Int) = (n : Int) := by omega
  simp only [pwA, if_true, if_false, eq_self, nm_eq, reduceCtorEq, ↓reduceIte, Nat.reduceEqDiff, Nat.reduceLeDiff, Nat.reduceBEq, Nat.reduceAdd, Nat.reduceLT, Nat.reduceSub, Nat.reduceMul, Int.reduceEq, Int.reduceLT, Int.reduceLE, Int.reduceNeg, Int.reduceToNat, List.reduceReplicate, Int.ofNat_le, List.getElem?_drop, eq_true hl']
  refine vp_loop (fun m vs h' => ∃ i : Nat, i ≤ A.length ∧ m = A.length - i ∧ vs = [.int .i64 p, .int .i64 n, .fz wA aA A.length rA, .int .i64 i] ∧ σ = h' ∧ ∀ r ∈ A.take i, Ve p n r) A.length ?_ ?_
  · exact ⟨0, by omega, by omega, rfl, rfl, by simp⟩
  rintro m vs h' ⟨i, hi, rfl, rfl, rfl, hall⟩
  simp only [pwA, if_true, if_false, eq_self, nm_eq, reduceCtorEq, ↓reduceIte, Nat.reduceEqDiff, Nat.reduceLeDiff, Nat.reduceBEq, Nat.reduceAdd, Nat.reduceLT, Nat.reduceSub, Nat.reduceMul, Int.reduceEq, Int.reduceLT, Int.reduceLE, Int.reduceNeg, Int.reduceToNat, List.reduceReplicate, Int.ofNat_le, List.getElem?_drop]
  refine iteI (fun hlt => ?_) fun hge => ?_
  rotate_left
  · exact hk _ ⟨fun _ => ⟨hl, fun r hr => hall r (by rwa [List.take_of_length_le (by omega)])⟩, fun _ => rfl⟩
  obtain ⟨w4, a4, hr⟩ := hrA.rowI hlt
  have hb := sz _ (List.getElem_mem hlt)
  simp only [pwA, if_true, if_false, eq_self, nm_eq, reduceCtorEq, ↓reduceIte, Nat.reduceEqDiff, Nat.reduceLeDiff, Nat.reduceBEq, Nat.reduceAdd, Nat.reduceLT, Nat.reduceSub, Nat.reduceMul, Int.reduceEq, Int.reduceLT, Int.reduceLE, Int.reduceNeg, Int.reduceToNat, List.reduceReplicate, Int.ofNat_le, List.getElem?_drop, hlt, hr, List.getElem?_drop]
  refine l02Vector_ok rfl (by omega) (by omega) (by omega) ?_
  by_cases hv : isVec A[i] p (n : Int)
  · simp only [pwA, if_true, if_false, eq_self, nm_eq, reduceCtorEq, ↓reduceIte, Nat.reduceEqDiff, Nat.reduceLeDiff, Nat.reduceBEq, Nat.reduceAdd, Nat.reduceLT, Nat.reduceSub, Nat.reduceMul, Int.reduceEq, Int.reduceLT, Int.reduceLE, Int.reduceNeg, Int.reduceToNat, List.reduceReplicate, Int.ofNat_le, List.getElem?_drop, hv, wrapS hlt (by omega : A.length ≤ 4611686018427387904)]
    refine ⟨_, by omega, i + 1, by omega, rfl, rfl, fun r hr => ?_⟩
    rw [List.take_succ_eq_append_getElem hlt, List.mem_append, List.mem_singleton] at hr
    rcases hr with hr | rfl
    · exact hall r hr
    · exact (ve_iff (by omega)).1 hv
  · simp only [pwA, if_true, if_false, eq_self, nm_eq, reduceCtorEq, ↓reduceIte, Nat.reduceEqDiff, Nat.reduceLeDiff, Nat.reduceBEq, Nat.reduceAdd, Nat.reduceLT, Nat.reduceSub, Nat.reduceMul, Int.reduceEq, Int.reduceLT, Int.reduceLE, Int.reduceNeg, Int.reduceToNat, List.reduceReplicate, Int.ofNat_le, List.getElem?_drop, hv]
    exact hk _ (fl fun h => hv ((ve_iff (by omega)).2 (h.2 _ (List.getElem_mem hlt))))
end Go.Proofs
set_option linter.unusedSimpArgs false
set_option linter.unusedVariables false
namespace Go.Proofs
open Go.Ab Go.Lie Go.Grp Go.Mx
variable {σ : PHeap} {K : PV → PHeap → Prop} {p d : Int} {n na : Nat} {v w x xs ys : List Int} {A B M : List (List Int)} {As : List (List (List Int))} {vA vB vM vv vx vw v0 : PV} {O : List Int} {P : List (List Int)} {C : List (List (List Int))} {vO vP vC : PV} {s sp : Nat}
theorem foldW_take {α : Type} (f : α → Nat → α) {i : Nat} (hi : i < w.length) (a : α) : foldW f (w.take (i + 1)) a = f (foldW f (w.take i) a) (w[i].toNat - 1) := by
  rw [List.take_succ_eq_append_getElem hi, foldW_append]; rfl
theorem mat_eq {i : Nat} (hi : i < As.length) : Mx.mat As i = As[i] := by simp [Mx.mat, List.getD_eq_getElem?_getD, List.getElem?_eq_getElem hi]
theorem actionOf_ok (hp : 2 ≤ p ∧ p ≤ 7) (hn : n ≤ 3) (hq : SqL p n As) (hw : ∀ l ∈ w, 1 ≤ l ∧ l ≤ (As.length : Int)) (hwl : w.length ≤ 1048576) (hal : As.length ≤ 1048576) (hs : PtrR σ s p (.int .i64 n) vA) (hvA : FIII vA As) (hvw : FI vw w)
    (hk : ∀ v, FII v (foldW (ms p n As) w (idm n)) → K (.agg [.int .i64 p, .int .i64 n, v]) σ) : PCalls Try.prog 70 [.ptr s 0, vw] σ K := by
  have hvA0 := hvA
  obtain ⟨ww, aw, rfl⟩ := hvw
  have hsl := hs.lt
  have e0 : σ.rd1 s 0 = some (.int .i64 p) := by rw [obj_rd1 hs.obj]; rfl
  have e1 : σ.rd1 s 1 = some (.int .i64 n) := by rw [obj_rd1 hs.obj]; rfl
  have hne : ¬ s = σ.next := by omega
  have hne1 : ¬ s = σ.next + 1 := by omega
  refine PCalls.gh ?_
  refine pcalls_of_vp mix Try.func70 cf70 rfl ?_
  dsimp only [if70, qI, eI, nI, qD, eD]
  simp only [pwA, if_true, if_false, eq_self, nm_eq, reduceCtorEq, ↓reduceIte, Nat.reduceEqDiff, Nat.reduceLeDiff, Nat.reduceBEq, Nat.reduceAdd, Nat.reduceLT, Nat.reduceSub, Nat.reduceMul, Int.reduceEq, Int.reduceLT, Int.reduceLE, Int.reduceNeg, Int.reduceToNat, List.reduceReplicate, Int.ofNat_le, List.getElem?_drop, e0, e1, hne, hne1]
  refine identityOf_ok (by omega) fun v1 hv1 => ?_
  simp only [pwA, if_true, if_false, eq_self, nm_eq, reduceCtorEq, ↓reduceIte, Nat.reduceEqDiff, Nat.reduceLeDiff, Nat.reduceBEq, Nat.reduceAdd, Nat.reduceLT, Nat.reduceSub, Nat.reduceMul, Int.reduceEq, Int.reduceLT, Int.reduceLE, Int.reduceNeg, Int.reduceToNat, List.reduceReplicate, Int.ofNat_le, List.getElem?_drop, e0, e1, hne, hne1, hv1.one, hv1.cells]
  refine vp_loop (fun m vs h' => ∃ (i : Nat) (vX : PV), i ≤ w.length ∧ m = w.length - i ∧ vs = [.ptr s 0, .ptr σ.next 0, .ptr (σ.next + 1) 0, .fz ww aw w.length (pis w), .int .i64 w.length, .int .i64 i] ∧ h' = (σ.new [.int .i64 0, .int .i64 0, .fz true .nils 0 []]).new [.int .i64 p, .int .i64 n, vX] ∧ FII vX (foldW (ms p n As) (w.take i) (idm n))) w.length ?_ ?_
  · exact ⟨0, v1, by omega, by omega, rfl, rfl, hv1⟩
  rintro m vs h' ⟨i, vX, hi, rfl, rfl, rfl, hX⟩
  simp only [pwA, if_true, if_false, eq_self, nm_eq, reduceCtorEq, ↓reduceIte, Nat.reduceEqDiff, Nat.reduceLeDiff, Nat.reduceBEq, Nat.reduceAdd, Nat.reduceLT, Nat.reduceSub, Nat.reduceMul, Int.reduceEq, Int.reduceLT, Int.reduceLE, Int.reduceNeg, Int.reduceToNat, List.reduceReplicate, Int.ofNat_le, List.getElem?_drop]
  refine iteI (fun hlt => ?_) fun hge => ?_
  rotate_left
  · have hie : i = w.length := by omega
    subst hie
    rw [List.take_length] at hX
    simp only [pwA, if_true, if_false, eq_self, nm_eq, reduceCtorEq, ↓reduceIte, Nat.reduceEqDiff, Nat.reduceLeDiff, Nat.reduceBEq, Nat.reduceAdd, Nat.reduceLT, Nat.reduceSub, Nat.reduceMul, Int.reduceEq, Int.reduceLT, Int.reduceLE, Int.reduceNeg, Int.reduceToNat, List.reduceReplicate, Int.ofNat_le, List.getElem?_drop, hX.one, hX.cells]
    exact Gh.fin0 ((keep_new σ _).new _) ⟨trivial, trivial, hX.bel _, trivial⟩ (hk _ hX)
  have hl := hw _ (List.getElem_mem hlt)
  obtain ⟨j, hj⟩ : ∃ j : Nat, w[i] = (j : Int) + 1 := ⟨w[i].toNat - 1, by omega⟩
  have hjl : j < As.length := by omega
  have ew : IntKind.i64.wrap ((j : Int) + 1 - 1) = (j : Int) := by rw [wrap64 (by omega) (by omega)]; omega
  simp only [pwA, if_true, if_false, eq_self, nm_eq, reduceCtorEq, ↓reduceIte, Nat.reduceEqDiff, Nat.reduceLeDiff, Nat.reduceBEq, Nat.reduceAdd, Nat.reduceLT, Nat.reduceSub, Nat.reduceMul, Int.reduceEq, Int.reduceLT, Int.reduceLE, Int.reduceNeg, Int.reduceToNat, List.reduceReplicate, Int.ofNat_le, List.getElem?_drop, hlt, gi hlt, pis_get, List.getElem?_drop, hj, ew]
  refine actionAt_ok ((hs.new _).new _) hvA0 hjl fun v2 hv2 => ?_
  have hsq := fold_in (S := Sq p n) (f := ms p n As) (n := As.length) (fun a i hi ha => ms_in (by omega) hq hi ha) (w.take i) (fun l hl => hw l (List.mem_of_mem_take hl)) (sq_mon (by omega : 1 < p) n).one
  have hm := hq.mat hjl
  rw [mat_eq hjl] at hm
  simp only [pwA, if_true, if_false, eq_self, nm_eq, reduceCtorEq, ↓reduceIte, Nat.reduceEqDiff, Nat.reduceLeDiff, Nat.reduceBEq, Nat.reduceAdd, Nat.reduceLT, Nat.reduceSub, Nat.reduceMul, Int.reduceEq, Int.reduceLT, Int.reduceLE, Int.reduceNeg, Int.reduceToNat, List.reduceReplicate, Int.ofNat_le, List.getElem?_drop, hX.one, hX.cells, hv2.one, hv2.cells]
  refine product_ok hp (by rw [hm.1]; exact hsq.2) hm.2 (by omega) (by rw [hm.1]; omega) (by rw [hsq.1]; omega) hX hv2 rfl fun v3 hv3 => ?_
  simp only [pwA, if_true, if_false, eq_self, nm_eq, reduceCtorEq, ↓reduceIte, Nat.reduceEqDiff, Nat.reduceLeDiff, Nat.reduceBEq, Nat.reduceAdd, Nat.reduceLT, Nat.reduceSub, Nat.reduceMul, Int.reduceEq, Int.reduceLT, Int.reduceLE, Int.reduceNeg, Int.reduceToNat, List.reduceReplicate, Int.ofNat_le, List.getElem?_drop, hX.one, hX.cells, hv3.one, hv3.cells, wrapS hlt (by omega : w.length ≤ 4611686018427387904)]
  refine ⟨_, by omega, i + 1, v3, by omega, rfl, rfl, rfl, ?_⟩
  rw [foldW_take _ hlt, hj, show ((j : Int) + 1).toNat - 1 = j by omega]
  show FII v3 (mm p n _ (Mx.mat As j))
  rw [mat_eq hjl]
  exact hv3
theorem l21Act_ok (hp : 2 ≤ p ∧ p ≤ 7) (hn : n ≤ 3) (hq : SqL p n As) (hx : ∀ j, 0 ≤ at_ x j ∧ at_ x j ≤ 7) (hxl : x.length ≤ As.length) (hal : As.length ≤ 1048576) (hvA : FIII vA As) (hvx : FI vx x)
    (hk : ∀ v, FII v (act p n As x) → K v σ) : PCalls Try.prog 66 [.agg [.int .i64 p, .int .i64 n, vA], vx] σ K := by
  have hvA0 := hvA
  have h1 := hvA.one
  obtain ⟨wA, aA, rA, rfl, hrA⟩ := hvA
  obtain ⟨wx, ax, rfl⟩ := hvx
  refine PCalls.gh ?_
  refine pcalls_of_vp mix Try.func66 cf66 rfl ?_
  dsimp only [if66, qI, eI, nI, qD, eD]
  simp only [pwA, if_true, if_false, eq_self, nm_eq, reduceCtorEq, ↓reduceIte, Nat.reduceEqDiff, Nat.reduceLeDiff, Nat.reduceBEq, Nat.reduceAdd, Nat.reduceLT, Nat.reduceSub, Nat.reduceMul, Int.reduceEq, Int.reduceLT, Int.reduceLE, Int.reduceNeg, Int.reduceToNat, List.reduceReplicate, Int.ofNat_le, List.getElem?_drop, h1]
  refine l02Unit_ok (by omega) fun v1 hv1 => ?_
  simp only [pwA, if_true, if_false, eq_self, nm_eq, reduceCtorEq, ↓reduceIte, Nat.reduceEqDiff, Nat.reduceLeDiff, Nat.reduceBEq, Nat.reduceAdd, Nat.reduceLT, Nat.reduceSub, Nat.reduceMul, Int.reduceEq, Int.reduceLT, Int.reduceLE, Int.reduceNeg, Int.reduceToNat, List.reduceReplicate, Int.ofNat_le, List.getElem?_drop]
  refine vp_loop (fun m vs h' => ∃ (i : Nat) (vX : PV), i ≤ x.length ∧ m = x.length - i ∧ vs = [.fz wx ax x.length (pis x), .ptr σ.next 0, vX, .int .i64 i] ∧ h' = σ.new [.int .i64 p, .int .i64 n, .fz wA aA As.length rA] ∧ FII vX (expF (ms p n As) x i (idm n))) x.length ?_ ?_
  · exact ⟨0, v1, by omega, by omega, rfl, rfl, hv1⟩
  rintro m vs h' ⟨i, vX, hi, rfl, rfl, rfl, hX⟩
  simp only [pwA, if_true, if_false, eq_self, nm_eq, reduceCtorEq, ↓reduceIte, Nat.reduceEqDiff, Nat.reduceLeDiff, Nat.reduceBEq, Nat.reduceAdd, Nat.reduceLT, Nat.reduceSub, Nat.reduceMul, Int.reduceEq, Int.reduceLT, Int.reduceLE, Int.reduceNeg, Int.reduceToNat, List.reduceReplicate, Int.ofNat_le, List.getElem?_drop]
  refine iteI (fun hlt => ?_) fun hge => ?_
  rotate_left
  · have hie : i = x.length := by omega
    subst hie
    exact Gh.fin0 (keep_new σ _) (hX.bel _) (hk _ hX)
  have hiA : i < As.length := by omega
  obtain ⟨w4, a4, rs, hr, hrs⟩ := hrA.rowL hiA
  have bx := hx i
  have hnx : ((nx x i : Nat) : Int) = x[i] := by
    unfold nx
    rw [Int.toNat_of_nonneg bx.1, at_eq hlt]
  have hm := hq.mat hiA
  rw [mat_eq hiA] at hm
  have hsq := expF_in (S := Sq p n) (f := ms p n As) (x := x) (n := As.length) (fun a i hi ha => ms_in (by omega) hq hi ha) i (by omega) (sq_mon (by omega : 1 < p) n).one
  refine vp_loop (fun m vs h' => ∃ (k : Nat) (vX : PV), k ≤ nx x i ∧ m = nx x i - k ∧ vs = [.fz wx ax x.length (pis x), .ptr σ.next 0, vX, .int .i64 i, .int .i64 k] ∧ h' = σ.new [.int .i64 p, .int .i64 n, .fz wA aA As.length rA] ∧ FII vX (repF (ms p n As) i k (expF (ms p n As) x i (idm n)))) (nx x i) ?_ ?_
  · exact ⟨0, vX, by omega, by omega, rfl, rfl, hX⟩
  clear hX vX
  rintro m vs h' ⟨k, vX, hk', rfl, rfl, rfl, hX⟩
  simp only [pwA, if_true, if_false, eq_self, nm_eq, reduceCtorEq, ↓reduceIte, Nat.reduceEqDiff, Nat.reduceLeDiff, Nat.reduceBEq, Nat.reduceAdd, Nat.reduceLT, Nat.reduceSub, Nat.reduceMul, Int.reduceEq, Int.reduceLT, Int.reduceLE, Int.reduceNeg, Int.reduceToNat, List.reduceReplicate, Int.ofNat_le, List.getElem?_drop, hlt, gi hlt, pis_get, List.getElem?_drop]
  rw [← hnx]
  have hn7 : nx x i ≤ 7 := by unfold nx; omega
  by_cases hlk : k < nx x i
  · have hlkI : (k : Int) < ((nx x i : Nat) : Int) := by omega
    have hsk := repF_in (S := Sq p n) (f := ms p n As) (i := i) (fun a ha => ms_in (by omega) hq hiA ha) k hsq
    have ew2 : IntKind.i64.wrap ((k : Int) + 1) = ((k + 1 : Nat) : Int) := wrapS hlk (by omega)
    simp only [pwA, if_true, if_false, eq_self, nm_eq, reduceCtorEq, ↓reduceIte, Nat.reduceEqDiff, Nat.reduceLeDiff, Nat.reduceBEq, Nat.reduceAdd, Nat.reduceLT, Nat.reduceSub, Nat.reduceMul, Int.reduceEq, Int.reduceLT, Int.reduceLE, Int.reduceNeg, Int.reduceToNat, List.reduceReplicate, Int.ofNat_le, List.getElem?_drop, hlkI, hiA, hr, List.getElem?_drop]
    refine l02Product_ok hp (by rw [hm.1]; exact hsk.2) hm.2 (by omega) (by rw [hm.1]; omega) (by rw [hsk.1]; omega) hX ⟨w4, a4, rs, rfl, hrs⟩ fun v3 hv3 => ?_
    simp only [pwA, if_true, if_false, eq_self, nm_eq, reduceCtorEq, ↓reduceIte, Nat.reduceEqDiff, Nat.reduceLeDiff, Nat.reduceBEq, Nat.reduceAdd, Nat.reduceLT, Nat.reduceSub, Nat.reduceMul, Int.reduceEq, Int.reduceLT, Int.reduceLE, Int.reduceNeg, Int.reduceToNat, List.reduceReplicate, Int.ofNat_le, List.getElem?_drop, ew2]
    refine ⟨nx x i - (k + 1), by omega, k + 1, v3, by omega, rfl, rfl, ?_⟩
    rw [repF_succ]
    show FII v3 (mm p n _ (Mx.mat As i))
    rw [mat_eq hiA]
    exact hv3
  · have hke : k = nx x i := by omega
    subst hke
    have hlkI : ¬ ((nx x i : Nat) : Int) < ((nx x i : Nat) : Int) := by omega
    simp only [pwA, if_true, if_false, eq_self, nm_eq, reduceCtorEq, ↓reduceIte, Nat.reduceEqDiff, Nat.reduceLeDiff, Nat.reduceBEq, Nat.reduceAdd, Nat.reduceLT, Nat.reduceSub, Nat.reduceMul, Int.reduceEq, Int.reduceLT, Int.reduceLE, Int.reduceNeg, Int.reduceToNat, List.reduceReplicate, Int.ofNat_le, List.getElem?_drop, hlkI, wrapS hlt (by omega : x.length ≤ 4611686018427387904)]
    exact ⟨_, by omega, i + 1, vX, by omega, rfl, rfl, hX⟩
end Go.Proofs
set_option linter.unusedSimpArgs false
set_option linter.unusedVariables false
namespace Go.Proofs
open Go.Ab Go.Lie Go.Grp Go.Mx
variable {σ : PHeap} {K : PV → PHeap → Prop} {p d : Int} {n na : Nat} {v w x xs ys : List Int} {A B M : List (List Int)} {As : List (List (List Int))} {vA vB vM vv vx vw v0 : PV} {O : List Int} {P : List (List Int)} {C : List (List (List Int))} {vO vP vC : PV} {s sp : Nat}
/-- A module over a group. -/
def isMod (O : List Int) (P : List (List Int)) (C : List (List (List Int))) (p d : Int) (As : List (List (List Int))) : Prop :=
  (isPres O P C ∧ Cons O P C) ∧ isP p ∧ (1 ≤ d ∧ d ≤ 3) ∧ As.length = O.length ∧ SqL p d.toNat As ∧ modRel p d.toNat As O P C
theorem shp_nx (s : Shp O P C) (hx : x.length = O.length) (h : ∀ j, j < O.length → 0 ≤ at_ x j ∧ at_ x j < at_ O j) (j : Nat) : 0 ≤ at_ x j ∧ at_ x j ≤ 7 := by
  rcases Nat.lt_or_ge j O.length with g | g
  · have := h j g
    have := s.pr j g
    omega
  · rw [at_ge (by omega)]; omega
theorem TT.nx7 {t : Nat} (s : Shp O P C) (h : TT O t x) : ∀ j, 0 ≤ at_ x j ∧ at_ x j ≤ 7 := shp_nx s h.len h.bd
/-- The letters of the relations. -/
theorem rel_in (s : Shp O P C) {r : List Int × List Int} (hr : r ∈ relL O P C) : (∀ l ∈ r.1, 1 ≤ l ∧ l ≤ (O.length : Int)) ∧ (∀ l ∈ r.2, 1 ≤ l ∧ l ≤ (O.length : Int)) ∧ r.1.length ≤ 64 ∧ r.2.length ≤ 64 := by
  have hn6 := s.le
  have len : ∀ {x : List Int} {t : Nat}, TT O t x → (nw x).length ≤ 42 := fun {x t} h => by
    have h1 := nword_length (x := x) (b := 7) (fun j => by have := TT.nx7 s h j; unfold nx; omega) x.length
    have := h.len
    have e : x.length * 7 ≤ 42 := by omega
    show (nword x x.length).length ≤ 42
    omega
  rcases mem_relL.1 hr with ⟨i, hi, rfl⟩ | ⟨i, k, hi, hk, rfl⟩
  · have hp := s.pw i hi
    have bO := s.pr i hi
    refine ⟨fun l hl => ?_, fun l hl => ?_, ?_, ?_⟩
    · have := List.eq_of_mem_replicate hl; omega
    · exact nword_in (by rw [show P.getD i [] = pvec P i from rfl, hp.len]; exact Nat.le_refl _) l hl
    · simp only [powR, List.length_replicate]; unfold nx; omega
    · have := len hp
      show (nw (P.getD i [])).length ≤ 64
      have e : P.getD i [] = pvec P i := rfl
      rw [e]; omega
  · rw [s.row i hi] at hk
    have hc := s.cj i (i + (1 + k)) (by omega) (by omega)
    have gC : (C.getD i []).getD k [] = cvec C i (i + (1 + k)) := by
      show _ = (C.getD i []).getD (i + (1 + k) - i - 1) []
      rw [show i + (1 + k) - i - 1 = k by omega]
    refine ⟨fun l hl => ?_, fun l hl => ?_, ?_, ?_⟩
    · simp only [conR, List.mem_cons, List.not_mem_nil, or_false] at hl
      rcases hl with rfl | rfl <;> omega
    · simp only [conR, List.mem_cons] at hl
      rcases hl with rfl | hl
      · omega
      · rw [gC] at hl
        exact nword_in (by rw [hc.len]; exact Nat.le_refl _) l hl
    · simp [conR]
    · have := len hc
      simp only [conR, List.length_cons, gC]
      omega
theorem isModule_ok (hsp : PtrG σ sp vO vP vC) (hR : IsPr vO vP vC O P C) (sz : SzP O P C) (hs : PtrR σ s p (.int .i64 d) vA) (hvA : FIII vA As) (szA : SzM As) (hk : ∀ t : Bool, (t = true ↔ isMod O P C p d As) → K (.bool t) σ) :
    PCalls Try.prog 61 [.ptr sp 0, .ptr s 0] σ K := by
  have fl : ∀ {A : Prop}, ¬ A → ((false = true) ↔ A) := fun h => ⟨fun x => (by cases x), fun x => absurd x h⟩
  have hR0 := hR
  have hvA0 := hvA
  have hspl := hsp.lt
  have hsl := hs.lt
  obtain ⟨⟨w0, a0, rfl⟩, ⟨w1, a1, rP, rfl, hP⟩, ⟨w3, a3, rC, rfl, hC⟩⟩ := hR
  obtain ⟨wA, aA, rA, rfl, hrA⟩ := hvA
  have g3 : σ.rd sp 0 3 = some [.fz w0 a0 O.length (pis O), .fz w1 a1 P.length rP, .fz w3 a3 C.length rC] := by rw [obj_rd hsp.obj]; rfl
  have g0 : σ.rd1 sp 0 = some (.fz w0 a0 O.length (pis O)) := by rw [obj_rd1 hsp.obj]; rfl
  have e0 : σ.rd1 s 0 = some (.int .i64 p) := by rw [obj_rd1 hs.obj]; rfl
  have e1 : σ.rd1 s 1 = some (.int .i64 d) := by rw [obj_rd1 hs.obj]; rfl
  have e2 : σ.rd1 s 2 = some (.fz wA aA As.length rA) := by rw [obj_rd1 hs.obj]; rfl
  refine PCalls.gh ?_
  have fin : ∀ {t : Bool} {σ' : PHeap}, (t = true ↔ isMod O P C p d As) → Keep σ σ' → Gh σ K (.bool t) σ' := fun h k => Gh.fin0 k trivial (hk _ h)
  have no : ∀ {σ' : PHeap}, ¬ isMod O P C p d As → Keep σ σ' → Gh σ K (.bool false) σ' := fun h k => fin (fl h) k
  refine pcalls_of_vp mix Try.func61 cf61 rfl ?_
  dsimp only [if61, qI, eI, nI, qD, eD]
  simp only [pwA, if_true, if_false, eq_self, nm_eq, reduceCtorEq, ↓reduceIte, Nat.reduceEqDiff, Nat.reduceLeDiff, Nat.reduceBEq, Nat.reduceAdd, Nat.reduceLT, Nat.reduceSub, Nat.reduceMul, Int.reduceEq, Int.reduceLT, Int.reduceLE, Int.reduceNeg, Int.reduceToNat, List.reduceReplicate, Int.ofNat_le, List.getElem?_drop, g3]
  refine IsConsistent_ok hR0 sz fun t ht => ?_
  cases t with
  | false =>
    simp only [pwA, if_true, if_false, eq_self, nm_eq, reduceCtorEq, ↓reduceIte, Nat.reduceEqDiff, Nat.reduceLeDiff, Nat.reduceBEq, Nat.reduceAdd, Nat.reduceLT, Nat.reduceSub, Nat.reduceMul, Int.reduceEq, Int.reduceLT, Int.reduceLE, Int.reduceNeg, Int.reduceToNat, List.reduceReplicate, Int.ofNat_le, List.getElem?_drop]
    exact no (fun h => by cases ht.2 h.1) (Keep.refl σ)
  | true =>
  have hcons := ht.1 rfl
  have sh := hcons.1.shp
  have hn6 := sh.le
  simp only [pwA, if_true, if_false, eq_self, nm_eq, reduceCtorEq, ↓reduceIte, Nat.reduceEqDiff, Nat.reduceLeDiff, Nat.reduceBEq, Nat.reduceAdd, Nat.reduceLT, Nat.reduceSub, Nat.reduceMul, Int.reduceEq, Int.reduceLT, Int.reduceLE, Int.reduceNeg, Int.reduceToNat, List.reduceReplicate, Int.ofNat_le, List.getElem?_drop, e0]
  refine IsGroupPrime_ok ?_
  by_cases hp : isP p
  rotate_left
  · simp only [pwA, if_true, if_false, eq_self, nm_eq, reduceCtorEq, ↓reduceIte, Nat.reduceEqDiff, Nat.reduceLeDiff, Nat.reduceBEq, Nat.reduceAdd, Nat.reduceLT, Nat.reduceSub, Nat.reduceMul, Int.reduceEq, Int.reduceLT, Int.reduceLE, Int.reduceNeg, Int.reduceToNat, List.reduceReplicate, Int.ofNat_le, List.getElem?_drop, hp]
    exact no (fun h => hp h.2.1) (Keep.refl σ)
  have hpb := hp.bd
  simp only [pwA, if_true, if_false, eq_self, nm_eq, reduceCtorEq, ↓reduceIte, Nat.reduceEqDiff, Nat.reduceLeDiff, Nat.reduceBEq, Nat.reduceAdd, Nat.reduceLT, Nat.reduceSub, Nat.reduceMul, Int.reduceEq, Int.reduceLT, Int.reduceLE, Int.reduceNeg, Int.reduceToNat, List.reduceReplicate, Int.ofNat_le, List.getElem?_drop, hp, e1]
  refine inside_ok ?_
  by_cases hd : 1 ≤ d ∧ d ≤ 3
  rotate_left
  · simp only [pwA, if_true, if_false, eq_self, nm_eq, reduceCtorEq, ↓reduceIte, Nat.reduceEqDiff, Nat.reduceLeDiff, Nat.reduceBEq, Nat.reduceAdd, Nat.reduceLT, Nat.reduceSub, Nat.reduceMul, Int.reduceEq, Int.reduceLT, Int.reduceLE, Int.reduceNeg, Int.reduceToNat, List.reduceReplicate, Int.ofNat_le, List.getElem?_drop, hd]
    exact no (fun h => hd h.2.2.1) (Keep.refl σ)
  by_cases hl : As.length = O.length
  rotate_left
  · have hl' : ¬ (As.length : Int) = (O.length : Int) := by omega
    simp only [pwA, if_true, if_false, eq_self, nm_eq, reduceCtorEq, ↓reduceIte, Nat.reduceEqDiff, Nat.reduceLeDiff, Nat.reduceBEq, Nat.reduceAdd, Nat.reduceLT, Nat.reduceSub, Nat.reduceMul, Int.reduceEq, Int.reduceLT, Int.reduceLE, Int.reduceNeg, Int.reduceToNat, List.reduceReplicate, Int.ofNat_le, List.getElem?_drop, hd, e2, g0, hl']
    exact no (fun h => hl h.2.2.2.1) (Keep.refl σ)
  have hl' : (As.length : Int) = (O.length : Int) := by omega
  obtain ⟨n, hn⟩ : ∃ n : Nat, d = (n : Int) := ⟨d.toNat, by omega⟩
  subst hn
  have hdn : ((n : Int)).toNat = n := rfl
  simp only [pwA, if_true, if_false, eq_self, nm_eq, reduceCtorEq, ↓reduceIte, Nat.reduceEqDiff, Nat.reduceLeDiff, Nat.reduceBEq, Nat.reduceAdd, Nat.reduceLT, Nat.reduceSub, Nat.reduceMul, Int.reduceEq, Int.reduceLT, Int.reduceLE, Int.reduceNeg, Int.reduceToNat, List.reduceReplicate, Int.ofNat_le, List.getElem?_drop, hd, e2, g0, eq_true hl']
  refine vp_loop (fun m vs h' => ∃ i : Nat, i ≤ As.length ∧ m = As.length - i ∧ vs = [.ptr sp 0, .ptr s 0, .fz wA aA As.length rA, .int .i64 As.length, .int .i64 i] ∧ σ = h' ∧ ∀ A ∈ As.take i, Sq p n A) As.length ?_ ?_
  · exact ⟨0, by omega, by omega, rfl, rfl, by simp⟩
  rintro m vs h' ⟨i, hi, rfl, rfl, rfl, hall⟩
  simp only [pwA, if_true, if_false, eq_self, nm_eq, reduceCtorEq, ↓reduceIte, Nat.reduceEqDiff, Nat.reduceLeDiff, Nat.reduceBEq, Nat.reduceAdd, Nat.reduceLT, Nat.reduceSub, Nat.reduceMul, Int.reduceEq, Int.reduceLT, Int.reduceLE, Int.reduceNeg, Int.reduceToNat, List.reduceReplicate, Int.ofNat_le, List.getElem?_drop]
  refine iteI (fun hlt => ?_) fun hge => ?_
  · obtain ⟨w4, a4, rs, hr, hrs⟩ := hrA.rowL hlt
    have szr := szA.r _ (List.getElem_mem hlt)
    have szl := szr.l
    by_cases hrl : As[i].length = n
    rotate_left
    · have hrl' : ¬ (As[i].length : Int) = (n : Int) := by omega
      simp only [pwA, if_true, if_false, eq_self, nm_eq, reduceCtorEq, ↓reduceIte, Nat.reduceEqDiff, Nat.reduceLeDiff, Nat.reduceBEq, Nat.reduceAdd, Nat.reduceLT, Nat.reduceSub, Nat.reduceMul, Int.reduceEq, Int.reduceLT, Int.reduceLE, Int.reduceNeg, Int.reduceToNat, List.reduceReplicate, Int.ofNat_le, List.getElem?_drop, hlt, hr, List.getElem?_drop, e1, hrl']
      exact no (fun h => hrl (h.2.2.2.2.1 _ (List.getElem_mem hlt)).1) (Keep.refl σ)
    have hrl' : (As[i].length : Int) = (n : Int) := by omega
    simp only [pwA, if_true, if_false, eq_self, nm_eq, reduceCtorEq, ↓reduceIte, Nat.reduceEqDiff, Nat.reduceLeDiff, Nat.reduceBEq, Nat.reduceAdd, Nat.reduceLT, Nat.reduceSub, Nat.reduceMul, Int.reduceEq, Int.reduceLT, Int.reduceLE, Int.reduceNeg, Int.reduceToNat, List.reduceReplicate, Int.ofNat_le, List.getElem?_drop, hlt, hr, List.getElem?_drop, e1, eq_true hrl']
    refine actionAt_ok hs hvA0 hlt fun v2 hv2 => ?_
    simp only [pwA, if_true, if_false, eq_self, nm_eq, reduceCtorEq, ↓reduceIte, Nat.reduceEqDiff, Nat.reduceLeDiff, Nat.reduceBEq, Nat.reduceAdd, Nat.reduceLT, Nat.reduceSub, Nat.reduceMul, Int.reduceEq, Int.reduceLT, Int.reduceLE, Int.reduceNeg, Int.reduceToNat, List.reduceReplicate, Int.ofNat_le, List.getElem?_drop]
    refine IsMatrix_ok hp (by omega) (by omega) (fun r hr => szr.r r hr) hv2 fun t2 ht2 => ?_
    cases t2 with
    | false =>
      simp only [pwA, if_true, if_false, eq_self, nm_eq, reduceCtorEq, ↓reduceIte, Nat.reduceEqDiff, Nat.reduceLeDiff, Nat.reduceBEq, Nat.reduceAdd, Nat.reduceLT, Nat.reduceSub, Nat.reduceMul, Int.reduceEq, Int.reduceLT, Int.reduceLE, Int.reduceNeg, Int.reduceToNat, List.reduceReplicate, Int.ofNat_le, List.getElem?_drop]
      exact no (fun h => by cases ht2.2 (h.2.2.2.2.1 _ (List.getElem_mem hlt)).2) (Keep.refl σ)
    | true =>
      simp only [pwA, if_true, if_false, eq_self, nm_eq, reduceCtorEq, ↓reduceIte, Nat.reduceEqDiff, Nat.reduceLeDiff, Nat.reduceBEq, Nat.reduceAdd, Nat.reduceLT, Nat.reduceSub, Nat.reduceMul, Int.reduceEq, Int.reduceLT, Int.reduceLE, Int.reduceNeg, Int.reduceToNat, List.reduceReplicate, Int.ofNat_le, List.getElem?_drop, wrapS hlt (by omega : As.length ≤ 4611686018427387904)]
      refine ⟨_, by omega, i + 1, by omega, rfl, rfl, fun A hA => ?_⟩
      rw [List.take_succ_eq_append_getElem hlt, List.mem_append, List.mem_singleton] at hA
      rcases hA with hA | rfl
      · exact hall A hA
      · exact ⟨hrl, ht2.1 rfl⟩
  have hq : SqL p n As := fun A hA => hall A (by rwa [List.take_of_length_le (by omega)])
  simp only [pwA, if_true, if_false, eq_self, nm_eq, reduceCtorEq, ↓reduceIte, Nat.reduceEqDiff, Nat.reduceLeDiff, Nat.reduceBEq, Nat.reduceAdd, Nat.reduceLT, Nat.reduceSub, Nat.reduceMul, Int.reduceEq, Int.reduceLT, Int.reduceLE, Int.reduceNeg, Int.reduceToNat, List.reduceReplicate, Int.ofNat_le, List.getElem?_drop]
  refine relationSides_ok sh hsp hR0 fun vL hvL => ?_
  obtain ⟨aL, rows, rfl, hrows⟩ := hvL
  have hrell : (relL O P C).length ≤ 48 := by
    have := relA_len sh (i := O.length) (Nat.le_refl _)
    have e : relA O P C O.length = relL O P C := rfl
    rw [e] at this; omega
  simp only [pwA, if_true, if_false, eq_self, nm_eq, reduceCtorEq, ↓reduceIte, Nat.reduceEqDiff, Nat.reduceLeDiff, Nat.reduceBEq, Nat.reduceAdd, Nat.reduceLT, Nat.reduceSub, Nat.reduceMul, Int.reduceEq, Int.reduceLT, Int.reduceLE, Int.reduceNeg, Int.reduceToNat, List.reduceReplicate, Int.ofNat_le, List.getElem?_drop]
  generalize hrel : relL O P C = rel at *
  refine vp_loop (fun m vs h' => ∃ k : Nat, k ≤ rel.length ∧ m = rel.length - k ∧ vs = [.ptr s 0, .fz true aL rel.length (fl2 rows), .int .i64 rel.length, .int .i64 k] ∧ Keep σ h' ∧ ∀ r ∈ rel.take k, foldW (ms p n As) r.1 (idm n) = foldW (ms p n As) r.2 (idm n)) rel.length ?_ ?_
  · exact ⟨0, by omega, by omega, rfl, Keep.refl σ, by simp⟩
  rintro m vs h' ⟨k, hk', rfl, rfl, hkp, hall2⟩
  simp only [pwA, if_true, if_false, eq_self, nm_eq, reduceCtorEq, ↓reduceIte, Nat.reduceEqDiff, Nat.reduceLeDiff, Nat.reduceBEq, Nat.reduceAdd, Nat.reduceLT, Nat.reduceSub, Nat.reduceMul, Int.reduceEq, Int.reduceLT, Int.reduceLE, Int.reduceNeg, Int.reduceToNat, List.reduceReplicate, Int.ofNat_le, List.getElem?_drop]
  refine iteI (fun hlk => ?_) fun hgk => ?_
  rotate_left
  · refine fin ⟨fun _ => ⟨hcons, hp, hd, hl, hq, ?_⟩, fun _ => rfl⟩ hkp
    show modRel p n As O P C
    unfold modRel
    rw [hrel]
    exact fun r hr => hall2 r (by rwa [List.take_of_length_le (by omega)])
  have hkr : k < rows.length := by rw [hrows.1]; exact hlk
  have hget := fl2_get hkr
  have hpair := hrows.2 k _ _ (List.getElem?_eq_getElem hkr) (List.getElem?_eq_getElem hlk)
  obtain ⟨i1, i2, i3, i4⟩ := rel_in sh (r := rel[k]) (by rw [hrel]; exact List.getElem_mem hlk)
  have hfl := fl2_length rows
  have hk2 : 2 ≤ (fl2 rows).length - k * 2 := by omega
  obtain ⟨q1, q2⟩ := hpair
  have hs3 := (hs.keep hkp).new [rows[k].1, rows[k].2]
  simp only [pwA, if_true, if_false, eq_self, nm_eq, reduceCtorEq, ↓reduceIte, Nat.reduceEqDiff, Nat.reduceLeDiff, Nat.reduceBEq, Nat.reduceAdd, Nat.reduceLT, Nat.reduceSub, Nat.reduceMul, Int.reduceEq, Int.reduceLT, Int.reduceLE, Int.reduceNeg, Int.reduceToNat, List.reduceReplicate, Int.ofNat_le, List.getElem?_drop, hlk, hget, hk2, q1.one, q2.one, q1.cells, q2.cells, List.length_drop]
  have hsq : ∀ w : List Int, (∀ l ∈ w, 1 ≤ l ∧ l ≤ (O.length : Int)) → Sq p n (foldW (ms p n As) w (idm n)) := fun w hw => fold_in (S := Sq p n) (f := ms p n As) (n := As.length) (fun a i hi ha => ms_in (by omega) hq hi ha) w (fun l hl => by have := hw l hl; omega) (sq_mon (by omega : 1 < p) n).one
  refine actionOf_ok hpb (by omega) hq (w := rel[k].1) (fun l hl => by have := i1 l hl; omega) (by omega) (by omega) hs3 hvA0 q1 fun v1 hv1 => ?_
  simp only [pwA, if_true, if_false, eq_self, nm_eq, reduceCtorEq, ↓reduceIte, Nat.reduceEqDiff, Nat.reduceLeDiff, Nat.reduceBEq, Nat.reduceAdd, Nat.reduceLT, Nat.reduceSub, Nat.reduceMul, Int.reduceEq, Int.reduceLT, Int.reduceLE, Int.reduceNeg, Int.reduceToNat, List.reduceReplicate, Int.ofNat_le, List.getElem?_drop, q1.one, q2.one]
  refine actionOf_ok hpb (by omega) hq (w := rel[k].2) (fun l hl => by have := i2 l hl; omega) (by omega) (by omega) hs3 hvA0 q2 fun v2 hv2 => ?_
  have z1 := hsq _ i1
  have z2 := hsq _ i2
  simp only [pwA, if_true, if_false, eq_self, nm_eq, reduceCtorEq, ↓reduceIte, Nat.reduceEqDiff, Nat.reduceLeDiff, Nat.reduceBEq, Nat.reduceAdd, Nat.reduceLT, Nat.reduceSub, Nat.reduceMul, Int.reduceEq, Int.reduceLT, Int.reduceLE, Int.reduceNeg, Int.reduceToNat, List.reduceReplicate, Int.ofNat_le, List.getElem?_drop, hv1.one, hv2.one]
  refine sameRows_ok hv1 hv2 (by rw [z1.1]; omega) (fun x hx => by rw [(z1.2 x hx).len]; omega) fun t3 ht3 => ?_
  cases t3 with
  | false =>
    simp only [pwA, if_true, if_false, eq_self, nm_eq, reduceCtorEq, ↓reduceIte, Nat.reduceEqDiff, Nat.reduceLeDiff, Nat.reduceBEq, Nat.reduceAdd, Nat.reduceLT, Nat.reduceSub, Nat.reduceMul, Int.reduceEq, Int.reduceLT, Int.reduceLE, Int.reduceNeg, Int.reduceToNat, List.reduceReplicate, Int.ofNat_le, List.getElem?_drop]
    refine no (fun h => ?_) (hkp.new _)
    have := h.2.2.2.2.2 rel[k] (by rw [hrel]; exact List.getElem_mem hlk)
    have := ht3.2 this
    cases this
  | true =>
    simp only [pwA, if_true, if_false, eq_self, nm_eq, reduceCtorEq, ↓reduceIte, Nat.reduceEqDiff, Nat.reduceLeDiff, Nat.reduceBEq, Nat.reduceAdd, Nat.reduceLT, Nat.reduceSub, Nat.reduceMul, Int.reduceEq, Int.reduceLT, Int.reduceLE, Int.reduceNeg, Int.reduceToNat, List.reduceReplicate, Int.ofNat_le, List.getElem?_drop, wrapS hlk (by omega : rel.length ≤ 4611686018427387904)]
    refine ⟨_, by omega, k + 1, by omega, rfl, rfl, hkp.new _, fun r hr => ?_⟩
    rw [List.take_succ_eq_append_getElem hlk, List.mem_append, List.mem_singleton] at hr
    rcases hr with hr | rfl
    · exact hall2 r hr
    · exact ht3.1 rfl
end Go.Proofs
set_option linter.unusedSimpArgs false
set_option linter.unusedVariables false
namespace Go.Proofs
open Go.Ab Go.Lie Go.Grp Go.Mx
variable {σ : PHeap} {K : PV → PHeap → Prop} {p d : Int} {n na : Nat} {v w x xs ys : List Int} {A B M : List (List Int)} {As : List (List (List Int))} {vA vB vM vv vx vw v0 : PV} {O : List Int} {P : List (List Int)} {C : List (List (List Int))} {vO vP vC : PV} {s sp : Nat}
/-- The conditions on the matrices. -/
def modC (O : List Int) (P : List (List Int)) (C : List (List (List Int))) (p d : Int) (As : List (List (List Int))) : Prop :=
  isP p ∧ (1 ≤ d ∧ d ≤ 3) ∧ As.length = O.length ∧ SqL p d.toNat As ∧ modRel p d.toNat As O P C
theorem shp_len (s : Shp O P C) : ∀ i, i < O.length → (C.getD i []).length = O.length - 1 - i ∧ ∀ k, k < O.length - 1 - i → ((C.getD i []).getD k []).length = O.length := fun i hi => by
  refine ⟨s.row i hi, fun k hk => ?_⟩
  have hc := s.cj i (i + (1 + k)) (by omega) (by omega)
  have gC : (C.getD i []).getD k [] = cvec C i (i + (1 + k)) := by
    show _ = (C.getD i []).getD (i + (1 + k) - i - 1) []
    rw [show i + (1 + k) - i - 1 = k by omega]
  rw [gC, hc.len]
theorem l21Is_ok (sh : Shp O P C) (hR : IsPr vO vP vC O P C) (hvA : FIII vA As) (szA : SzM As) (hk : ∀ t : Bool, (t = true ↔ modC O P C p d As) → K (.bool t) σ) :
    PCalls Try.prog 59 [.agg [vO, vP, vC], .agg [.int .i64 p, .int .i64 d, vA]] σ K := by
  have fl : ∀ {A : Prop}, ¬ A → ((false = true) ↔ A) := fun h => ⟨fun x => (by cases x), fun x => absurd x h⟩
  have hR0 := hR
  have hvA0 := hvA
  have hn6 := sh.le
  obtain ⟨⟨w0, a0, rfl⟩, ⟨w1, a1, rP, rfl, hP⟩, ⟨w3, a3, rC, rfl, hC⟩⟩ := hR
  obtain ⟨wA, aA, rA, rfl, hrA⟩ := hvA
  refine PCalls.gh ?_
  have hkp : Keep σ ((σ.new [.fz w0 a0 O.length (pis O), .fz w1 a1 P.length rP, .fz w3 a3 C.length rC]).new [.int .i64 p, .int .i64 d, .fz wA aA As.length rA]) := (keep_new σ _).new _
  have fin : ∀ {t : Bool}, (t = true ↔ modC O P C p d As) → Gh σ K (.bool t) ((σ.new [.fz w0 a0 O.length (pis O), .fz w1 a1 P.length rP, .fz w3 a3 C.length rC]).new [.int .i64 p, .int .i64 d, .fz wA aA As.length rA]) := fun h => Gh.fin0 hkp trivial (hk _ h)
  have no : ¬ modC O P C p d As → Gh σ K (.bool false) ((σ.new [.fz w0 a0 O.length (pis O), .fz w1 a1 P.length rP, .fz w3 a3 C.length rC]).new [.int .i64 p, .int .i64 d, .fz wA aA As.length rA]) := fun h => fin (fl h)
  refine pcalls_of_vp mix Try.func59 cf59 rfl ?_
  dsimp only [if59, qI, eI, nI, qD, eD]
  simp only [pwA, if_true, if_false, eq_self, nm_eq, reduceCtorEq, ↓reduceIte, Nat.reduceEqDiff, Nat.reduceLeDiff, Nat.reduceBEq, Nat.reduceAdd, Nat.reduceLT, Nat.reduceSub, Nat.reduceMul, Int.reduceEq, Int.reduceLT, Int.reduceLE, Int.reduceNeg, Int.reduceToNat, List.reduceReplicate, Int.ofNat_le, List.getElem?_drop]
  refine l01Prime_ok ?_
  by_cases hp : isP p
  rotate_left
  · simp only [pwA, if_true, if_false, eq_self, nm_eq, reduceCtorEq, ↓reduceIte, Nat.reduceEqDiff, Nat.reduceLeDiff, Nat.reduceBEq, Nat.reduceAdd, Nat.reduceLT, Nat.reduceSub, Nat.reduceMul, Int.reduceEq, Int.reduceLT, Int.reduceLE, Int.reduceNeg, Int.reduceToNat, List.reduceReplicate, Int.ofNat_le, List.getElem?_drop, hp]
    exact no (fun h => hp h.1)
  have hpb := hp.bd
  simp only [pwA, if_true, if_false, eq_self, nm_eq, reduceCtorEq, ↓reduceIte, Nat.reduceEqDiff, Nat.reduceLeDiff, Nat.reduceBEq, Nat.reduceAdd, Nat.reduceLT, Nat.reduceSub, Nat.reduceMul, Int.reduceEq, Int.reduceLT, Int.reduceLE, Int.reduceNeg, Int.reduceToNat, List.reduceReplicate, Int.ofNat_le, List.getElem?_drop, hp]
  refine l01In_ok ?_
  by_cases hd : 1 ≤ d ∧ d ≤ 3
  rotate_left
  · simp only [pwA, if_true, if_false, eq_self, nm_eq, reduceCtorEq, ↓reduceIte, Nat.reduceEqDiff, Nat.reduceLeDiff, Nat.reduceBEq, Nat.reduceAdd, Nat.reduceLT, Nat.reduceSub, Nat.reduceMul, Int.reduceEq, Int.reduceLT, Int.reduceLE, Int.reduceNeg, Int.reduceToNat, List.reduceReplicate, Int.ofNat_le, List.getElem?_drop, hd]
    exact no (fun h => hd h.2.1)
  by_cases hl : As.length = O.length
  rotate_left
  · have hl' : ¬ (As.length : Int) = (O.length : Int) := by omega
    simp only [pwA, if_true, if_false, eq_self, nm_eq, reduceCtorEq, ↓reduceIte, Nat.reduceEqDiff, Nat.reduceLeDiff, Nat.reduceBEq, Nat.reduceAdd, Nat.reduceLT, Nat.reduceSub, Nat.reduceMul, Int.reduceEq, Int.reduceLT, Int.reduceLE, Int.reduceNeg, Int.reduceToNat, List.reduceReplicate, Int.ofNat_le, List.getElem?_drop, hd, hl']
    exact no (fun h => hl h.2.2.1)
  have hl' : (As.length : Int) = (O.length : Int) := by omega
  obtain ⟨n, hn⟩ : ∃ n : Nat, d = (n : Int) := ⟨d.toNat, by omega⟩
  subst hn
  have hdn : ((n : Int)).toNat = n := rfl
  simp only [pwA, if_true, if_false, eq_self, nm_eq, reduceCtorEq, ↓reduceIte, Nat.reduceEqDiff, Nat.reduceLeDiff, Nat.reduceBEq, Nat.reduceAdd, Nat.reduceLT, Nat.reduceSub, Nat.reduceMul, Int.reduceEq, Int.reduceLT, Int.reduceLE, Int.reduceNeg, Int.reduceToNat, List.reduceReplicate, Int.ofNat_le, List.getElem?_drop, hd, eq_true hl']
  generalize hH : (σ.new [.fz w0 a0 O.length (pis O), .fz w1 a1 P.length rP, .fz w3 a3 C.length rC]).new [.int .i64 p, .int .i64 n, .fz wA aA As.length rA] = H at *
  have g0 : H.rd1 σ.next 0 = some (.fz w0 a0 O.length (pis O)) := by rw [← hH]; simp only [pwA, if_true, if_false, eq_self, nm_eq, reduceCtorEq, ↓reduceIte, Nat.reduceEqDiff, Nat.reduceLeDiff, Nat.reduceBEq, Nat.reduceAdd, Nat.reduceLT, Nat.reduceSub, Nat.reduceMul, Int.reduceEq, Int.reduceLT, Int.reduceLE, Int.reduceNeg, Int.reduceToNat, List.reduceReplicate, Int.ofNat_le, List.getElem?_drop]
  have g1 : H.rd1 σ.next 1 = some (.fz w1 a1 P.length rP) := by rw [← hH]; simp only [pwA, if_true, if_false, eq_self, nm_eq, reduceCtorEq, ↓reduceIte, Nat.reduceEqDiff, Nat.reduceLeDiff, Nat.reduceBEq, Nat.reduceAdd, Nat.reduceLT, Nat.reduceSub, Nat.reduceMul, Int.reduceEq, Int.reduceLT, Int.reduceLE, Int.reduceNeg, Int.reduceToNat, List.reduceReplicate, Int.ofNat_le, List.getElem?_drop]
  have g2 : H.rd1 σ.next 2 = some (.fz w3 a3 C.length rC) := by rw [← hH]; simp only [pwA, if_true, if_false, eq_self, nm_eq, reduceCtorEq, ↓reduceIte, Nat.reduceEqDiff, Nat.reduceLeDiff, Nat.reduceBEq, Nat.reduceAdd, Nat.reduceLT, Nat.reduceSub, Nat.reduceMul, Int.reduceEq, Int.reduceLT, Int.reduceLE, Int.reduceNeg, Int.reduceToNat, List.reduceReplicate, Int.ofNat_le, List.getElem?_drop]
  have e0 : H.rd1 (σ.next + 1) 0 = some (.int .i64 p) := by rw [← hH]; simp only [pwA, if_true, if_false, eq_self, nm_eq, reduceCtorEq, ↓reduceIte, Nat.reduceEqDiff, Nat.reduceLeDiff, Nat.reduceBEq, Nat.reduceAdd, Nat.reduceLT, Nat.reduceSub, Nat.reduceMul, Int.reduceEq, Int.reduceLT, Int.reduceLE, Int.reduceNeg, Int.reduceToNat, List.reduceReplicate, Int.ofNat_le, List.getElem?_drop]
  have e1 : H.rd1 (σ.next + 1) 1 = some (.int .i64 n) := by rw [← hH]; simp only [pwA, if_true, if_false, eq_self, nm_eq, reduceCtorEq, ↓reduceIte, Nat.reduceEqDiff, Nat.reduceLeDiff, Nat.reduceBEq, Nat.reduceAdd, Nat.reduceLT, Nat.reduceSub, Nat.reduceMul, Int.reduceEq, Int.reduceLT, Int.reduceLE, Int.reduceNeg, Int.reduceToNat, List.reduceReplicate, Int.ofNat_le, List.getElem?_drop]
  have e2 : H.rd1 (σ.next + 1) 2 = some (.fz wA aA As.length rA) := by rw [← hH]; simp only [pwA, if_true, if_false, eq_self, nm_eq, reduceCtorEq, ↓reduceIte, Nat.reduceEqDiff, Nat.reduceLeDiff, Nat.reduceBEq, Nat.reduceAdd, Nat.reduceLT, Nat.reduceSub, Nat.reduceMul, Int.reduceEq, Int.reduceLT, Int.reduceLE, Int.reduceNeg, Int.reduceToNat, List.reduceReplicate, Int.ofNat_le, List.getElem?_drop]
  have e3 : H.rd (σ.next + 1) 0 3 = some [.int .i64 p, .int .i64 n, .fz wA aA As.length rA] := by rw [← hH]; simp only [pwA, if_true, if_false, eq_self, nm_eq, reduceCtorEq, ↓reduceIte, Nat.reduceEqDiff, Nat.reduceLeDiff, Nat.reduceBEq, Nat.reduceAdd, Nat.reduceLT, Nat.reduceSub, Nat.reduceMul, Int.reduceEq, Int.reduceLT, Int.reduceLE, Int.reduceNeg, Int.reduceToNat, List.reduceReplicate, Int.ofNat_le, List.getElem?_drop]
  refine vp_loop (fun m vs h' => ∃ i : Nat, i ≤ O.length ∧ m = O.length - i ∧ vs = [.ptr σ.next 0, .ptr (σ.next + 1) 0, .int .i64 O.length, .int .i64 i] ∧ H = h' ∧ ∀ A ∈ As.take i, Sq p n A) O.length ?_ ?_
  · exact ⟨0, by omega, by omega, rfl, rfl, by simp⟩
  rintro m vs h' ⟨i, hi, rfl, rfl, rfl, hall⟩
  simp only [pwA, if_true, if_false, eq_self, nm_eq, reduceCtorEq, ↓reduceIte, Nat.reduceEqDiff, Nat.reduceLeDiff, Nat.reduceBEq, Nat.reduceAdd, Nat.reduceLT, Nat.reduceSub, Nat.reduceMul, Int.reduceEq, Int.reduceLT, Int.reduceLE, Int.reduceNeg, Int.reduceToNat, List.reduceReplicate, Int.ofNat_le, List.getElem?_drop]
  refine iteI (fun hlt => ?_) fun hge => ?_
  · have hiA : i < As.length := by omega
    obtain ⟨w4, a4, rs, hr, hrs⟩ := hrA.rowL hiA
    have szr := szA.r _ (List.getElem_mem hiA)
    simp only [pwA, if_true, if_false, eq_self, nm_eq, reduceCtorEq, ↓reduceIte, Nat.reduceEqDiff, Nat.reduceLeDiff, Nat.reduceBEq, Nat.reduceAdd, Nat.reduceLT, Nat.reduceSub, Nat.reduceMul, Int.reduceEq, Int.reduceLT, Int.reduceLE, Int.reduceNeg, Int.reduceToNat, List.reduceReplicate, Int.ofNat_le, List.getElem?_drop, e0, e1, e2, hiA, hr, List.getElem?_drop]
    refine l21Rows_ok hp (by omega) szr.l (fun r hr => szr.r r hr) ⟨w4, a4, rs, rfl, hrs⟩ fun t2 ht2 => ?_
    cases t2 with
    | false =>
      simp only [pwA, if_true, if_false, eq_self, nm_eq, reduceCtorEq, ↓reduceIte, Nat.reduceEqDiff, Nat.reduceLeDiff, Nat.reduceBEq, Nat.reduceAdd, Nat.reduceLT, Nat.reduceSub, Nat.reduceMul, Int.reduceEq, Int.reduceLT, Int.reduceLE, Int.reduceNeg, Int.reduceToNat, List.reduceReplicate, Int.ofNat_le, List.getElem?_drop]
      exact no (fun h => by cases ht2.2 (h.2.2.2.1 _ (List.getElem_mem hiA)))
    | true =>
      simp only [pwA, if_true, if_false, eq_self, nm_eq, reduceCtorEq, ↓reduceIte, Nat.reduceEqDiff, Nat.reduceLeDiff, Nat.reduceBEq, Nat.reduceAdd, Nat.reduceLT, Nat.reduceSub, Nat.reduceMul, Int.reduceEq, Int.reduceLT, Int.reduceLE, Int.reduceNeg, Int.reduceToNat, List.reduceReplicate, Int.ofNat_le, List.getElem?_drop, wrapS hlt (by omega : O.length ≤ 4611686018427387904)]
      refine ⟨_, by omega, i + 1, by omega, rfl, rfl, fun A hA => ?_⟩
      rw [List.take_succ_eq_append_getElem hiA, List.mem_append, List.mem_singleton] at hA
      rcases hA with hA | rfl
      · exact hall A hA
      · exact ht2.1 rfl
  have hq : SqL p n As := fun A hA => hall A (by rwa [List.take_of_length_le (by omega)])
  have hrel := modRel_iff (p := p) (n := n) (As := As) (O := O) (P := P) (C := C) (by omega) hq hl (shp_len sh)
  have hmon := sq_mon (by omega : 1 < p) n
  refine vp_loop (fun m vs h' => ∃ i : Nat, i ≤ O.length ∧ m = O.length - i ∧ vs = [.ptr σ.next 0, .ptr (σ.next + 1) 0, .int .i64 O.length, .int .i64 i] ∧ H = h' ∧ ∀ j, j < i → repF (ms p n As) j (nx O j) (idm n) = act p n As (P.getD j []) ∧ ∀ k, k < O.length - 1 - j → mm p n (mat As (j + (1 + k))) (mat As j) = mm p n (mat As j) (act p n As ((C.getD j []).getD k []))) O.length ?_ ?_
  · exact ⟨0, by omega, by omega, rfl, rfl, fun j hj => by omega⟩
  clear hall hi hge i
  rintro m vs h' ⟨i, hi, rfl, rfl, rfl, hall⟩
  simp only [pwA, if_true, if_false, eq_self, nm_eq, reduceCtorEq, ↓reduceIte, Nat.reduceEqDiff, Nat.reduceLeDiff, Nat.reduceBEq, Nat.reduceAdd, Nat.reduceLT, Nat.reduceSub, Nat.reduceMul, Int.reduceEq, Int.reduceLT, Int.reduceLE, Int.reduceNeg, Int.reduceToNat, List.reduceReplicate, Int.ofNat_le, List.getElem?_drop]
  refine iteI (fun hlt => ?_) fun hge => ?_
  rotate_left
  · refine fin ⟨fun _ => ⟨hp, hd, hl, hq, ?_⟩, fun _ => rfl⟩
    exact hrel.2 fun j hj => hall j (by omega)
  have hiA : i < As.length := by omega
  obtain ⟨w4, a4, rs, hr, hrs⟩ := hrA.rowL hiA
  have bO := sh.pr i hlt
  have hnO : ((nx O i : Nat) : Int) = O[i] := by unfold nx; rw [Int.toNat_of_nonneg (by omega), at_eq hlt]
  have hnO7 : nx O i ≤ 7 := by unfold nx; omega
  have hm := hq.mat hiA
  rw [mat_eq hiA] at hm
  simp only [pwA, if_true, if_false, eq_self, nm_eq, reduceCtorEq, ↓reduceIte, Nat.reduceEqDiff, Nat.reduceLeDiff, Nat.reduceBEq, Nat.reduceAdd, Nat.reduceLT, Nat.reduceSub, Nat.reduceMul, Int.reduceEq, Int.reduceLT, Int.reduceLE, Int.reduceNeg, Int.reduceToNat, List.reduceReplicate, Int.ofNat_le, List.getElem?_drop, e1]
  refine l02Unit_ok (by omega) fun v1 hv1 => ?_
  simp only [pwA, if_true, if_false, eq_self, nm_eq, reduceCtorEq, ↓reduceIte, Nat.reduceEqDiff, Nat.reduceLeDiff, Nat.reduceBEq, Nat.reduceAdd, Nat.reduceLT, Nat.reduceSub, Nat.reduceMul, Int.reduceEq, Int.reduceLT, Int.reduceLE, Int.reduceNeg, Int.reduceToNat, List.reduceReplicate, Int.ofNat_le, List.getElem?_drop]
  refine vp_loop (fun m vs h' => ∃ (k : Nat) (vX : PV), k ≤ nx O i ∧ m = nx O i - k ∧ vs = [.ptr σ.next 0, .ptr (σ.next + 1) 0, .int .i64 O.length, .int .i64 i, vX, .int .i64 k] ∧ H = h' ∧ FII vX (repF (ms p n As) i k (idm n))) (nx O i) ?_ ?_
  · exact ⟨0, v1, by omega, by omega, rfl, rfl, hv1⟩
  rintro m vs h' ⟨k, vX, hk', rfl, rfl, rfl, hX⟩
  have hsk := repF_in (S := Sq p n) (f := ms p n As) (i := i) (fun a ha => ms_in (by omega) hq hiA ha) k hmon.one
  simp only [pwA, if_true, if_false, eq_self, nm_eq, reduceCtorEq, ↓reduceIte, Nat.reduceEqDiff, Nat.reduceLeDiff, Nat.reduceBEq, Nat.reduceAdd, Nat.reduceLT, Nat.reduceSub, Nat.reduceMul, Int.reduceEq, Int.reduceLT, Int.reduceLE, Int.reduceNeg, Int.reduceToNat, List.reduceReplicate, Int.ofNat_le, List.getElem?_drop, g0, hlt, gi hlt, pis_get, List.getElem?_drop]
  rw [← hnO]
  by_cases hlk : k < nx O i
  · have hlkI : (k : Int) < ((nx O i : Nat) : Int) := by omega
    simp only [pwA, if_true, if_false, eq_self, nm_eq, reduceCtorEq, ↓reduceIte, Nat.reduceEqDiff, Nat.reduceLeDiff, Nat.reduceBEq, Nat.reduceAdd, Nat.reduceLT, Nat.reduceSub, Nat.reduceMul, Int.reduceEq, Int.reduceLT, Int.reduceLE, Int.reduceNeg, Int.reduceToNat, List.reduceReplicate, Int.ofNat_le, List.getElem?_drop, hlkI, e0, e1, e2, hiA, hr, List.getElem?_drop]
    refine l02Product_ok hpb (by rw [hm.1]; exact hsk.2) hm.2 (by omega) (by rw [hm.1]; omega) (by rw [hsk.1]; omega) hX ⟨w4, a4, rs, rfl, hrs⟩ fun v3 hv3 => ?_
    simp only [pwA, if_true, if_false, eq_self, nm_eq, reduceCtorEq, ↓reduceIte, Nat.reduceEqDiff, Nat.reduceLeDiff, Nat.reduceBEq, Nat.reduceAdd, Nat.reduceLT, Nat.reduceSub, Nat.reduceMul, Int.reduceEq, Int.reduceLT, Int.reduceLE, Int.reduceNeg, Int.reduceToNat, List.reduceReplicate, Int.ofNat_le, List.getElem?_drop, wrapS hlk (by omega : nx O i ≤ 4611686018427387904)]
    refine ⟨nx O i - (k + 1), by omega, k + 1, v3, by omega, rfl, rfl, ?_⟩
    rw [repF_succ]
    show FII v3 (mm p n _ (Mx.mat As i))
    rw [mat_eq hiA]
    exact hv3
  have hke : k = nx O i := by omega
  subst hke
  have hlkI : ¬ ((nx O i : Nat) : Int) < ((nx O i : Nat) : Int) := by omega
  have hiP : i < P.length := by rw [sh.pl]; exact hlt
  obtain ⟨w5, a5, hpr⟩ := hP.rowI hiP
  have hpv := sh.pw i hlt
  have gP : P.getD i [] = P[i] := getD_row' hiP
  rw [show pvec P i = P[i] from gP] at hpv
  simp only [pwA, if_true, if_false, eq_self, nm_eq, reduceCtorEq, ↓reduceIte, Nat.reduceEqDiff, Nat.reduceLeDiff, Nat.reduceBEq, Nat.reduceAdd, Nat.reduceLT, Nat.reduceSub, Nat.reduceMul, Int.reduceEq, Int.reduceLT, Int.reduceLE, Int.reduceNeg, Int.reduceToNat, List.reduceReplicate, Int.ofNat_le, List.getElem?_drop, hlkI, e3, g1, hiP, hpr, List.getElem?_drop]
  refine l21Act_ok hpb (by omega) hq (TT.nx7 sh hpv) (by rw [hpv.len]; omega) (by omega) hvA0 ⟨w5, a5, rfl⟩ fun v4 hv4 => ?_
  simp only [pwA, if_true, if_false, eq_self, nm_eq, reduceCtorEq, ↓reduceIte, Nat.reduceEqDiff, Nat.reduceLeDiff, Nat.reduceBEq, Nat.reduceAdd, Nat.reduceLT, Nat.reduceSub, Nat.reduceMul, Int.reduceEq, Int.reduceLT, Int.reduceLE, Int.reduceNeg, Int.reduceToNat, List.reduceReplicate, Int.ofNat_le, List.getElem?_drop]
  refine l01Same2_ok hX hv4 (by rw [hsk.1]; omega) (fun x hx => by rw [(hsk.2 x hx).len]; omega) fun t3 ht3 => ?_
  cases t3 with
  | false =>
    simp only [pwA, if_true, if_false, eq_self, nm_eq, reduceCtorEq, ↓reduceIte, Nat.reduceEqDiff, Nat.reduceLeDiff, Nat.reduceBEq, Nat.reduceAdd, Nat.reduceLT, Nat.reduceSub, Nat.reduceMul, Int.reduceEq, Int.reduceLT, Int.reduceLE, Int.reduceNeg, Int.reduceToNat, List.reduceReplicate, Int.ofNat_le, List.getElem?_drop]
    refine no (fun h => ?_)
    have := (hrel.1 h.2.2.2.2 i hlt).1
    rw [gP] at this
    cases ht3.2 this
  | true =>
  have hpow := ht3.1 rfl
  rw [← gP] at hpow
  simp only [pwA, if_true, if_false, eq_self, nm_eq, reduceCtorEq, ↓reduceIte, Nat.reduceEqDiff, Nat.reduceLeDiff, Nat.reduceBEq, Nat.reduceAdd, Nat.reduceLT, Nat.reduceSub, Nat.reduceMul, Int.reduceEq, Int.reduceLT, Int.reduceLE, Int.reduceNeg, Int.reduceToNat, List.reduceReplicate, Int.ofNat_le, List.getElem?_drop, wrapS hlt (by omega : O.length ≤ 4611686018427387904)]
  have hiC : i < C.length := by rw [sh.cl]; exact hlt
  obtain ⟨w6, a6, rs6, hrb, hrs6⟩ := cvRow sh hC hlt
  refine vp_loop (fun m vs h' => ∃ k : Nat, k ≤ O.length - 1 - i ∧ m = O.length - 1 - i - k ∧ vs = [.ptr σ.next 0, .ptr (σ.next + 1) 0, .int .i64 O.length, .int .i64 i, .int .i64 ((i + (1 + k) : Nat) : Int)] ∧ H = h' ∧ ∀ q, q < k → mm p n (mat As (i + (1 + q))) (mat As i) = mm p n (mat As i) (act p n As ((C.getD i []).getD q []))) (O.length - 1 - i) ?_ ?_
  · exact ⟨0, by omega, by omega, rfl, rfl, fun q hq => by omega⟩
  rintro m vs h' ⟨k, hkq, rfl, rfl, rfl, hallk⟩
  have hneq : no = no := rfl
  by_cases hlk2 : k < O.length - 1 - i
  rotate_left
  · have hcnd : ¬ ((i + (1 + k) : Nat) : Int) < (O.length : Int) := by omega
    have hcnd2 : ¬ i + (1 + k) < O.length := by omega
    simp only [pwA, if_true, if_false, eq_self, nm_eq, reduceCtorEq, ↓reduceIte, Nat.reduceEqDiff, Nat.reduceLeDiff, Nat.reduceBEq, Nat.reduceAdd, Nat.reduceLT, Nat.reduceSub, Nat.reduceMul, Int.reduceEq, Int.reduceLT, Int.reduceLE, Int.reduceNeg, Int.reduceToNat, List.reduceReplicate, Int.ofNat_le, List.getElem?_drop, hcnd, hcnd2, wrapS hlt (by omega : O.length ≤ 4611686018427387904)]
    refine ⟨_, by omega, i + 1, by omega, rfl, rfl, fun j hj => ?_⟩
    by_cases e : j = i
    · subst e
      exact ⟨hpow, fun q hq => hallk q (by omega)⟩
    · exact hall j (by omega)
  have hj : i + (1 + k) < O.length := by omega
  have hjA : i + (1 + k) < As.length := by omega
  obtain ⟨w7, a7, rs7, hr7, hrs7⟩ := hrA.rowL hjA
  have hm7 := hq.mat hjA
  rw [mat_eq hjA] at hm7
  obtain ⟨w8, a8, hr8⟩ := hrs6 k hlk2
  have hcv := sh.cj i (i + (1 + k)) (by omega) hj
  have gC : (C.getD i []).getD k [] = cvec C i (i + (1 + k)) := by
    show _ = (C.getD i []).getD (i + (1 + k) - i - 1) []
    rw [show i + (1 + k) - i - 1 = k by omega]
  generalize hc : cvec C i (i + (1 + k)) = c at *
  have q1 : IntKind.i64.wrap (((i + (1 + k) : Nat) : Int) - (i : Int)) = ((1 + k : Nat) : Int) := by rw [wrap64 (by omega) (by omega)]; omega
  have q2 : IntKind.i64.wrap (((1 + k : Nat) : Int) - 1) = (k : Int) := by rw [wrap64 (by omega) (by omega)]; omega
  have q3 : IntKind.i64.wrap (((i + (1 + k) : Nat) : Int) + 1) = ((i + (1 + (k + 1)) : Nat) : Int) := by rw [wrap64 (by omega) (by omega)]; omega
  simp only [pwA, if_true, if_false, eq_self, nm_eq, reduceCtorEq, ↓reduceIte, Nat.reduceEqDiff, Nat.reduceLeDiff, Nat.reduceBEq, Nat.reduceAdd, Nat.reduceLT, Nat.reduceSub, Nat.reduceMul, Int.reduceEq, Int.reduceLT, Int.reduceLE, Int.reduceNeg, Int.reduceToNat, List.reduceReplicate, Int.ofNat_le, List.getElem?_drop, hj, hjA, hr7, e0, e1, e2, hiA, hr, List.getElem?_drop]
  refine l02Product_ok hpb (by rw [hm.1]; exact hm7.2) hm.2 (by omega) (by rw [hm.1]; omega) (by rw [hm7.1]; omega) ⟨w7, a7, rs7, rfl, hrs7⟩ ⟨w4, a4, rs, rfl, hrs⟩ fun v5 hv5 => ?_
  simp only [pwA, if_true, if_false, eq_self, nm_eq, reduceCtorEq, ↓reduceIte, Nat.reduceEqDiff, Nat.reduceLeDiff, Nat.reduceBEq, Nat.reduceAdd, Nat.reduceLT, Nat.reduceSub, Nat.reduceMul, Int.reduceEq, Int.reduceLT, Int.reduceLE, Int.reduceNeg, Int.reduceToNat, List.reduceReplicate, Int.ofNat_le, List.getElem?_drop, hjA, hr7, e0, e1, e2, e3, g2, hiA, hr, hiC, hrb, hr8, hlk2, q1, q2, List.getElem?_drop]
  have hcact := act_in (p := p) (n := n) (by omega : 1 < p) hq (x := c) (by rw [hcv.len]; omega)
  refine l21Act_ok hpb (by omega) hq (TT.nx7 sh hcv) (by rw [hcv.len]; omega) (by omega) hvA0 ⟨w8, a8, by rw [hcv.len]⟩ fun v6 hv6 => ?_
  simp only [pwA, if_true, if_false, eq_self, nm_eq, reduceCtorEq, ↓reduceIte, Nat.reduceEqDiff, Nat.reduceLeDiff, Nat.reduceBEq, Nat.reduceAdd, Nat.reduceLT, Nat.reduceSub, Nat.reduceMul, Int.reduceEq, Int.reduceLT, Int.reduceLE, Int.reduceNeg, Int.reduceToNat, List.reduceReplicate, Int.ofNat_le, List.getElem?_drop, hjA, hr7, e0, e1, e2, e3, g2, hiA, hr, hiC, hrb, hr8, hlk2, q1, q2, List.getElem?_drop]
  refine l02Product_ok hpb (by rw [hcact.1]; exact hm.2) hcact.2 (by omega) (by rw [hcact.1]; omega) (by rw [hm.1]; omega) ⟨w4, a4, rs, rfl, hrs⟩ hv6 fun v7 hv7 => ?_
  simp only [pwA, if_true, if_false, eq_self, nm_eq, reduceCtorEq, ↓reduceIte, Nat.reduceEqDiff, Nat.reduceLeDiff, Nat.reduceBEq, Nat.reduceAdd, Nat.reduceLT, Nat.reduceSub, Nat.reduceMul, Int.reduceEq, Int.reduceLT, Int.reduceLE, Int.reduceNeg, Int.reduceToNat, List.reduceReplicate, Int.ofNat_le, List.getElem?_drop]
  have z5 := hmon.cl hm7 hm
  refine l01Same2_ok hv5 hv7 (by rw [z5.1]; omega) (fun x hx => by rw [(z5.2 x hx).len]; omega) fun t3 ht3 => ?_
  cases t3 with
  | false =>
    simp only [pwA, if_true, if_false, eq_self, nm_eq, reduceCtorEq, ↓reduceIte, Nat.reduceEqDiff, Nat.reduceLeDiff, Nat.reduceBEq, Nat.reduceAdd, Nat.reduceLT, Nat.reduceSub, Nat.reduceMul, Int.reduceEq, Int.reduceLT, Int.reduceLE, Int.reduceNeg, Int.reduceToNat, List.reduceReplicate, Int.ofNat_le, List.getElem?_drop]
    refine no (fun h => ?_)
    have := (hrel.1 h.2.2.2.2 i hlt).2 k hlk2
    rw [gC, mat_eq hiA, mat_eq hjA] at this
    cases ht3.2 this
  | true =>
    simp only [pwA, if_true, if_false, eq_self, nm_eq, reduceCtorEq, ↓reduceIte, Nat.reduceEqDiff, Nat.reduceLeDiff, Nat.reduceBEq, Nat.reduceAdd, Nat.reduceLT, Nat.reduceSub, Nat.reduceMul, Int.reduceEq, Int.reduceLT, Int.reduceLE, Int.reduceNeg, Int.reduceToNat, List.reduceReplicate, Int.ofNat_le, List.getElem?_drop, q3]
    refine ⟨_, by omega, k + 1, by omega, rfl, rfl, fun q hq' => ?_⟩
    by_cases e : q = k
    · subst e
      rw [gC, mat_eq hiA, mat_eq hjA]
      exact ht3.1 rfl
    · exact hallk q (by omega)
end Go.Proofs
set_option linter.unusedSimpArgs false
set_option linter.unusedVariables false
namespace Go.Proofs
open Go.Ab Go.Lie Go.Grp Go.Mx
variable {σ : PHeap} {K : PV → PHeap → Prop} {p d p' d' : Int} {As As' : List (List (List Int))} {vA vA' : PV} {O : List Int} {P : List (List Int)} {C : List (List (List Int))} {vO vP vC : PV}
/-- Lengths as they may be of what lies in memory. -/
def MxA (As : List (List (List Int))) : Prop := As.length ≤ 9223372036854775807 ∧ ∀ q ∈ As, q.length ≤ 9223372036854775807 ∧ ∀ x ∈ q, x.length ≤ 9223372036854775807
theorem szModule_ok {l : Int} (hA : FIII vA As) (mx : MxA As) (hl : left_ l) (hk : ∀ r : Int, (r = -1 ∨ (left_ r ∧ SzM As)) → K (.int .i64 r) σ) : PCalls Try.prog 13 [.agg [.int .i64 p, .int .i64 d, vA], .int .i64 l] σ K := by
  have h1 := hA.one
  refine PCalls.gh ?_
  have hkp := keep_new σ [.int .i64 p, .int .i64 d, vA]
  refine pcalls_of_vp mix Try.func13 cf13 rfl ?_
  dsimp only [if13, qI, eI, nI, qD, eD]
  simp only [pwA, if_true, if_false, eq_self, nm_eq, reduceCtorEq, ↓reduceIte, Nat.reduceEqDiff, Nat.reduceLeDiff, Nat.reduceBEq, Nat.reduceAdd, Nat.reduceLT, Nat.reduceSub, Nat.reduceMul, Int.reduceEq, Int.reduceLT, Int.reduceLE, Int.reduceNeg, Int.reduceToNat, List.reduceReplicate, Int.ofNat_le, List.getElem?_drop, h1]
  refine szInt64SSS_ok hA mx.1 mx.2 hl fun r h => ?_
  rcases h with rfl | ⟨g1, g2⟩
  · simp only [pwA, if_true, if_false, eq_self, nm_eq, reduceCtorEq, ↓reduceIte, Nat.reduceEqDiff, Nat.reduceLeDiff, Nat.reduceBEq, Nat.reduceAdd, Nat.reduceLT, Nat.reduceSub, Nat.reduceMul, Int.reduceEq, Int.reduceLT, Int.reduceLE, Int.reduceNeg, Int.reduceToNat, List.reduceReplicate, Int.ofNat_le, List.getElem?_drop]
    exact Gh.fin0 hkp trivial (hk _ (.inl rfl))
  have : ¬ r < 0 := by unfold left_ at g1; omega
  simp only [pwA, if_true, if_false, eq_self, nm_eq, reduceCtorEq, ↓reduceIte, Nat.reduceEqDiff, Nat.reduceLeDiff, Nat.reduceBEq, Nat.reduceAdd, Nat.reduceLT, Nat.reduceSub, Nat.reduceMul, Int.reduceEq, Int.reduceLT, Int.reduceLE, Int.reduceNeg, Int.reduceToNat, List.reduceReplicate, Int.ofNat_le, List.getElem?_drop, this]
  exact Gh.fin0 hkp trivial (hk _ (.inr ⟨g1, g2⟩))
theorem toModule_fz (hA : FIII vA As) (sz : SzM As) (hk : ∀ v, FIII v As → K (.agg [.int .i64 p, .int .i64 d, v]) σ) : PCalls Try.prog 16 [.agg [.int .i64 p, .int .i64 d, vA]] σ K := by
  have h1 := hA.one
  refine PCalls.gh ?_
  refine pcalls_of_vp mix Try.func16 cf16 rfl ?_
  dsimp only [if16, qI, eI, nI, qD, eD]
  simp only [pwA, if_true, if_false, eq_self, nm_eq, reduceCtorEq, ↓reduceIte, Nat.reduceEqDiff, Nat.reduceLeDiff, Nat.reduceBEq, Nat.reduceAdd, Nat.reduceLT, Nat.reduceSub, Nat.reduceMul, Int.reduceEq, Int.reduceLT, Int.reduceLE, Int.reduceNeg, Int.reduceToNat, List.reduceReplicate, Int.ofNat_le, List.getElem?_drop, h1]
  refine toInt64SSS_fz hA sz fun v1 hv1 => ?_
  simp only [pwA, if_true, if_false, eq_self, nm_eq, reduceCtorEq, ↓reduceIte, Nat.reduceEqDiff, Nat.reduceLeDiff, Nat.reduceBEq, Nat.reduceAdd, Nat.reduceLT, Nat.reduceSub, Nat.reduceMul, Int.reduceEq, Int.reduceLT, Int.reduceLE, Int.reduceNeg, Int.reduceToNat, List.reduceReplicate, Int.ofNat_le, List.getElem?_drop, hv1.cells, hv1.one]
  exact Gh.fin0 (v := .agg [.int .i64 p, .int .i64 d, v1]) (((keep_new σ _).new _).new _) ⟨trivial, trivial, hv1.bel _, trivial⟩ (hk v1 hv1)
theorem eqModule_ok (hA : FIII vA As) (hA' : FIII vA' As') (sz : SzM As) (hk : ∀ t : Bool, (t = true ↔ p = p' ∧ d = d' ∧ As = As') → K (.bool t) σ) : PCalls Try.prog 19 [.agg [.int .i64 p, .int .i64 d, vA], .agg [.int .i64 p', .int .i64 d', vA']] σ K := by
  have h1 := hA.one
  have h2 := hA'.one
  refine PCalls.gh ?_
  have hkp : Keep σ ((σ.new [.int .i64 p, .int .i64 d, vA]).new [.int .i64 p', .int .i64 d', vA']) := (keep_new σ _).new _
  have fin : ∀ {t : Bool}, (t = true ↔ p = p' ∧ d = d' ∧ As = As') → Gh σ K (.bool t) ((σ.new [.int .i64 p, .int .i64 d, vA]).new [.int .i64 p', .int .i64 d', vA']) := fun h => Gh.fin0 hkp trivial (hk _ h)
  have fl : ∀ {A : Prop}, ¬ A → ((false = true) ↔ A) := fun h => ⟨fun x => (by cases x), fun x => absurd x h⟩
  refine pcalls_of_vp mix Try.func19 cf19 rfl ?_
  dsimp only [if19, qI, eI, nI, qD, eD]
  by_cases e1 : p = p'
  rotate_left
  · simp only [pwA, if_true, if_false, eq_self, nm_eq, reduceCtorEq, ↓reduceIte, Nat.reduceEqDiff, Nat.reduceLeDiff, Nat.reduceBEq, Nat.reduceAdd, Nat.reduceLT, Nat.reduceSub, Nat.reduceMul, Int.reduceEq, Int.reduceLT, Int.reduceLE, Int.reduceNeg, Int.reduceToNat, List.reduceReplicate, Int.ofNat_le, List.getElem?_drop, h1, h2, e1]
    exact fin (fl fun h => e1 h.1)
  by_cases e2 : d = d'
  rotate_left
  · simp only [pwA, if_true, if_false, eq_self, nm_eq, reduceCtorEq, ↓reduceIte, Nat.reduceEqDiff, Nat.reduceLeDiff, Nat.reduceBEq, Nat.reduceAdd, Nat.reduceLT, Nat.reduceSub, Nat.reduceMul, Int.reduceEq, Int.reduceLT, Int.reduceLE, Int.reduceNeg, Int.reduceToNat, List.reduceReplicate, Int.ofNat_le, List.getElem?_drop, h1, h2, eq_true e1, e2]
    exact fin (fl fun h => e2 h.2.1)
  simp only [pwA, if_true, if_false, eq_self, nm_eq, reduceCtorEq, ↓reduceIte, Nat.reduceEqDiff, Nat.reduceLeDiff, Nat.reduceBEq, Nat.reduceAdd, Nat.reduceLT, Nat.reduceSub, Nat.reduceMul, Int.reduceEq, Int.reduceLT, Int.reduceLE, Int.reduceNeg, Int.reduceToNat, List.reduceReplicate, Int.ofNat_le, List.getElem?_drop, h1, h2, eq_true e1, eq_true e2]
  refine eqInt64SSS_ok hA hA' sz fun t ht' => ?_
  have := fin (t := t) ⟨fun h => ⟨e1, e2, ht'.1 h⟩, fun h => ht'.2 h.2.2⟩
  cases t with
  | false =>
    simp only [pwA, if_true, if_false, eq_self, nm_eq, reduceCtorEq, ↓reduceIte, Nat.reduceEqDiff, Nat.reduceLeDiff, Nat.reduceBEq, Nat.reduceAdd, Nat.reduceLT, Nat.reduceSub, Nat.reduceMul, Int.reduceEq, Int.reduceLT, Int.reduceLE, Int.reduceNeg, Int.reduceToNat, List.reduceReplicate, Int.ofNat_le, List.getElem?_drop]
    exact this
  | true =>
    simp only [pwA, if_true, if_false, eq_self, nm_eq, reduceCtorEq, ↓reduceIte, Nat.reduceEqDiff, Nat.reduceLeDiff, Nat.reduceBEq, Nat.reduceAdd, Nat.reduceLT, Nat.reduceSub, Nat.reduceMul, Int.reduceEq, Int.reduceLT, Int.reduceLE, Int.reduceNeg, Int.reduceToNat, List.reduceReplicate, Int.ofNat_le, List.getElem?_drop]
    exact this
theorem l21Module_ok (hR : IsPr vO vP vC O P C) (sz : SzP O P C) (hvA : FIII vA As) (szA : SzM As) (hk : ∀ t : Bool, (t = true ↔ isMod O P C p d As) → K (.bool t) σ) : PCalls Try.prog 14 [.agg [vO, vP, vC], .agg [.int .i64 p, .int .i64 d, vA]] σ K := by
  have h0 := hR.O.one
  have h1 := hR.P.one
  have h2 := hR.C.one
  have h3 := hvA.one
  refine PCalls.gh ?_
  refine pcalls_of_vp mix Try.func14 cf14 rfl ?_
  dsimp only [if14, qI, eI, nI, qD, eD]
  simp only [pwA, if_true, if_false, eq_self, nm_eq, reduceCtorEq, ↓reduceIte, Nat.reduceEqDiff, Nat.reduceLeDiff, Nat.reduceBEq, Nat.reduceAdd, Nat.reduceLT, Nat.reduceSub, Nat.reduceMul, Int.reduceEq, Int.reduceLT, Int.reduceLE, Int.reduceNeg, Int.reduceToNat, List.reduceReplicate, Int.ofNat_le, List.getElem?_drop, h0, h1, h2, h3]
  refine l08Group_ok hR sz fun t ht => ?_
  cases t with
  | false =>
    simp only [pwA, if_true, if_false, eq_self, nm_eq, reduceCtorEq, ↓reduceIte, Nat.reduceEqDiff, Nat.reduceLeDiff, Nat.reduceBEq, Nat.reduceAdd, Nat.reduceLT, Nat.reduceSub, Nat.reduceMul, Int.reduceEq, Int.reduceLT, Int.reduceLE, Int.reduceNeg, Int.reduceToNat, List.reduceReplicate, Int.ofNat_le, List.getElem?_drop]
    exact Gh.fin0 ((keep_new σ _).new _) trivial (hk _ ⟨fun x => (by cases x), fun h => ht.2 h.1⟩)
  | true =>
    have hc := ht.1 rfl
    simp only [pwA, if_true, if_false, eq_self, nm_eq, reduceCtorEq, ↓reduceIte, Nat.reduceEqDiff, Nat.reduceLeDiff, Nat.reduceBEq, Nat.reduceAdd, Nat.reduceLT, Nat.reduceSub, Nat.reduceMul, Int.reduceEq, Int.reduceLT, Int.reduceLE, Int.reduceNeg, Int.reduceToNat, List.reduceReplicate, Int.ofNat_le, List.getElem?_drop, h0, h1, h2, h3]
    refine l21Is_ok hc.1.shp hR hvA szA fun t2 ht2 => ?_
    simp only [pwA, if_true, if_false, eq_self, nm_eq, reduceCtorEq, ↓reduceIte, Nat.reduceEqDiff, Nat.reduceLeDiff, Nat.reduceBEq, Nat.reduceAdd, Nat.reduceLT, Nat.reduceSub, Nat.reduceMul, Int.reduceEq, Int.reduceLT, Int.reduceLE, Int.reduceNeg, Int.reduceToNat, List.reduceReplicate, Int.ofNat_le, List.getElem?_drop]
    exact Gh.fin0 ((keep_new σ _).new _) trivial (hk _ ⟨fun h => ⟨hc, ht2.1 h⟩, fun h => ht2.2 h.2⟩)
end Go.Proofs
