/- Plain law: words; the matrix of a word; modules over presentations; values of derivations. -/
import Derived.Test.YtpkibanhkjboeaaHP28
import Derived.Test.YtpkibanhkjboeaaHP27
set_option linter.unusedSimpArgs false
set_option linter.unusedVariables false
namespace Go.Proofs
open Go.Ab Go.Lie Go.Grp
variable {σ : PHeap} {K : PV → PHeap → Prop} {O : List Int} {P : List (List Int)} {C : List (List (List Int))} {vO vP vC vx vf va vb : PV} {x y f a b : List Int} {rP rC : List PV} {d j sp : Nat}
theorem consistentFrom_ok (s : Shp O P C) (hs : PtrG σ sp vO vP vC) (hR : IsPr vO vP vC O P C) (hk : ∀ r : Int, (r = 0 ↔ Cons O P C) → K (.int .i64 r) σ) : PCalls Try.prog 128 [.ptr sp 0] σ K := by
  have hn6 := s.le
  have hR0 := hR
  have hs0 := hs
  obtain ⟨⟨w0, a0, rfl⟩, ⟨w1, a1, rP, rfl, hP⟩, ⟨w3, a3, rC, rfl, hC⟩⟩ := hR
  have e0 : σ.rd1 sp 0 = some (.fz w0 a0 O.length (pis O)) := by rw [obj_rd1 hs.obj]; rfl
  refine pcalls_of_vp mix Try.func128 cf128 rfl ?_
  dsimp only [if128, qI, eI, nI, qD, eD]
  simp only [pwA, if_true, if_false, eq_self, nm_eq, reduceCtorEq, ↓reduceIte, Nat.reduceEqDiff, Nat.reduceLeDiff, Nat.reduceBEq, Nat.reduceAdd, Nat.reduceLT, Nat.reduceSub, Nat.reduceMul, Int.reduceEq, Int.reduceLT, Int.reduceLE, Int.reduceNeg, Int.reduceToNat, List.reduceReplicate, Int.ofNat_le, List.getElem?_drop, e0]
  refine vp_loop (fun m vs h' => ∃ k : Nat, k ≤ O.length ∧ m = k ∧ vs = [.ptr sp 0, .int .i64 k] ∧ σ = h' ∧ ∀ j, k ≤ j → j < O.length → Lv O P C j) O.length ?_ ?_
  · exact ⟨O.length, Nat.le_refl _, rfl, rfl, rfl, fun j h1 h2 => by omega⟩
  rintro m vs h' ⟨k, hkO, rfl, rfl, rfl, hall⟩
  rcases Nat.eq_zero_or_pos m with rfl | hmp
  · have h00 : ¬ ((0 : Int) < ((0 : Nat) : Int)) := by omega
    simp only [pwA, if_true, if_false, eq_self, nm_eq, reduceCtorEq, ↓reduceIte, Nat.reduceEqDiff, Nat.reduceLeDiff, Nat.reduceBEq, Nat.reduceAdd, Nat.reduceLT, Nat.reduceSub, Nat.reduceMul, Int.reduceEq, Int.reduceLT, Int.reduceLE, Int.reduceNeg, Int.reduceToNat, List.reduceReplicate, Int.ofNat_le, List.getElem?_drop, h00]
    exact hk _ ⟨fun _ j hj => hall j (Nat.zero_le _) hj, fun _ => rfl⟩
  obtain ⟨i, rfl⟩ : ∃ i, m = i + 1 := ⟨m - 1, by omega⟩
  have hpos : (0 : Int) < ((i + 1 : Nat) : Int) := by omega
  have hw : IntKind.i64.wrap (((i + 1 : Nat) : Int) - 1) = (i : Int) := by rw [wrap64 (by omega) (by omega)]; omega
  have F : Full O P C (O.length - (i + 1)) := full_of s (by omega) fun j h1 h2 => hall j (by omega) h2
  simp only [pwA, if_true, if_false, eq_self, nm_eq, reduceCtorEq, ↓reduceIte, Nat.reduceEqDiff, Nat.reduceLeDiff, Nat.reduceBEq, Nat.reduceAdd, Nat.reduceLT, Nat.reduceSub, Nat.reduceMul, Int.reduceEq, Int.reduceLT, Int.reduceLE, Int.reduceNeg, Int.reduceToNat, List.reduceReplicate, Int.ofNat_le, List.getElem?_drop, hpos, hw]
  refine levelFault_ok s F (i := i) (by omega) hs0 hR0 fun f0 f1 f2 f3 hf => ?_
  rcases hf with ⟨rfl, rfl, rfl, rfl, L⟩ | ⟨h0, hn⟩
  · simp only [pwA, if_true, if_false, eq_self, nm_eq, reduceCtorEq, ↓reduceIte, Nat.reduceEqDiff, Nat.reduceLeDiff, Nat.reduceBEq, Nat.reduceAdd, Nat.reduceLT, Nat.reduceSub, Nat.reduceMul, Int.reduceEq, Int.reduceLT, Int.reduceLE, Int.reduceNeg, Int.reduceToNat, List.reduceReplicate, Int.ofNat_le, List.getElem?_drop, hpos, hw]
    refine ⟨i, by omega, i, by omega, rfl, rfl, fun j h1 h2 => ?_⟩
    by_cases e : j = i
    · subst e; exact L
    · exact hall j (by omega) h2
  · simp only [pwA, if_true, if_false, eq_self, nm_eq, reduceCtorEq, ↓reduceIte, Nat.reduceEqDiff, Nat.reduceLeDiff, Nat.reduceBEq, Nat.reduceAdd, Nat.reduceLT, Nat.reduceSub, Nat.reduceMul, Int.reduceEq, Int.reduceLT, Int.reduceLE, Int.reduceNeg, Int.reduceToNat, List.reduceReplicate, Int.ofNat_le, List.getElem?_drop, hpos, hw, h0, Bool.false_and]
    exact hk _ ⟨fun h => absurd h (by omega), fun h => absurd (h i (by omega)) hn⟩
theorem IsConsistent_ok (hR : IsPr vO vP vC O P C) (sz : SzP O P C) (hk : ∀ t : Bool, (t = true ↔ isPres O P C ∧ Cons O P C) → K (.bool t) σ) : PCalls Try.prog 103 [.agg [vO, vP, vC]] σ K := by
  have h0 := hR.O.one
  have h1 := hR.P.one
  have h2 := hR.C.one
  have fl : ∀ {A : Prop}, ¬ A → ((false = true) ↔ A) := fun h => ⟨fun x => (by cases x), fun x => absurd x h⟩
  have hpt : PtrG (σ.new [vO, vP, vC]) σ.next vO vP vC := ⟨by simp only [pwA, if_true, if_false, eq_self, nm_eq, reduceCtorEq, ↓reduceIte, Nat.reduceEqDiff, Nat.reduceLeDiff, Nat.reduceBEq, Nat.reduceAdd, Nat.reduceLT, Nat.reduceSub, Nat.reduceMul, Int.reduceEq, Int.reduceLT, Int.reduceLE, Int.reduceNeg, Int.reduceToNat, List.reduceReplicate, Int.ofNat_le, List.getElem?_drop], by simp only [pwA, if_true, if_false, eq_self, nm_eq, reduceCtorEq, ↓reduceIte, Nat.reduceEqDiff, Nat.reduceLeDiff, Nat.reduceBEq, Nat.reduceAdd, Nat.reduceLT, Nat.reduceSub, Nat.reduceMul, Int.reduceEq, Int.reduceLT, Int.reduceLE, Int.reduceNeg, Int.reduceToNat, List.reduceReplicate, Int.ofNat_le, List.getElem?_drop]⟩
  refine PCalls.gh ?_
  refine pcalls_of_vp mix Try.func103 cf103 rfl ?_
  dsimp only [if103, qI, eI, nI, qD, eD]
  simp only [pwA, if_true, if_false, eq_self, nm_eq, reduceCtorEq, ↓reduceIte, Nat.reduceEqDiff, Nat.reduceLeDiff, Nat.reduceBEq, Nat.reduceAdd, Nat.reduceLT, Nat.reduceSub, Nat.reduceMul, Int.reduceEq, Int.reduceLT, Int.reduceLE, Int.reduceNeg, Int.reduceToNat, List.reduceReplicate, Int.ofNat_le, List.getElem?_drop, h0, h1, h2]
  refine IsPresentation_ok hR sz fun t ht => ?_
  cases t with
  | false =>
    simp only [pwA, if_true, if_false, eq_self, nm_eq, reduceCtorEq, ↓reduceIte, Nat.reduceEqDiff, Nat.reduceLeDiff, Nat.reduceBEq, Nat.reduceAdd, Nat.reduceLT, Nat.reduceSub, Nat.reduceMul, Int.reduceEq, Int.reduceLT, Int.reduceLE, Int.reduceNeg, Int.reduceToNat, List.reduceReplicate, Int.ofNat_le, List.getElem?_drop]
    exact Gh.fin0 (keep_new σ _) trivial (hk _ (fl fun h => by cases ht.2 h.1))
  | true =>
    have hp := ht.1 rfl
    simp only [pwA, if_true, if_false, eq_self, nm_eq, reduceCtorEq, ↓reduceIte, Nat.reduceEqDiff, Nat.reduceLeDiff, Nat.reduceBEq, Nat.reduceAdd, Nat.reduceLT, Nat.reduceSub, Nat.reduceMul, Int.reduceEq, Int.reduceLT, Int.reduceLE, Int.reduceNeg, Int.reduceToNat, List.reduceReplicate, Int.ofNat_le, List.getElem?_drop]
    refine consistentFrom_ok hp.shp hpt hR fun r hr => ?_
    simp only [pwA, if_true, if_false, eq_self, nm_eq, reduceCtorEq, ↓reduceIte, Nat.reduceEqDiff, Nat.reduceLeDiff, Nat.reduceBEq, Nat.reduceAdd, Nat.reduceLT, Nat.reduceSub, Nat.reduceMul, Int.reduceEq, Int.reduceLT, Int.reduceLE, Int.reduceNeg, Int.reduceToNat, List.reduceReplicate, Int.ofNat_le, List.getElem?_drop]
    exact Gh.fin0 (keep_new σ _) trivial (hk _ (by rw [decide_eq_true_iff]; exact ⟨fun h => ⟨hp, hr.1 h⟩, fun h => hr.2 h.2⟩))
end Go.Proofs
set_option linter.unusedSimpArgs false
set_option linter.unusedVariables false
namespace Go.Proofs
open Go.Ab Go.Lie
variable {σ : PHeap} {K : PV → PHeap → Prop} {p p' : Int} {n : Nat} {W : List (List Int)} {B : List (List (List Int))} {vP vB vL vU : PV} {s : Nat}
theorem PtrR.keep {h : PHeap} (hs : PtrR σ s p vP vB) (hk : Keep σ h) : PtrR h s p vP vB := ⟨by rw [hk.obj s hs.lt]; exact hs.obj, Nat.lt_of_lt_of_le hs.lt hk.next⟩
end Go.Proofs
set_option linter.unusedSimpArgs false
set_option linter.unusedVariables false
namespace Go.Proofs
open Go.Ab Go.Lie
variable {σ : PHeap} {K : PV → PHeap → Prop} {p p' : Int} {n : Nat} {W : List (List Int)} {B : List (List (List Int))} {vP vB vL vU vV : PV} {s : Nat}
theorem okF125 : okF Try.prog 131 = true := by kernel_rfl
theorem EqualFunc_ok {xs ys : List (List Int)} (hU : FII vU xs) (hV : FII vV ys) (hx : xs.length ≤ 1048576) (hxl : ∀ x ∈ xs, x.length ≤ 1048576) (hk : ∀ t : Bool, (t = true ↔ xs = ys) → K (.bool t) σ) :
    PCalls Try.prog 130 [vU, vV, .clo 131 [] []] σ K := by
  have fl : ∀ {A : Prop}, ¬ A → ((false = true) ↔ A) := fun h => ⟨fun x => (by cases x), fun x => absurd x h⟩
  obtain ⟨wu, au, ru, rfl, hru⟩ := hU
  obtain ⟨wv, av, rv, rfl, hrv⟩ := hV
  refine pcalls_of_vp mix Try.func130 cf130 rfl ?_
  dsimp only [if130, qI, eI, nI, qD, eD]
  by_cases hl : xs.length = ys.length
  · simp only [pwA, if_true, if_false, eq_self, nm_eq, reduceCtorEq, ↓reduceIte, Nat.reduceEqDiff, Nat.reduceLeDiff, Nat.reduceBEq, Nat.reduceAdd, Nat.reduceLT, Nat.reduceSub, Nat.reduceMul, Int.reduceEq, Int.reduceLT, Int.reduceLE, Int.reduceNeg, Int.reduceToNat, List.reduceReplicate, Int.ofNat_le, List.getElem?_drop, hl]
    refine vp_loop (fun m vs h' => ∃ i : Nat, i ≤ ys.length ∧ m = ys.length - i ∧ vs = [.fz wv av ys.length rv, .clo 131 [] [], .fz wu au ys.length ru, .int .i64 ys.length, .int .i64 i] ∧ σ = h' ∧ xs.take i = ys.take i) ys.length ?_ ?_
    · exact ⟨0, by omega, by omega, rfl, rfl, by simp⟩
    rintro m vs h' ⟨i, hi, rfl, rfl, rfl, heq⟩
    simp only [pwA, if_true, if_false, eq_self, nm_eq, reduceCtorEq, ↓reduceIte, Nat.reduceEqDiff, Nat.reduceLeDiff, Nat.reduceBEq, Nat.reduceAdd, Nat.reduceLT, Nat.reduceSub, Nat.reduceMul, Int.reduceEq, Int.reduceLT, Int.reduceLE, Int.reduceNeg, Int.reduceToNat, List.reduceReplicate, Int.ofNat_le, List.getElem?_drop]
    refine iteI (fun hlt => ?_) fun hge => ?_
    · have hlx : i < xs.length := by omega
      obtain ⟨w4, a4, hr⟩ := hru.rowI hlx
      obtain ⟨w5, a5, hr5⟩ := hrv.rowI hlt
      simp only [pwA, if_true, if_false, eq_self, nm_eq, reduceCtorEq, ↓reduceIte, Nat.reduceEqDiff, Nat.reduceLeDiff, Nat.reduceBEq, Nat.reduceAdd, Nat.reduceLT, Nat.reduceSub, Nat.reduceMul, Int.reduceEq, Int.reduceLT, Int.reduceLE, Int.reduceNeg, Int.reduceToNat, List.reduceReplicate, Int.ofNat_le, List.getElem?_drop, hlt, hr, hr5, List.getElem?_drop]
      refine ⟨okF125, Equal_ok rfl rfl (by have := hxl _ (List.getElem_mem hlx); omega) ?_⟩
      by_cases he : xs[i] = ys[i]
      · simp only [pwA, if_true, if_false, eq_self, nm_eq, reduceCtorEq, ↓reduceIte, Nat.reduceEqDiff, Nat.reduceLeDiff, Nat.reduceBEq, Nat.reduceAdd, Nat.reduceLT, Nat.reduceSub, Nat.reduceMul, Int.reduceEq, Int.reduceLT, Int.reduceLE, Int.reduceNeg, Int.reduceToNat, List.reduceReplicate, Int.ofNat_le, List.getElem?_drop, he, wrapS hlt (by omega : ys.length ≤ 4611686018427387904)]
        exact ⟨_, by omega, i + 1, by omega, rfl, rfl, eqTake hl hlx heq he⟩
      · simp only [pwA, if_true, if_false, eq_self, nm_eq, reduceCtorEq, ↓reduceIte, Nat.reduceEqDiff, Nat.reduceLeDiff, Nat.reduceBEq, Nat.reduceAdd, Nat.reduceLT, Nat.reduceSub, Nat.reduceMul, Int.reduceEq, Int.reduceLT, Int.reduceLE, Int.reduceNeg, Int.reduceToNat, List.reduceReplicate, Int.ofNat_le, List.getElem?_drop, he]
        refine hk _ (fl fun e => ?_)
        subst e
        exact he rfl
    · have hie : i = ys.length := by omega
      subst hie
      refine hk _ ⟨fun _ => ?_, fun _ => rfl⟩
      rw [List.take_of_length_le (by omega), List.take_of_length_le (Nat.le_refl _)] at heq
      exact heq
  · have hlI : ((xs.length : Int) = (ys.length : Int)) = False := by simp; omega
    simp only [pwA, if_true, if_false, eq_self, nm_eq, reduceCtorEq, ↓reduceIte, Nat.reduceEqDiff, Nat.reduceLeDiff, Nat.reduceBEq, Nat.reduceAdd, Nat.reduceLT, Nat.reduceSub, Nat.reduceMul, Int.reduceEq, Int.reduceLT, Int.reduceLE, Int.reduceNeg, Int.reduceToNat, List.reduceReplicate, Int.ofNat_le, List.getElem?_drop, hlI]
    exact hk _ (fl fun e => hl (by rw [e]))
theorem sameRows_ok {xs ys : List (List Int)} (hU : FII vU xs) (hV : FII vV ys) (hx : xs.length ≤ 1048576) (hxl : ∀ x ∈ xs, x.length ≤ 1048576) (hk : ∀ t : Bool, (t = true ↔ xs = ys) → K (.bool t) σ) :
    PCalls Try.prog 108 [vU, vV] σ K := by
  refine pcalls_of_vp mix Try.func108 cf108 rfl ?_
  dsimp only [if108, qI, eI, nI, qD, eD]
  simp only [pwA, if_true, if_false, eq_self, nm_eq, reduceCtorEq, ↓reduceIte, Nat.reduceEqDiff, Nat.reduceLeDiff, Nat.reduceBEq, Nat.reduceAdd, Nat.reduceLT, Nat.reduceSub, Nat.reduceMul, Int.reduceEq, Int.reduceLT, Int.reduceLE, Int.reduceNeg, Int.reduceToNat, List.reduceReplicate, Int.ofNat_le, List.getElem?_drop]
  refine EqualFunc_ok hU hV hx hxl fun t ht => ?_
  simp only [pwA, if_true, if_false, eq_self, nm_eq, reduceCtorEq, ↓reduceIte, Nat.reduceEqDiff, Nat.reduceLeDiff, Nat.reduceBEq, Nat.reduceAdd, Nat.reduceLT, Nat.reduceSub, Nat.reduceMul, Int.reduceEq, Int.reduceLT, Int.reduceLE, Int.reduceNeg, Int.reduceToNat, List.reduceReplicate, Int.ofNat_le, List.getElem?_drop]
  exact hk t ht
end Go.Proofs
set_option linter.unusedVariables false
set_option linter.unusedSimpArgs false
namespace Go.Mx
open Go.Ab Go.Lie Go.Grp
variable {p : Int} {n m d : Nat} {v w : List Int} {A B C : List (List Int)}
/-- A vector over the residues. -/
structure Ve (p : Int) (n : Nat) (v : List Int) : Prop where
  len : v.length = n
  bd : ∀ j, 0 ≤ at_ v j ∧ at_ v j < p
/-- Rows that are such vectors. -/
def Ma (p : Int) (n : Nat) (A : List (List Int)) : Prop := ∀ r ∈ A, Ve p n r
def row (A : List (List Int)) (i : Nat) : List Int := A.getD i []
def vstep (p : Int) (x : Int) (r out : List Int) : List Int := List.zipWith (fun o b => (o + x * b) % p) out r
/-- The first i entries of v times the rows of A. -/
def vmul (p : Int) (n : Nat) (v : List Int) (A : List (List Int)) : Nat → List Int
  | 0 => List.replicate n 0
  | i + 1 => vstep p (at_ v i) (row A i) (vmul p n v A i)
abbrev vt (p : Int) (n : Nat) (v : List Int) (A : List (List Int)) : List Int := vmul p n v A v.length
def mm (p : Int) (n : Nat) (A B : List (List Int)) : List (List Int) := A.map fun r => vt p n r B
/-- The identity. -/
def uv (n i : Nat) : List Int := (List.replicate n 0).set i 1
def idm (n : Nat) : List (List Int) := (List.range n).map (uv n)
theorem Ma.row (h : Ma p n A) {i : Nat} (hi : i < A.length) : Ve p n (Mx.row A i) := by
  have : Mx.row A i = A[i] := by simp [Mx.row, List.getD_eq_getElem?_getD, List.getElem?_eq_getElem hi]
  rw [this]; exact h _ (List.getElem_mem hi)
theorem row_eq {i : Nat} (hi : i < A.length) : Mx.row A i = A[i] := by simp [Mx.row, List.getD_eq_getElem?_getD, List.getElem?_eq_getElem hi]
theorem vstep_length {x : Int} {r out : List Int} (h : r.length = out.length) : (vstep p x r out).length = out.length := by simp [vstep, h]
theorem vstep_at {x : Int} {r out : List Int} (h : r.length = out.length) {j : Nat} (hj : j < out.length) : at_ (vstep p x r out) j = (at_ out j + x * at_ r j) % p := by
  have h1 : j < (vstep p x r out).length := by rw [vstep_length h]; exact hj
  rw [at_eq h1, at_eq hj, at_eq (by omega : j < r.length)]
  simp [vstep]
theorem vmul_length (hA : Ma p n A) : ∀ {i : Nat}, i ≤ A.length → (vmul p n v A i).length = n
  | 0, _ => by simp [vmul]
  | i + 1, hi => by
    rw [vmul, vstep_length]
    · exact vmul_length hA (by omega)
    · rw [vmul_length hA (by omega)]; exact (hA.row (by omega)).len
theorem vmul_at (hp : 0 < p) (hA : Ma p n A) {j : Nat} (hj : j < n) : ∀ {i : Nat}, i ≤ A.length → at_ (vmul p n v A i) j = (sumN i fun k => at_ v k * at_ (Mx.row A k) j) % p
  | 0, _ => by rw [vmul, at_rep, sumN, Int.zero_emod]
  | i + 1, hi => by
    have hl := vmul_length (v := v) hA (i := i) (by omega)
    rw [vmul, vstep_at (by rw [hl]; exact (hA.row (by omega)).len) (by rw [hl]; exact hj), vmul_at hp hA hj (by omega), sumN, Int.emod_add_emod]
theorem vmul_ve (hp : 0 < p) (hA : Ma p n A) {i : Nat} (hi : i ≤ A.length) : Ve p n (vmul p n v A i) := by
  refine ⟨vmul_length hA hi, fun j => ?_⟩
  rcases Nat.lt_or_ge j n with h | h
  · rw [vmul_at hp hA h hi]
    exact ⟨Int.emod_nonneg _ (by omega), Int.emod_lt_of_pos _ hp⟩
  · rw [at_ge (by rw [vmul_length hA hi]; exact h)]; omega
theorem vt_ve (hp : 0 < p) (hA : Ma p n A) (hv : v.length = A.length) : Ve p n (vt p n v A) := vmul_ve hp hA (by omega)
theorem vt_at (hp : 0 < p) (hA : Ma p n A) (hv : v.length = A.length) {j : Nat} (hj : j < n) : at_ (vt p n v A) j = (sumN A.length fun k => at_ v k * at_ (Mx.row A k) j) % p := by
  unfold vt; rw [vmul_at hp hA hj (by omega), hv]
theorem Ve.ext (hv : Ve p n v) (hw : Ve p n w) (h : ∀ j, j < n → at_ v j = at_ w j) : v = w := ext_at (by rw [hv.len, hw.len]) fun j hj => h j (by rw [← hv.len]; exact hj)
theorem sumN_mod (hp : 0 < p) : ∀ {n : Nat} {f g : Nat → Int}, (∀ i, i < n → f i % p = g i % p) → sumN n f % p = sumN n g % p
  | 0, _, _, _ => rfl
  | n + 1, f, g, h => by
    rw [sumN, sumN, Int.add_emod, sumN_mod hp (fun i hi => h i (by omega)), h n (by omega), ← Int.add_emod]
theorem sumN_swap' : ∀ (n m : Nat) (f : Nat → Nat → Int), (sumN n fun i => sumN m fun j => f i j) = sumN m fun j => sumN n fun i => f i j
  | 0, m, f => by
    rw [sumN]; symm
    exact sumN_zero _ fun _ _ => rfl
  | n + 1, m, f => by
    rw [sumN, sumN_swap' n m f, ← sumN_add]
    exact sumN_congr fun _ _ => rfl
theorem mulmod (a b : Int) : a * (b % p) % p = a * b % p := by rw [Int.mul_emod, Int.emod_emod, ← Int.mul_emod]
theorem modmul (a b : Int) : a % p * b % p = a * b % p := by rw [Int.mul_emod, Int.emod_emod, ← Int.mul_emod]
theorem mm_length : (mm p n A B).length = A.length := by simp [mm]
theorem mm_row {i : Nat} (hi : i < A.length) : Mx.row (mm p n A B) i = vt p n (Mx.row A i) B := by
  rw [row_eq (by rw [mm_length]; exact hi), row_eq hi]; simp [mm]
theorem mm_ma (hp : 0 < p) (hA : Ma p B.length A) (hB : Ma p n B) : Ma p n (mm p n A B) := by
  intro r hr
  simp only [mm, List.mem_map] at hr
  obtain ⟨a, ha, rfl⟩ := hr
  exact vt_ve hp hB (hA a ha).len
/-- Rows times a product. -/
theorem vt_mm (hp : 0 < p) (hB : Ma p C.length B) (hC : Ma p n C) (hv : v.length = B.length) : vt p n (vt p C.length v B) C = vt p n v (mm p n B C) := by
  have h1 := vt_ve hp hB hv
  have hm := mm_ma hp hB hC
  have hml : (mm p n B C).length = B.length := mm_length
  refine (vt_ve hp hC h1.len).ext (vt_ve hp hm (by rw [hml]; exact hv)) fun j hj => ?_
  rw [vt_at hp hC h1.len hj, vt_at hp hm (by rw [hml]; exact hv) hj, hml]
  have e1 : sumN C.length (fun k => at_ (vt p C.length v B) k * at_ (Mx.row C k) j) % p = sumN C.length (fun k => sumN B.length fun i => at_ v i * at_ (Mx.row B i) k * at_ (Mx.row C k) j) % p := by
    refine sumN_mod hp fun k hk => ?_
    rw [vt_at hp hB hv hk, modmul, ← Int.mul_comm, ← sumN_mul]
    congr 1
    exact sumN_congr fun i _ => by grind
  have e2 : sumN B.length (fun i => at_ v i * at_ (Mx.row (mm p n B C) i) j) % p = sumN B.length (fun i => sumN C.length fun k => at_ v i * at_ (Mx.row B i) k * at_ (Mx.row C k) j) % p := by
    refine sumN_mod hp fun i hi => ?_
    rw [mm_row hi, vt_at hp hC (hB.row hi).len hj, mulmod, ← sumN_mul]
    congr 1
    exact sumN_congr fun k _ => by grind
  rw [e1, e2, sumN_swap']
theorem mm_assoc (hp : 0 < p) (hA : Ma p B.length A) (hB : Ma p C.length B) (hC : Ma p n C) : mm p n (mm p C.length A B) C = mm p n A (mm p n B C) := by
  simp only [mm, List.map_map]
  refine List.map_congr_left fun r hr => ?_
  exact vt_mm hp hB hC (hA r hr).len
theorem uv_at {n i : Nat} (hi : i < n) (j : Nat) : at_ (uv n i) j = if j = i then 1 else 0 := by
  unfold uv
  rw [at_set (by simp; exact hi), at_rep]
theorem uv_ve (hp : 1 < p) {n i : Nat} (hi : i < n) : Ve p n (uv n i) := ⟨by simp [uv], fun j => by rw [uv_at hi]; split <;> omega⟩
theorem idm_length (n : Nat) : (idm n).length = n := by simp [idm]
theorem idm_row {n i : Nat} (hi : i < n) : Mx.row (idm n) i = uv n i := by rw [row_eq (by rw [idm_length]; exact hi)]; simp [idm]
theorem idm_ma (hp : 1 < p) (n : Nat) : Ma p n (idm n) := by
  intro r hr
  simp only [idm, List.mem_map, List.mem_range] at hr
  obtain ⟨i, hi, rfl⟩ := hr
  exact uv_ve hp hi
theorem vt_uv (hp : 1 < p) (hA : Ma p n A) {i : Nat} (hi : i < A.length) : vt p n (uv A.length i) A = Mx.row A i := by
  have hl : (uv A.length i).length = A.length := by simp [uv]
  have hr := hA.row hi
  refine (vt_ve (by omega) hA hl).ext hr fun j hj => ?_
  rw [vt_at (by omega) hA hl hj, sumN_one (k := i) hi (fun k hk hne => by rw [uv_at hi, if_neg (by omega), Int.zero_mul])]
  rw [uv_at hi, if_pos rfl, Int.one_mul]
  have := hr.bd j
  exact Int.emod_eq_of_lt this.1 this.2
theorem idm_mul (hp : 1 < p) (hA : Ma p n A) : mm p n (idm A.length) A = A := by
  refine List.ext_getElem (by rw [mm_length, idm_length]) fun i h1 h2 => ?_
  have h3 : i < (idm A.length).length := by rw [idm_length]; exact h2
  have := mm_row (p := p) (n := n) (B := A) h3
  rw [row_eq h1, idm_row h2, vt_uv hp hA h2, row_eq h2] at this
  exact this
theorem vt_id (hp : 1 < p) (hv : Ve p n v) : vt p n v (idm n) = v := by
  have hl : v.length = (idm n).length := by rw [hv.len, idm_length]
  refine (vt_ve (by omega) (idm_ma hp n) hl).ext hv fun j hj => ?_
  rw [vt_at (by omega) (idm_ma hp n) hl hj, idm_length, sumN_one (k := j) hj (fun k hk hne => by rw [idm_row hk, uv_at hk, if_neg (by omega), Int.mul_zero])]
  rw [idm_row hj, uv_at hj, if_pos rfl, Int.mul_one]
  have := hv.bd j
  exact Int.emod_eq_of_lt this.1 this.2
theorem mul_idm (hp : 1 < p) (hA : Ma p n A) : mm p n A (idm n) = A := by
  unfold mm
  conv => rhs; rw [← List.map_id A]
  exact List.map_congr_left fun r hr => vt_id hp (hA r hr)
/-- Square matrices. -/
def Sq (p : Int) (n : Nat) (A : List (List Int)) : Prop := A.length = n ∧ Ma p n A
theorem sq_mon (hp : 1 < p) (n : Nat) : Mon (Sq p n) (mm p n) (idm n) := by
  refine ⟨⟨idm_length n, idm_ma hp n⟩, fun {a b} ha hb => ⟨by rw [mm_length]; exact ha.1, mm_ma (by omega) (by rw [hb.1]; exact ha.2) hb.2⟩, fun {a b c} ha hb hc => ?_, fun {a} ha => ?_, fun {a} ha => mul_idm hp ha.2⟩
  · have := mm_assoc (p := p) (n := n) (A := a) (B := b) (C := c) (by omega) (by rw [hb.1]; exact ha.2) (by rw [hc.1]; exact hb.2) hc.2
    rwa [hc.1] at this
  · have := idm_mul hp ha.2
    rwa [ha.1] at this
end Go.Mx
set_option linter.unusedVariables false
set_option linter.unusedSimpArgs false
namespace Go.Mx
open Go.Ab Go.Lie Go.Grp
variable {p : Int} {n d : Nat} {As : List (List (List Int))} {X : List (List Int)}
/-- The normal word of the first i entries. -/
def nword (x : List Int) : Nat → List Int
  | 0 => []
  | i + 1 => nword x i ++ List.replicate (nx x i) ((i : Int) + 1)
abbrev nw (x : List Int) : List Int := nword x x.length
abbrev mat (As : List (List (List Int))) (i : Nat) : List (List Int) := As.getD i []
/-- A value that is moved by each letter of a word. -/
def foldW {α : Type} (f : α → Nat → α) : List Int → α → α
  | [], a => a
  | l :: w, a => foldW f w (f a (l.toNat - 1))
theorem foldW_append {α : Type} (f : α → Nat → α) : ∀ (u w : List Int) (a : α), foldW f (u ++ w) a = foldW f w (foldW f u a)
  | [], w, a => rfl
  | l :: u, w, a => by simp only [List.cons_append, foldW]; exact foldW_append f u w _
/-- k times the same step. -/
def repF {α : Type} (f : α → Nat → α) (i : Nat) : Nat → α → α
  | 0, a => a
  | k + 1, a => repF f i k (f a i)
theorem repF_succ {α : Type} (f : α → Nat → α) (i : Nat) : ∀ (k : Nat) (a : α), repF f i (k + 1) a = f (repF f i k a) i
  | 0, a => rfl
  | k + 1, a => repF_succ f i k (f a i)
theorem foldW_rep {α : Type} (f : α → Nat → α) (i : Nat) : ∀ (k : Nat) (a : α), foldW f (List.replicate k ((i : Int) + 1)) a = repF f i k a
  | 0, a => rfl
  | k + 1, a => by
    rw [List.replicate_succ, foldW, repF, show ((i : Int) + 1).toNat - 1 = i by omega]
    exact foldW_rep f i k _
/-- The steps of the first i exponents. -/
def expF {α : Type} (f : α → Nat → α) (x : List Int) : Nat → α → α
  | 0, a => a
  | i + 1, a => repF f i (nx x i) (expF f x i a)
theorem foldW_nword {α : Type} (f : α → Nat → α) (x : List Int) : ∀ (i : Nat) (a : α), foldW f (nword x i) a = expF f x i a
  | 0, a => rfl
  | i + 1, a => by rw [nword, foldW_append, foldW_nword f x i, foldW_rep]; rfl
theorem fold_in {α : Type} {S : α → Prop} {f : α → Nat → α} {n : Nat} (h : ∀ a i, i < n → S a → S (f a i)) : ∀ (w : List Int) {a : α}, (∀ l ∈ w, 1 ≤ l ∧ l ≤ n) → S a → S (foldW f w a)
  | [], a, _, ha => ha
  | l :: w, a, hw, ha => fold_in h w (fun t ht => hw t (by simp [ht])) (h a _ (by have := hw l (by simp); omega) ha)
theorem repF_in {α : Type} {S : α → Prop} {f : α → Nat → α} {i : Nat} (h : ∀ a, S a → S (f a i)) : ∀ (k : Nat) {a : α}, S a → S (repF f i k a)
  | 0, a, ha => ha
  | k + 1, a, ha => repF_in h k (h a ha)
theorem expF_in {α : Type} {S : α → Prop} {f : α → Nat → α} {x : List Int} {n : Nat} (h : ∀ a i, i < n → S a → S (f a i)) : ∀ (i : Nat) {a : α}, i ≤ n → S a → S (expF f x i a)
  | 0, a, _, ha => ha
  | i + 1, a, hi, ha => repF_in (fun a ha => h a i (by omega) ha) _ (expF_in h i (by omega) ha)
theorem nword_in {x : List Int} {n : Nat} : ∀ {i : Nat}, i ≤ n → ∀ l ∈ nword x i, 1 ≤ l ∧ l ≤ (n : Int)
  | 0, _, l, hl => by cases hl
  | i + 1, hi, l, hl => by
    rw [nword, List.mem_append] at hl
    rcases hl with hl | hl
    · exact nword_in (by omega) l hl
    · have := List.eq_of_mem_replicate hl; omega
theorem nword_length {x : List Int} {b : Nat} (hb : ∀ j, nx x j ≤ b) : ∀ (i : Nat), (nword x i).length ≤ i * b
  | 0 => by simp [nword]
  | i + 1 => by
    have := nword_length hb i
    have := hb i
    rw [nword, List.length_append, List.length_replicate, Nat.add_mul]
    omega
/-- The step by a generator's matrix. -/
abbrev ms (p : Int) (n : Nat) (As : List (List (List Int))) (X : List (List Int)) (i : Nat) : List (List Int) := mm p n X (mat As i)
def SqL (p : Int) (n : Nat) (As : List (List (List Int))) : Prop := ∀ A ∈ As, Sq p n A
theorem SqL.mat (h : SqL p n As) {i : Nat} (hi : i < As.length) : Sq p n (Mx.mat As i) := by
  have : Mx.mat As i = As[i] := by simp [Mx.mat, List.getD_eq_getElem?_getD, List.getElem?_eq_getElem hi]
  rw [this]; exact h _ (List.getElem_mem hi)
theorem ms_in (hp : 1 < p) (h : SqL p n As) {X : List (List Int)} {i : Nat} (hi : i < As.length) (hX : Sq p n X) : Sq p n (ms p n As X i) := (sq_mon hp n).cl hX (h.mat hi)
/-- The matrix of exponents. -/
abbrev act (p : Int) (n : Nat) (As : List (List (List Int))) (x : List Int) : List (List Int) := expF (ms p n As) x x.length (idm n)
theorem act_in (hp : 1 < p) (h : SqL p n As) {x : List Int} (hx : x.length ≤ As.length) : Sq p n (act p n As x) := expF_in (n := As.length) (fun a i hi ha => ms_in hp h hi ha) _ hx (sq_mon hp n).one
theorem repF_mul (hp : 1 < p) (h : SqL p n As) {i : Nat} (hi : i < As.length) : ∀ (k : Nat) {X Y : List (List Int)}, Sq p n X → Sq p n Y → repF (ms p n As) i k (mm p n X Y) = mm p n X (repF (ms p n As) i k Y)
  | 0, X, Y, _, _ => rfl
  | k + 1, X, Y, hX, hY => by
    rw [repF, repF, ← repF_mul hp h hi k hX (ms_in hp h hi hY)]
    congr 1
    exact (sq_mon hp n).as hX hY (h.mat hi)
theorem expF_mul (hp : 1 < p) (h : SqL p n As) {x : List Int} : ∀ (i : Nat) {X Y : List (List Int)}, i ≤ As.length → Sq p n X → Sq p n Y → expF (ms p n As) x i (mm p n X Y) = mm p n X (expF (ms p n As) x i Y)
  | 0, X, Y, _, _, _ => rfl
  | i + 1, X, Y, hi, hX, hY => by
    rw [expF, expF, expF_mul hp h i (by omega) hX hY, repF_mul hp h (by omega) _ hX (expF_in (n := As.length) (fun a i hi ha => ms_in hp h hi ha) _ (by omega) hY)]
variable {O : List Int} {P : List (List Int)} {C : List (List (List Int))}
def powR (O : List Int) (P : List (List Int)) (i : Nat) : List Int × List Int := (List.replicate (nx O i) ((i : Int) + 1), nw (P.getD i []))
def conR (C : List (List (List Int))) (i k : Nat) : List Int × List Int := ([((i + k : Nat) : Int) + 2, (i : Int) + 1], ((i : Int) + 1) :: nw ((C.getD i []).getD k []))
/-- All relations. -/
def relL (O : List Int) (P : List (List Int)) (C : List (List (List Int))) : List (List Int × List Int) :=
  (List.range O.length).map (powR O P) ++ (List.range O.length).flatMap fun i => (List.range (C.getD i []).length).map (conR C i)
theorem mem_relL {r : List Int × List Int} : r ∈ relL O P C ↔ (∃ i, i < O.length ∧ r = powR O P i) ∨ ∃ i k, i < O.length ∧ k < (C.getD i []).length ∧ r = conR C i k := by
  simp only [relL, List.mem_append, List.mem_map, List.mem_flatMap, List.mem_range]
  constructor
  · rintro (⟨i, hi, rfl⟩ | ⟨i, hi, k, hk, rfl⟩)
    · exact .inl ⟨i, hi, rfl⟩
    · exact .inr ⟨i, k, hi, hk, rfl⟩
  · rintro (⟨i, hi, rfl⟩ | ⟨i, k, hi, hk, rfl⟩)
    · exact .inl ⟨i, hi, rfl⟩
    · exact .inr ⟨i, hi, k, hk, rfl⟩
/-- Both sides of a relation by a step. -/
theorem pow_fold {α : Type} (f : α → Nat → α) (i : Nat) (a : α) : foldW f (powR O P i).1 a = repF f i (nx O i) a ∧ foldW f (powR O P i).2 a = expF f (P.getD i []) (P.getD i []).length a :=
  ⟨foldW_rep f i _ a, foldW_nword f _ _ a⟩
theorem con_fold {α : Type} (f : α → Nat → α) (i k : Nat) (a : α) : foldW f (conR C i k).1 a = f (f a (i + (1 + k))) i ∧ foldW f (conR C i k).2 a = expF f ((C.getD i []).getD k []) ((C.getD i []).getD k []).length (f a i) := by
  constructor
  · simp only [conR, foldW]
    rw [show (((i + k : Nat) : Int) + 2).toNat - 1 = i + (1 + k) by omega, show ((i : Int) + 1).toNat - 1 = i by omega]
  · simp only [conR, foldW]
    rw [show ((i : Int) + 1).toNat - 1 = i by omega]
    exact foldW_nword f _ _ _
/-- A module: the matrices respect the relations. -/
def modRel (p : Int) (n : Nat) (As : List (List (List Int))) (O : List Int) (P : List (List Int)) (C : List (List (List Int))) : Prop := ∀ r ∈ relL O P C, foldW (ms p n As) r.1 (idm n) = foldW (ms p n As) r.2 (idm n)
theorem modRel_iff (hp : 1 < p) (h : SqL p n As) (hl : As.length = O.length) (hC : ∀ i, i < O.length → (C.getD i []).length = O.length - 1 - i ∧ ∀ k, k < O.length - 1 - i → ((C.getD i []).getD k []).length = O.length) :
    modRel p n As O P C ↔ ∀ i, i < O.length → repF (ms p n As) i (nx O i) (idm n) = act p n As (P.getD i []) ∧ ∀ k, k < O.length - 1 - i → mm p n (mat As (i + (1 + k))) (mat As i) = mm p n (mat As i) (act p n As ((C.getD i []).getD k [])) := by
  have one := (sq_mon hp n).one
  have id1 : ∀ i, i < O.length → mm p n (idm n) (mat As i) = mat As i := fun i hi => (sq_mon hp n).l1 (h.mat (by omega))
  have key : ∀ i k, i < O.length → k < O.length - 1 - i → (foldW (ms p n As) (conR C i k).1 (idm n) = foldW (ms p n As) (conR C i k).2 (idm n) ↔ mm p n (mat As (i + (1 + k))) (mat As i) = mm p n (mat As i) (act p n As ((C.getD i []).getD k []))) := by
    intro i k hi hk
    obtain ⟨e1, e2⟩ := con_fold (C := C) (ms p n As) i k (idm n)
    have hc := (hC i hi).2 k hk
    have e3 : ms p n As (idm n) (i + (1 + k)) = mat As (i + (1 + k)) := id1 _ (by omega)
    have e4 : ms p n As (idm n) i = mat As i := id1 _ hi
    rw [e1, e2, e3, e4]
    have e5 := expF_mul (x := (C.getD i []).getD k []) hp h ((C.getD i []).getD k []).length (X := mat As i) (Y := idm n) (by omega) (h.mat (by omega)) one
    rw [(sq_mon hp n).r1 (h.mat (by omega))] at e5
    rw [e5]
  constructor
  · intro hr i hi
    refine ⟨?_, fun k hk => (key i k hi hk).1 (hr _ (mem_relL.2 (.inr ⟨i, k, hi, by rw [(hC i hi).1]; exact hk, rfl⟩)))⟩
    have := hr _ (mem_relL.2 (.inl ⟨i, hi, rfl⟩))
    obtain ⟨e1, e2⟩ := pow_fold (O := O) (P := P) (ms p n As) i (idm n)
    rwa [e1, e2] at this
  · intro hr r hm
    rcases mem_relL.1 hm with ⟨i, hi, rfl⟩ | ⟨i, k, hi, hk, rfl⟩
    · obtain ⟨e1, e2⟩ := pow_fold (O := O) (P := P) (ms p n As) i (idm n)
      rw [e1, e2]; exact (hr i hi).1
    · rw [(hC i hi).1] at hk
      exact (key i k hi hk).2 ((hr i hi).2 k hk)
/-- v plus c times w. -/
def vadd (p c : Int) (v w : List Int) : List Int := vstep p c w v
/-- The step of a derivation's value by a generator. -/
abbrev vs (p : Int) (n : Nat) (As : List (List (List Int))) (vals : List (List Int)) (v : List Int) (i : Nat) : List Int := vadd p 1 (vt p n v (mat As i)) (vals.getD i [])
end Go.Mx
