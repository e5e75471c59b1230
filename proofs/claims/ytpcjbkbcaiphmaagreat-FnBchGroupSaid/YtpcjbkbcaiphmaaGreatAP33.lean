/- What a law is handed, laid as frozen values: Lie rings, lists of elements. -/
import Derived.Test.YtpcjbkbcaiphmaaGreatAP30
import Derived.Test.YtpcjbkbcaiphmaaGreatAP28
import Derived.Test.YtpcjbkbcaiphmaaGreatAP29
import Derived.Test.YtpcjbkbcaiphmaaGreatAP27
import Derived.Test.YtpcjbkbcaiphmaaGreatAAbPt
import Derived.Test.YtpcjbkbcaiphmaaGreatChecked
import Derived.Test.YtpcjbkbcaiphmaaGreatRows
import Derived.Lib.SmallJoins
import Derived.WalkKit
import Derived.ProofKit
open Nat renaming reduceLeDiff → nQ7, reduceEqDiff → nQ10, reduceBEq → nQ11, reduceAdd → nQ12, reduceLT → nQ16, reduceSub → nQ17, reduceMul → nQ18
open Int renaming reduceEq → iQ2, reduceLT → iQ3, reduceLE → iQ4, reduceNeg → iQ5, reduceToNat → iQ6, ofNat_le → iQ7
open List renaming reduceReplicate → lQ19, getElem?_drop → lQ20
set_option linter.unusedSimpArgs false
set_option linter.unusedVariables false
namespace Go.Proofs
open Go.Ab Go.Lie
variable {σ : PHeap} {K : PV → PHeap → Prop} {p p' : Int} {n : Nat} {W : List (List Int)} {B : List (List (List Int))} {vP vB vL vU vV : PV} {s : Nat}
theorem ipow_pw : ∀ n : Nat, ipow p n = pw_ p n
  | 0 => rfl
  | n + 1 => by rw [ipow, pw_, ipow_pw n, Int.mul_comm]
def Cop (p k : Int) : Prop := ∃ e t : Int, k * e = 1 + p * t
structure DivL (p : Int) (n : Nat) (W : List (List Int)) (k : Int) (x z : List Int) : Prop where
  el : El p n z
  nil : isZ x → z = x
  eqv : Cop p k → Eqv p n W (fun j => k * at_ z j) (at_ x)
theorem cop_inv {k : Int} (h : Cop p k) (hn : 0 < n) : ∃ z w : Int, k * z = 1 + w * pw_ p n := by
  obtain ⟨e, t, h⟩ := h
  obtain ⟨f, s, g⟩ := inv_one (p := p) t n hn
  exact ⟨e * f, s, by grind⟩
theorem DivL.unique (o : OkW p n W) {k : Int} {x z z' : List Int} (hx : El p n x) (h : DivL p n W k x z) (h' : DivL p n W k x z') (hk : isZ x ∨ Cop p k) : z = z' := by
  rcases hk with hk | hk
  · rw [h.nil hk, h'.nil hk]
  · rcases Nat.eq_zero_or_pos n with hn | hn
    · have e1 := h.el.1
      have e2 := h'.el.1
      rw [List.eq_nil_of_length_eq_zero (e1.trans hn), List.eq_nil_of_length_eq_zero (e2.trans hn)]
    · obtain ⟨a, w, ha⟩ := cop_inv (p := p) hk hn
      have e : Eqv p n W (fun j => k * at_ z j) (fun j => k * at_ z' j) := (h.eqv hk).trans (h'.eqv hk).symm
      have e2 := e.mul a
      have one : ∀ {v : List Int}, El p n v → Eqv p n W (fun j => a * (k * at_ v j)) (at_ v) := fun {v} hv => by
        have k1 := (kill_all o (f := at_ v) (fun j hj => hv.beyond hj)).mul w
        have k2 := (Eqv.refl (p := p) (n := n) (W := W) (at_ v)).add k1
        exact ((Eqv.of_eq fun j => by grind).trans k2).trans (Eqv.of_eq fun j => by omega)
      exact eqv_unique o h.el.1 h'.el.1 h.el.2 h'.el.2 (((one h.el).symm.trans e2).trans (one h'.el))
theorem DivL.mk' (o : OkW p n W) {k y m : Int} {x : List Int} (hx : El p n x) (hz : ¬ isZ x) (hm : Eqv p n W (fun j => m * at_ x j) fun _ => 0) (hy : Cop p k → ∃ t, k * y = 1 + t * m) : DivL p n W k x (lmul p W y x) where
  el := (mul_eqv o hx y).1
  nil := fun h => absurd h hz
  eqv := fun hk => by
    obtain ⟨t, ht⟩ := hy hk
    have k1 := (mul_eqv o hx y).2.mul k
    have k2 := (Eqv.refl (p := p) (n := n) (W := W) (at_ x)).add (hm.mul t)
    exact (k1.trans (Eqv.of_eq fun j => by grind)).trans (k2.trans (Eqv.of_eq fun j => by omega))
theorem divideLie_ok {l : Nat} {w : Bool} {av : AV} {k : Int} {x : List Int} (hs : PtrR σ s p vP vB) (hP : FII vP W) (o : OkW p n W) (hpow : ipow p n ≤ 729) (hx : El p n x) (hl : l = x.length)
    (hk : ∀ v z, DivL p n W k x z → K (.fz true v n (pis z)) σ) : PCalls Tryz.prog 110 [.ptr s 0, .fz w av l (pis x), .int .i64 k] σ K := by
  have hn6 := o.le
  have hpr := o.pr
  have hxl := hx.1
  have hp0 : σ.rd1 s 0 = some (.int .i64 p) := by rw [obj_rd1 hs.obj]; rfl
  subst hl
  refine pcalls_of_vp mix Tryz.func110 cf110 rfl ?_
  dsimp only [if110, qI, eI, nI, qD, eD]
  simp only [pwA, if_true, if_false, eq_self, nm_eq, reduceCtorEq, ↓reduceIte, nQ10, nQ7, nQ11, nQ12, nQ16, nQ17, nQ18, iQ2, iQ3, iQ4, iQ5, iQ6, lQ19, iQ7, lQ20]
  refine isZero_ok rfl (by omega) ?_
  by_cases hz : isZ x
  · simp only [pwA, if_true, if_false, eq_self, nm_eq, reduceCtorEq, ↓reduceIte, nQ10, nQ7, nQ11, nQ12, nQ16, nQ17, nQ18, iQ2, iQ3, iQ4, iQ5, iQ6, lQ19, iQ7, lQ20, hz, decide_true]
    refine PCalls.fzN hxl (fun K' => Clone_ok rfl (by omega)) fun v0 => ?_
    simp only [pwA, if_true, if_false, eq_self, nm_eq, reduceCtorEq, ↓reduceIte, nQ10, nQ7, nQ11, nQ12, nQ16, nQ17, nQ18, iQ2, iQ3, iQ4, iQ5, iQ6, lQ19, iQ7, lQ20]
    exact hk _ x ⟨hx, fun _ => rfl, fun _ => by
      refine Eqv.of_eq fun j => ?_
      rw [isZ_at hz, Int.mul_zero]⟩
  · have hn : 0 < n := by
      rcases Nat.eq_zero_or_pos n with h | h
      · exact absurd (by rw [List.eq_nil_of_length_eq_zero (hxl.trans h)]; intro y hy; cases hy) hz
      · exact h
    have hm1 : 2 ≤ ipow p n := by
      obtain ⟨n', rfl⟩ : ∃ n', n = n' + 1 := ⟨n - 1, by omega⟩
      have h1 : ∀ k : Nat, 1 ≤ ipow p k := fun k => by
        induction k with
        | zero => simp [ipow]
        | succ k ih =>
          have := Int.mul_le_mul_of_nonneg_left (show (1 : Int) ≤ p by have := hpr.1; omega) (show 0 ≤ ipow p k by omega)
          rw [ipow]; omega
      have := Int.mul_le_mul_of_nonneg_left (show (2 : Int) ≤ p from hpr.1) (show 0 ≤ ipow p n' by have := h1 n'; omega)
      have := h1 n'
      rw [ipow]; omega
    simp only [pwA, if_true, if_false, eq_self, nm_eq, reduceCtorEq, ↓reduceIte, nQ10, nQ7, nQ11, nQ12, nQ16, nQ17, nQ18, iQ2, iQ3, iQ4, iQ5, iQ6, lQ19, iQ7, lQ20, hz, decide_false, hp0, hxl]
    refine integerPower_ok hpr hn6 ?_
    simp only [pwA, if_true, if_false, eq_self, nm_eq, reduceCtorEq, ↓reduceIte, nQ10, nQ7, nQ11, nQ12, nQ16, nQ17, nQ18, iQ2, iQ3, iQ4, iQ5, iQ6, lQ19, iQ7, lQ20]
    refine residue_ok (by omega) (by omega) ?_
    simp only [pwA, if_true, if_false, eq_self, nm_eq, reduceCtorEq, ↓reduceIte, nQ10, nQ7, nQ11, nQ12, nQ16, nQ17, nQ18, iQ2, iQ3, iQ4, iQ5, iQ6, lQ19, iQ7, lQ20]
    refine inverseG_ok (Int.emod_nonneg _ (by omega)) (Int.emod_lt_of_pos _ (by omega)) (by omega) fun y yb h1 h2 h3 => ?_
    simp only [pwA, if_true, if_false, eq_self, nm_eq, reduceCtorEq, ↓reduceIte, nQ10, nQ7, nQ11, nQ12, nQ16, nQ17, nQ18, iQ2, iQ3, iQ4, iQ5, iQ6, lQ19, iQ7, lQ20]
    refine timesLie_fz hs hP o hx hxl.symm (by omega) fun v2 => ?_
    simp only [pwA, if_true, if_false, eq_self, nm_eq, reduceCtorEq, ↓reduceIte, nQ10, nQ7, nQ11, nQ12, nQ16, nQ17, nQ18, iQ2, iQ3, iQ4, iQ5, iQ6, lQ19, iQ7, lQ20]
    refine hk v2 _ (DivL.mk' o hx hz (m := ipow p n) ?_ fun hc => ?_)
    · rw [ipow_pw]
      exact kill_all o fun j hj => hx.beyond hj
    · obtain ⟨z, w', hzw⟩ := cop_inv hc hn
      rw [← ipow_pw] at hzw
      have em := Int.mul_ediv_add_emod k (ipow p n)
      obtain ⟨t, ht⟩ := h3 ⟨z, w' - k / ipow p n * z, by grind⟩
      exact ⟨t + k / ipow p n * y, by grind⟩
end Go.Proofs
namespace Go.Proofs
open Go.Ab Go.Lie
variable {σ : PHeap} {K : PV → PHeap → Prop} {p p' : Int} {n : Nat} {W : List (List Int)} {B : List (List (List Int))} {vP vB vL vU vV : PV} {s : Nat}
theorem pw_pos (hp : okp p) : ∀ k : Nat, 1 ≤ pw_ p k
  | 0 => by simp [pw_]
  | k + 1 => by
    have h := pw_pos hp k
    have := Int.mul_le_mul_of_nonneg_right (show (1 : Int) ≤ p by have := hp.1; omega) (show 0 ≤ pw_ p k by omega)
    rw [pw_]; omega
theorem pw_mono (hp : okp p) {j : Nat} : ∀ {k : Nat}, j ≤ k → pw_ p j ≤ pw_ p k
  | 0, h => by have : j = 0 := by omega
               subst this; exact Int.le_refl _
  | k + 1, h => by
    by_cases e : j = k + 1
    · subst e; exact Int.le_refl _
    · have h1 := pw_mono hp (j := j) (k := k) (by omega)
      have h2 := pw_pos hp k
      have := Int.mul_le_mul_of_nonneg_right (show (1 : Int) ≤ p by have := hp.1; omega) (show 0 ≤ pw_ p k by omega)
      have e2 : pw_ p (k + 1) = p * pw_ p k := rfl
      omega
theorem l31Order_ok {l : Nat} {w : Bool} {av : AV} {x : List Int} (hR : IsR vP vB W B) (o : OkW p n W) (hpow : ipow p n ≤ 729) (hx : El p n x) (hl : l = x.length)
    (hk : ∀ j, j ≤ n → Eqv p n W (fun i => pw_ p j * at_ x i) (fun _ => 0) → K (.int .i64 (pw_ p j)) σ) : PCalls Tryz.prog 202 [.agg [.int .i64 p, vP, vB], .fz w av l (pis x)] σ K := by
  have h1 := hR.P.one
  have h2 := hR.B.one
  have hn6 := o.le
  have hpr := o.pr
  have hpb := hpr
  unfold okp at hpb
  have hxl := hx.1
  subst hl
  refine PCalls.gh ?_
  refine pcalls_of_vp mix Tryz.func202 cf202 rfl ?_
  dsimp only [if202, qI, eI, nI, qD, eD]
  simp only [pwA, if_true, if_false, eq_self, nm_eq, reduceCtorEq, ↓reduceIte, nQ10, nQ7, nQ11, nQ12, nQ16, nQ17, nQ18, iQ2, iQ3, iQ4, iQ5, iQ6, lQ19, iQ7, lQ20, h1, h2]
  generalize hH : σ.new [.int .i64 p, vP, vB] = H
  have hHk : Keep σ H := by rw [← hH]; exact keep_new σ _
  have hb3 : H.rd σ.next 0 3 = some [.int .i64 p, vP, vB] := by rw [← hH]; simp only [pwA, if_true, if_false, eq_self, nm_eq, reduceCtorEq, ↓reduceIte, nQ10, nQ7, nQ11, nQ12, nQ16, nQ17, nQ18, iQ2, iQ3, iQ4, iQ5, iQ6, lQ19, iQ7, lQ20]
  have hb1 : H.rd1 σ.next 0 = some (.int .i64 p) := by rw [← hH]; simp only [pwA, if_true, if_false, eq_self, nm_eq, reduceCtorEq, ↓reduceIte, nQ10, nQ7, nQ11, nQ12, nQ16, nQ17, nQ18, iQ2, iQ3, iQ4, iQ5, iQ6, lQ19, iQ7, lQ20]
  refine vp_loop (fun m vs h' => ∃ (j : Nat) (y : List Int) (wy : Bool) (vy : AV), m = n - dep y ∧ j ≤ dep y ∧ vs = [.fz wy vy n (pis y), .ptr σ.next 0, .int .i64 (pw_ p j)] ∧ H = h' ∧ El p n y ∧ Eqv p n W (at_ y) fun i => pw_ p j * at_ x i) (n - dep x) ?_ ?_
  · exact ⟨0, x, w, av, rfl, by omega, by rw [hxl]; rfl, rfl, hx, Eqv.of_eq fun i => by simp [pw_]⟩
  rintro m vs h' ⟨j, y, wy, vy, rfl, hj, rfl, rfl, hy, he⟩
  have hyl := hy.1
  have hdl := dep_le y
  simp only [pwA, if_true, if_false, eq_self, nm_eq, reduceCtorEq, ↓reduceIte, nQ10, nQ7, nQ11, nQ12, nQ16, nQ17, nQ18, iQ2, iQ3, iQ4, iQ5, iQ6, lQ19, iQ7, lQ20]
  refine l01Zero_ok hyl.symm (by omega) ?_
  by_cases hz : isZ y
  · simp only [pwA, if_true, if_false, eq_self, nm_eq, reduceCtorEq, ↓reduceIte, nQ10, nQ7, nQ11, nQ12, nQ16, nQ17, nQ18, iQ2, iQ3, iQ4, iQ5, iQ6, lQ19, iQ7, lQ20, hz, decide_true]
    refine Gh.fin0 hHk trivial (hk j (by omega) (he.symm.trans (Eqv.of_eq fun i => isZ_at hz i)))
  · have hd : dep y < n := by have := not_isZ_dep hz; omega
    have hj1 : pw_ p (j + 1) ≤ pw_ p n := pw_mono hpr (by omega)
    have hj0 := pw_pos hpr (j + 1)
    rw [ipow_pw] at hpow
    have hc : pw_ p j * p = pw_ p (j + 1) := by rw [pw_, Int.mul_comm]
    have hw : IntKind.i64.wrap (pw_ p j * p) = pw_ p (j + 1) := by rw [hc]; exact wrap64 (by omega) (by omega)
    simp only [pwA, if_true, if_false, eq_self, nm_eq, reduceCtorEq, ↓reduceIte, nQ10, nQ7, nQ11, nQ12, nQ16, nQ17, nQ18, iQ2, iQ3, iQ4, iQ5, iQ6, lQ19, iQ7, lQ20, hz, decide_false, hb3, hb1]
    refine l31Mix_el hR o hy hy hyl.symm hyl.symm (by omega) (by decide) fun v1 => ?_
    have hdep := pmul_dep o hy hd
    obtain ⟨z1, z2⟩ := mul_eqv o hy p
    simp only [pwA, if_true, if_false, eq_self, nm_eq, reduceCtorEq, ↓reduceIte, nQ10, nQ7, nQ11, nQ12, nQ16, nQ17, nQ18, iQ2, iQ3, iQ4, iQ5, iQ6, lQ19, iQ7, lQ20, hb1, hw]
    refine ⟨_, ?_, j + 1, _, true, v1, rfl, by omega, rfl, z1, (z2.trans (he.mul p)).trans (Eqv.of_eq fun i => by rw [← hc]; grind)⟩
    omega
end Go.Proofs
namespace Go.Proofs
open Go.Ab Go.Lie
variable {σ : PHeap} {K : PV → PHeap → Prop} {p p' : Int} {n : Nat} {W : List (List Int)} {B : List (List (List Int))} {vP vB vL vU vV : PV} {s : Nat}
theorem l33Part_ok {l : Nat} {w : Bool} {av : AV} {k : Int} {x : List Int} (hR : IsR vP vB W B) (o : OkW p n W) (hpow : ipow p n ≤ 729) (hx : El p n x) (hl : l = x.length)
    (hk : ∀ w v z, DivL p n W k x z → K (.fz w v n (pis z)) σ) : PCalls Tryz.prog 120 [.agg [.int .i64 p, vP, vB], .fz w av l (pis x), .int .i64 k] σ K := by
  have h1 := hR.P.one
  have h2 := hR.B.one
  have hn6 := o.le
  have hpr := o.pr
  have hxl := hx.1
  subst hl
  refine PCalls.gh ?_
  refine pcalls_of_vp mix Tryz.func120 cf120 rfl ?_
  dsimp only [if120, qI, eI, nI, qD, eD]
  simp only [pwA, if_true, if_false, eq_self, nm_eq, reduceCtorEq, ↓reduceIte, nQ10, nQ7, nQ11, nQ12, nQ16, nQ17, nQ18, iQ2, iQ3, iQ4, iQ5, iQ6, lQ19, iQ7, lQ20, h1, h2]
  generalize hH : σ.new [.int .i64 p, vP, vB] = H
  have hHk : Keep σ H := by rw [← hH]; exact keep_new σ _
  have hb3 : H.rd σ.next 0 3 = some [.int .i64 p, vP, vB] := by rw [← hH]; simp only [pwA, if_true, if_false, eq_self, nm_eq, reduceCtorEq, ↓reduceIte, nQ10, nQ7, nQ11, nQ12, nQ16, nQ17, nQ18, iQ2, iQ3, iQ4, iQ5, iQ6, lQ19, iQ7, lQ20]
  refine l01Zero_ok rfl (by omega) ?_
  by_cases hz : isZ x
  · simp only [pwA, if_true, if_false, eq_self, nm_eq, reduceCtorEq, ↓reduceIte, nQ10, nQ7, nQ11, nQ12, nQ16, nQ17, nQ18, iQ2, iQ3, iQ4, iQ5, iQ6, lQ19, iQ7, lQ20, hz, decide_true]
    refine Gh.fin0 hHk trivial ?_
    rw [hxl]
    exact hk _ _ x ⟨hx, fun _ => rfl, fun _ => Eqv.of_eq fun j => by rw [isZ_at hz, Int.mul_zero]⟩
  · have hdx : dep x < n := by have := not_isZ_dep hz; omega
    simp only [pwA, if_true, if_false, eq_self, nm_eq, reduceCtorEq, ↓reduceIte, nQ10, nQ7, nQ11, nQ12, nQ16, nQ17, nQ18, iQ2, iQ3, iQ4, iQ5, iQ6, lQ19, iQ7, lQ20, hz, decide_false, hb3]
    refine l31Order_ok hR o hpow hx rfl fun j hj he => ?_
    have hj0 : j ≠ 0 := fun e => by
      subst e
      have e0 : Eqv p n W (at_ x) fun _ => 0 := (Eqv.of_eq fun i => by simp [pw_]).trans he
      have := eqv_zero o hx e0 (Nat.le_refl n) (fun _ _ => rfl) (dep x) hdx
      exact dep_ne (by omega) this
    have hm1 : pw_ p j ≤ pw_ p n := pw_mono hpr hj
    have hm2 : pw_ p 1 ≤ pw_ p j := pw_mono hpr (by omega)
    have hm3 : pw_ p 1 = p := by simp [pw_]
    rw [ipow_pw] at hpow
    have hp2 := hpr.1
    generalize hm : pw_ p j = m at *
    simp only [pwA, if_true, if_false, eq_self, nm_eq, reduceCtorEq, ↓reduceIte, nQ10, nQ7, nQ11, nQ12, nQ16, nQ17, nQ18, iQ2, iQ3, iQ4, iQ5, iQ6, lQ19, iQ7, lQ20]
    refine vp_loop (fun q vs h' => ∃ y : Int, q = (m - y).toNat ∧ 1 ≤ y ∧ y ≤ m ∧ vs = [.fz w av x.length (pis x), .int .i64 k, .ptr σ.next 0, .int .i64 m, .int .i64 y] ∧ H = h' ∧ ∀ y', 1 ≤ y' → y' < y → k % m * y' % m ≠ 1) (m - 1).toNat ?_ ?_
    · exact ⟨1, rfl, by omega, by omega, rfl, rfl, fun y' _ _ => by omega⟩
    rintro q vs h' ⟨y, rfl, hy1, hym, rfl, rfl, hall⟩
    have em1 := Int.emod_nonneg k (show m ≠ 0 by omega)
    have em2 := Int.emod_lt_of_pos k (show 0 < m by omega)
    have em := Int.mul_ediv_add_emod k m
    have fin : (Cop p k → ∃ t, k * y = 1 + t * m) → ∀ v, Gh σ K (.fz true v n (pis (lmul p W y x))) H := fun h v => Gh.fin0 hHk trivial (hk _ v _ (DivL.mk' o hx hz he h))
    by_cases hlt : y < m
    · have hb : 0 ≤ k % m * y ∧ k % m * y ≤ 531441 := by
        have a1 := Int.mul_le_mul (show k % m ≤ 729 by omega) (show y ≤ 729 by omega) (by omega) (by omega)
        have a2 := Int.mul_nonneg em1 (show 0 ≤ y by omega)
        omega
      simp only [pwA, if_true, if_false, eq_self, nm_eq, reduceCtorEq, ↓reduceIte, nQ10, nQ7, nQ11, nQ12, nQ16, nQ17, nQ18, iQ2, iQ3, iQ4, iQ5, iQ6, lQ19, iQ7, lQ20, hlt, decide_true]
      refine l01Mod_ok (by omega) (by omega) ?_
      have hmne : m ≠ 0 := by omega
      have ht : (k % m * y).tmod m = k % m * y % m := Int.tmod_eq_emod_of_nonneg hb.1
      by_cases h1 : k % m * y % m = 1
      · simp only [pwA, if_true, if_false, eq_self, nm_eq, reduceCtorEq, ↓reduceIte, nQ10, nQ7, nQ11, nQ12, nQ16, nQ17, nQ18, iQ2, iQ3, iQ4, iQ5, iQ6, lQ19, iQ7, lQ20, hlt, hmne, wrap64 (n := k % m * y) (by omega) (by omega), ht, h1, hb3]
        refine l31Mix_el hR o hx hx rfl rfl (by omega) (by decide) fun v1 => ?_
        simp only [pwA, if_true, if_false, eq_self, nm_eq, reduceCtorEq, ↓reduceIte, nQ10, nQ7, nQ11, nQ12, nQ16, nQ17, nQ18, iQ2, iQ3, iQ4, iQ5, iQ6, lQ19, iQ7, lQ20]
        refine fin (fun _ => ?_) v1
        have e := Int.mul_ediv_add_emod (k % m * y) m
        exact ⟨k % m * y / m + k / m * y, by grind⟩
      · simp only [pwA, if_true, if_false, eq_self, nm_eq, reduceCtorEq, ↓reduceIte, nQ10, nQ7, nQ11, nQ12, nQ16, nQ17, nQ18, iQ2, iQ3, iQ4, iQ5, iQ6, lQ19, iQ7, lQ20, hlt, hmne, wrap64 (n := k % m * y) (by omega) (by omega), ht, h1, wrap64 (n := y + 1) (by omega) (by omega)]
        refine ⟨_, ?_, y + 1, rfl, by omega, by omega, rfl, fun y' h2 h3 => ?_⟩
        · omega
        · by_cases e : y' = y
          · subst e; exact h1
          · exact hall y' h2 (by omega)
    · have hye : y = m := by omega
      simp only [pwA, if_true, if_false, eq_self, nm_eq, reduceCtorEq, ↓reduceIte, nQ10, nQ7, nQ11, nQ12, nQ16, nQ17, nQ18, iQ2, iQ3, iQ4, iQ5, iQ6, lQ19, iQ7, lQ20, hlt, decide_false, hb3]
      refine l31Mix_el hR o hx hx rfl rfl (by omega) (by decide) fun v1 => ?_
      simp only [pwA, if_true, if_false, eq_self, nm_eq, reduceCtorEq, ↓reduceIte, nQ10, nQ7, nQ11, nQ12, nQ16, nQ17, nQ18, iQ2, iQ3, iQ4, iQ5, iQ6, lQ19, iQ7, lQ20]
      refine fin (fun hc => ?_) v1
      exfalso
      obtain ⟨z, w', hzw⟩ := cop_inv (p := p) hc (show 0 < j by omega)
      rw [hm] at hzw
      have f1 := Int.emod_nonneg z (show m ≠ 0 by omega)
      have f2 := Int.emod_lt_of_pos z (show 0 < m by omega)
      have f3 := Int.mul_ediv_add_emod z m
      have hone : k % m * (z % m) % m = 1 := by
        have e1 : k % m * (z % m) = 1 + (w' - k / m * z - k % m * (z / m)) * m := by grind
        rw [e1, Int.add_mul_emod_self_right]
        exact Int.emod_eq_of_lt (by omega) (by omega)
      have hz0 : z % m ≠ 0 := fun e => by
        rw [e, Int.mul_zero, Int.zero_emod] at hone
        omega
      exact hall (z % m) (by omega) (by omega) hone
end Go.Proofs
namespace Go.Proofs
open Go.Ab Go.Lie
variable {σ : PHeap} {K : PV → PHeap → Prop} {p p' : Int} {n : Nat} {W : List (List Int)} {B : List (List (List Int))} {vP vB vL vU vV : PV} {s : Nat}
def CodeL (p : Int) (W : List (List Int)) (B : List (List (List Int))) (xs : List (List Int)) (c : Int) : Prop :=
  (¬ (isLie p W B ∧ Els p W.length xs) ∧ c = 1) ∨ ((isLie p W B ∧ Els p W.length xs) ∧ ¬ isLz p W.length W B ∧ c = 5) ∨ ((isLie p W B ∧ Els p W.length xs) ∧ isLz p W.length W B ∧ c = 0)
theorem CodeL.unique {xs : List (List Int)} {c d : Int} (h : CodeL p W B xs c) (g : CodeL p W B xs d) : c = d := by
  rcases h with ⟨h1, h2⟩ | ⟨h1, h2, h3⟩ | ⟨h1, h2, h3⟩ <;> rcases g with ⟨g1, g2⟩ | ⟨g1, g2, g3⟩ | ⟨g1, g2, g3⟩ <;> first | omega | exact absurd g1 h1 | exact absurd h1 g1 | exact absurd g2 h2 | exact absurd h2 g2
theorem lazardCode_ok {xs : List (List Int)} (hs : PtrR σ s p vP vB) (hR : IsR vP vB W B) (szr : SzR W B) (hL : FII vL xs) (sz : SzL xs) (hk : ∀ c : Int, CodeL p W B xs c → K (.int .i64 c) σ) : PCalls Tryz.prog 97 [.ptr s 0, vL] σ K := by
  have hLL := hL
  obtain ⟨wl, al, rl, rfl, hrl⟩ := hL
  refine pcalls_of_vp mix Tryz.func97 cf97 rfl ?_
  dsimp only [if97, qI, eI, nI, qD, eD]
  simp only [pwA, if_true, if_false, eq_self, nm_eq, reduceCtorEq, ↓reduceIte, nQ10, nQ7, nQ11, nQ12, nQ16, nQ17, nQ18, iQ2, iQ3, iQ4, iQ5, iQ6, lQ19, iQ7, lQ20]
  refine lieElements_ok hs hR szr hLL sz fun t ht => ?_
  cases t
  · simp only [pwA, if_true, if_false, eq_self, nm_eq, reduceCtorEq, ↓reduceIte, nQ10, nQ7, nQ11, nQ12, nQ16, nQ17, nQ18, iQ2, iQ3, iQ4, iQ5, iQ6, lQ19, iQ7, lQ20]
    exact hk 1 (.inl ⟨fun h => (by have := ht.2 h; simp at this), rfl⟩)
  · have hl := ht.1 rfl
    simp only [pwA, if_true, if_false, eq_self, nm_eq, reduceCtorEq, ↓reduceIte, nQ10, nQ7, nQ11, nQ12, nQ16, nQ17, nQ18, iQ2, iQ3, iQ4, iQ5, iQ6, lQ19, iQ7, lQ20]
    refine isLazard_ok hs hR hl.1.1.w hl.1.1.b hl.1.1.1 fun t ht => ?_
    cases t
    · simp only [pwA, if_true, if_false, eq_self, nm_eq, reduceCtorEq, ↓reduceIte, nQ10, nQ7, nQ11, nQ12, nQ16, nQ17, nQ18, iQ2, iQ3, iQ4, iQ5, iQ6, lQ19, iQ7, lQ20]
      exact hk 5 (.inr (.inl ⟨hl, fun h => (by have := ht.2 h; simp at this), rfl⟩))
    · simp only [pwA, if_true, if_false, eq_self, nm_eq, reduceCtorEq, ↓reduceIte, nQ10, nQ7, nQ11, nQ12, nQ16, nQ17, nQ18, iQ2, iQ3, iQ4, iQ5, iQ6, lQ19, iQ7, lQ20]
      exact hk 0 (.inr (.inr ⟨hl, ht.1 rfl, rfl⟩))
theorem l33Code_ok {xs : List (List Int)} (hR : IsR vP vB W B) (szr : SzR W B) (hL : FII vL xs) (sz : SzL xs) (hk : ∀ c : Int, CodeL p W B xs c → K (.int .i64 c) σ) : PCalls Tryz.prog 99 [.agg [.int .i64 p, vP, vB], vL] σ K := by
  have h1 := hR.P.one
  have h2 := hR.B.one
  have hLL := hL
  obtain ⟨wl, al, rl, rfl, hrl⟩ := hL
  refine PCalls.gh ?_
  refine pcalls_of_vp mix Tryz.func99 cf99 rfl ?_
  dsimp only [if99, qI, eI, nI, qD, eD]
  simp only [pwA, if_true, if_false, eq_self, nm_eq, reduceCtorEq, ↓reduceIte, nQ10, nQ7, nQ11, nQ12, nQ16, nQ17, nQ18, iQ2, iQ3, iQ4, iQ5, iQ6, lQ19, iQ7, lQ20, h1, h2]
  refine l31Ring_ok hR szr fun t ht => ?_
  cases t
  · simp only [pwA, if_true, if_false, eq_self, nm_eq, reduceCtorEq, ↓reduceIte, nQ10, nQ7, nQ11, nQ12, nQ16, nQ17, nQ18, iQ2, iQ3, iQ4, iQ5, iQ6, lQ19, iQ7, lQ20]
    exact Gh.fin0 (keep_new σ _) trivial (hk 1 (.inl ⟨fun h => (by have := ht.2 h.1; simp at this), rfl⟩))
  · have hl := ht.1 rfl
    simp only [pwA, if_true, if_false, eq_self, nm_eq, reduceCtorEq, ↓reduceIte, nQ10, nQ7, nQ11, nQ12, nQ16, nQ17, nQ18, iQ2, iQ3, iQ4, iQ5, iQ6, lQ19, iQ7, lQ20, h1, h2]
    refine l32Elements_ok hR hLL sz hl.1.1.bd fun t ht => ?_
    cases t
    · simp only [pwA, if_true, if_false, eq_self, nm_eq, reduceCtorEq, ↓reduceIte, nQ10, nQ7, nQ11, nQ12, nQ16, nQ17, nQ18, iQ2, iQ3, iQ4, iQ5, iQ6, lQ19, iQ7, lQ20]
      exact Gh.fin0 (keep_new σ _) trivial (hk 1 (.inl ⟨fun h => (by have := ht.2 h.2; simp at this), rfl⟩))
    · have he := ht.1 rfl
      simp only [pwA, if_true, if_false, eq_self, nm_eq, reduceCtorEq, ↓reduceIte, nQ10, nQ7, nQ11, nQ12, nQ16, nQ17, nQ18, iQ2, iQ3, iQ4, iQ5, iQ6, lQ19, iQ7, lQ20, h1, h2]
      refine l33Is_ok hR hl.1.w hl.1.b hl.1.1 fun t ht => ?_
      cases t
      · simp only [pwA, if_true, if_false, eq_self, nm_eq, reduceCtorEq, ↓reduceIte, nQ10, nQ7, nQ11, nQ12, nQ16, nQ17, nQ18, iQ2, iQ3, iQ4, iQ5, iQ6, lQ19, iQ7, lQ20]
        exact Gh.fin0 (keep_new σ _) trivial (hk 5 (.inr (.inl ⟨⟨hl, he⟩, fun h => (by have := ht.2 h; simp at this), rfl⟩)))
      · simp only [pwA, if_true, if_false, eq_self, nm_eq, reduceCtorEq, ↓reduceIte, nQ10, nQ7, nQ11, nQ12, nQ16, nQ17, nQ18, iQ2, iQ3, iQ4, iQ5, iQ6, lQ19, iQ7, lQ20]
        exact Gh.fin0 (keep_new σ _) trivial (hk 0 (.inr (.inr ⟨⟨hl, he⟩, ht.1 rfl, rfl⟩)))
end Go.Proofs
namespace Go.Proofs
open Go.Ab Go.Lie
variable {p : Int} {n : Nat} {W : List (List Int)} {B : List (List (List Int))}
def brv (B : List (List (List Int))) (n : Nat) (f g : Vec) : Vec := fun t => sumN n fun i => sumN (n - 1 - i) fun j => (f i * g (i + 1 + j) - f (i + 1 + j) * g i) * at_ ((B.getD i []).getD j []) t
theorem bsum_brv (q : OkB p n B) (a b : List Int) (t : Nat) : at_ (bsum B a b n) t = brv B n (at_ a) (at_ b) t := bi_at q t (Nat.le_refl _)
theorem brv_add (f f' g : Vec) (t : Nat) : brv B n (fun j => f j + f' j) g t = brv B n f g t + brv B n f' g t := by
  simp only [brv]
  rw [← sumN_add]
  refine sumN_congr fun i _ => ?_
  rw [← sumN_add]
  refine sumN_congr fun j _ => ?_
  grind
theorem brv_mul (k : Int) (f g : Vec) (t : Nat) : brv B n (fun j => k * f j) g t = k * brv B n f g t := by
  simp only [brv]
  rw [← sumN_mul]
  refine sumN_congr fun i _ => ?_
  rw [← sumN_mul]
  refine sumN_congr fun j _ => ?_
  grind
theorem brv_anti (f g : Vec) (t : Nat) : brv B n f g t = -1 * brv B n g f t := by
  simp only [brv]
  rw [← sumN_mul]
  refine sumN_congr fun i _ => ?_
  rw [← sumN_mul]
  refine sumN_congr fun j _ => ?_
  grind
theorem brv_congr {f f' g g' : Vec} (h : ∀ j, j < n → f j = f' j) (h' : ∀ j, j < n → g j = g' j) (t : Nat) : brv B n f g t = brv B n f' g' t := by
  simp only [brv]
  refine sumN_congr fun i hi => sumN_congr fun j hj => ?_
  rw [h i hi, h _ (by omega : i + 1 + j < n), h' i hi, h' _ (by omega : i + 1 + j < n)]
theorem brv_sum (g : Vec) (t : Nat) : ∀ (m : Nat) (F : Nat → Vec), brv B n (fun j => sumN m fun k => F k j) g t = sumN m fun k => brv B n (F k) g t
  | 0, F => by
    simp only [sumN]
    have := brv_mul (B := B) (n := n) 0 (fun _ => 0) g t
    simpa using this
  | m + 1, F => by
    simp only [sumN]
    rw [brv_add, brv_sum g t m F]
end Go.Proofs
namespace Go.Proofs
open Go.Ab Go.Lie
variable {p : Int} {n : Nat} {W : List (List Int)} {B : List (List (List Int))}
theorem eqv_sum0 : ∀ (m : Nat) (F : Nat → Vec), (∀ k, k < m → Eqv p n W (F k) fun _ => 0) → Eqv p n W (fun j => sumN m fun k => F k j) fun _ => 0
  | 0, F, _ => Eqv.of_eq fun j => rfl
  | m + 1, F, h => ((eqv_sum0 m F fun k hk => h k (by omega)).add (h m (by omega))).trans (Eqv.of_eq fun j => rfl)
theorem unit_at {j i : Nat} (hj : j < n) : at_ (unitL n j) i = if i = j then 1 else 0 := by
  rw [unitL, at_set (by simpa using hj), at_rep]
theorem vec_sum (g : Vec) {i : Nat} (hi : i < n) : g i = sumN n fun k => g k * at_ (unitL n k) i := by
  rw [sumN_one hi fun k hk hne => by rw [unit_at hk, if_neg (fun e => hne e.symm), Int.mul_zero]]
  rw [unit_at hi, if_pos rfl, Int.mul_one]
theorem brv_rel (o : OkW p n W) (q : OkB p n B) (nf : NoFault p W B n) {i : Nat} (hi : i < n) (g : Vec) : Eqv p n W (brv B n (rel p W i) g) fun _ => 0 := by
  have one : ∀ j, j < n → Eqv p n W (brv B n (rel p W i) (at_ (unitL n j))) fun _ => 0 := fun j hj => by
    have hF := nf.1 i j hi hj
    unfold F1 at hF
    have ha := (mul_eqv o (br_el o q (a := unitL n i) (b := unitL n j)) p).2
    have hb : Eqv p n W (at_ (br p W B n (unitL n i) (unitL n j))) (at_ (bsum B (unitL n i) (unitL n j) n)) := norm_eqv o (bsum_length q)
    have hc : Eqv p n W (at_ (br p W B n (W.getD i []) (unitL n j))) (at_ (bsum B (W.getD i []) (unitL n j) n)) := norm_eqv o (bsum_length q)
    rw [← hF] at hc
    have hd : Eqv p n W (fun t => p * at_ (bsum B (unitL n i) (unitL n j) n) t) (at_ (bsum B (W.getD i []) (unitL n j) n)) := ((hb.mul p).symm.trans ha.symm).trans hc
    have he := hd.symm.add (Eqv.refl (p := p) (n := n) (W := W) fun t => -1 * (p * at_ (bsum B (unitL n i) (unitL n j) n) t))
    refine (Eqv.of_eq fun t => ?_).trans (he.trans (Eqv.of_eq fun t => by grind))
    rw [bsum_brv q, bsum_brv q, ← brv_mul, ← brv_mul, ← brv_add]
    refine brv_congr (fun k hk => ?_) (fun _ _ => rfl) t
    rw [unit_at hi, rel]
    by_cases e : k = i
    · rw [if_pos e, if_pos e]; grind
    · rw [if_neg e, if_neg e]; grind
  refine (Eqv.of_eq fun t => ?_).trans (eqv_sum0 n (fun k t => g k * brv B n (rel p W i) (at_ (unitL n k)) t) fun k hk => ((one k hk).mul (g k)).trans (Eqv.of_eq fun t => by grind))
  rw [brv_anti, brv_congr (f' := fun j => sumN n fun k => g k * at_ (unitL n k) j) (g' := rel p W i) (fun j hj => vec_sum g hj) (fun _ _ => rfl), brv_sum (t := t) (g := rel p W i) n (fun k j => g k * at_ (unitL n k) j), ← sumN_mul]
  refine sumN_congr fun k hk => ?_
  rw [brv_mul, brv_anti (f := at_ (unitL n k))]
  grind
theorem brv_eqv (o : OkW p n W) (q : OkB p n B) (nf : NoFault p W B n) {f f' : Vec} (g : Vec) (h : Eqv p n W f f') : Eqv p n W (brv B n f g) (brv B n f' g) := by
  obtain ⟨c, hc⟩ := h
  have h0 := eqv_sum0 n (fun i t => c i * brv B n (rel p W i) g t) fun k hk => ((brv_rel o q nf hk g).mul (c k)).trans (Eqv.of_eq fun t => by grind)
  refine (Eqv.of_eq fun t => ?_).trans (((Eqv.refl (brv B n f' g)).add h0).trans (Eqv.of_eq fun t => by grind))
  rw [brv_congr (f' := fun j => f' j + sumN n fun i => c i * rel p W i j) (g' := g) (fun j _ => hc j) (fun _ _ => rfl), brv_add, brv_sum (t := t) (g := g) n (fun i j => c i * rel p W i j)]
  congr 1
  exact sumN_congr fun k hk => by rw [brv_mul]
theorem brv_eqv2 (o : OkW p n W) (q : OkB p n B) (nf : NoFault p W B n) {g g' : Vec} (f : Vec) (h : Eqv p n W g g') : Eqv p n W (brv B n f g) (brv B n f g') :=
  ((Eqv.of_eq fun t => brv_anti f g t).trans ((brv_eqv o q nf f h).mul (-1))).trans (Eqv.of_eq fun t => (brv_anti f g' t).symm)
end Go.Proofs
namespace Go.Proofs
open Go.Ab Go.Lie
variable {p : Int} {n : Nat} {W : List (List Int)} {B : List (List (List Int))}
theorem br_eqv (o : OkW p n W) (q : OkB p n B) (a b : List Int) : Eqv p n W (at_ (br p W B n a b)) (brv B n (at_ a) (at_ b)) :=
  (norm_eqv o (bsum_length q)).trans (Eqv.of_eq fun t => bsum_brv q a b t)
theorem lmul_eqv (o : OkW p n W) {x : List Int} (hx : El p n x) (k : Int) : Eqv p n W (at_ (lmul p W k x)) fun j => k * at_ x j := (mul_eqv o hx k).2
theorem ladd_eqv (o : OkW p n W) {x y : List Int} (hx : El p n x) (hy : El p n y) : Eqv p n W (at_ (ladd p W x y)) fun j => at_ x j + at_ y j :=
  (norm_eqv o (by rw [lmix_length (hx.1.trans hy.1.symm)]; exact hx.1)).trans (Eqv.of_eq fun j => by rw [lmix_at (hx.1.trans hy.1.symm)]; omega)
theorem brv_mul2 (k : Int) (f g : Vec) (t : Nat) : brv B n f (fun j => k * g j) t = k * brv B n f g t := by
  rw [brv_anti, brv_mul, brv_anti g f]; grind
theorem third (o : OkW p n W) (q : OkB p n B) (nf : NoFault p W B n) {x y b : List Int} (hb : El p n b) :
    ladd p W (br p W B n x b) (br p W B n y (lmul p W (-1) b)) = norm p W (lmix 1 (br p W B n x b) (-1) (br p W B n y b)) := by
  have e1 : El p n (br p W B n x b) := br_el o q
  have e2 : El p n (br p W B n y b) := br_el o q
  have e3 : El p n (br p W B n y (lmul p W (-1) b)) := br_el o q
  have k1 : Eqv p n W (at_ (br p W B n y (lmul p W (-1) b))) fun j => -1 * at_ (br p W B n y b) j :=
    (br_eqv o q _ _).trans (((brv_eqv2 o q nf (at_ y) (lmul_eqv o hb (-1))).trans (Eqv.of_eq fun t => brv_mul2 (-1) _ _ t)).trans ((br_eqv o q y b).symm.mul (-1)))
  refine norm_congr o (by rw [lmix_length (e1.1.trans e3.1.symm)]; exact e1.1) (by rw [lmix_length (e1.1.trans e2.1.symm)]; exact e1.1) ?_
  refine (Eqv.of_eq fun j => ?_).trans (((Eqv.refl (at_ (br p W B n x b))).add k1).trans (Eqv.of_eq fun j => ?_))
  · rw [lmix_at (e1.1.trans e3.1.symm)]; omega
  · rw [lmix_at (e1.1.trans e2.1.symm)]; omega
end Go.Proofs
namespace Go.Proofs
open Go.Ab Go.Lie
variable {p : Int} {n : Nat} {W : List (List Int)} {B : List (List (List Int))}
theorem brv_units (g f : Vec) (t : Nat) : brv B n f g t = sumN n fun k => g k * brv B n f (at_ (unitL n k)) t := by
  rw [brv_anti, brv_congr (f' := fun j => sumN n fun k => g k * at_ (unitL n k) j) (g' := f) (fun j hj => vec_sum g hj) (fun _ _ => rfl), brv_sum (t := t) (g := f) n (fun k j => g k * at_ (unitL n k) j), ← sumN_mul]
  refine sumN_congr fun k hk => ?_
  rw [brv_mul, brv_anti (f := at_ (unitL n k))]
  grind
theorem gen_br (o : OkW p n W) (q : OkB p n B) (nf : NoFault p W B n) {u : List (List Int)} {f : Vec} (hf : Gen p n W u f) : ∀ g : Vec, Gen p n W (brL p W B n u (units n)) (brv B n f g) := by
  have hS := gen_sub (p := p) (n := n) (W := W) (brL p W B n u (units n))
  refine gen_le (S := fun f => ∀ g : Vec, Gen p n W (brL p W B n u (units n)) (brv B n f g)) ⟨fun g => ?_, fun f f' h h' g => ?_, fun k f h g => ?_, fun f f' h h' g => ?_⟩ (fun v hv g => ?_) hf
  · refine hS.eqv _ _ (Eqv.of_eq fun t => ?_) hS.zero
    have := brv_mul (B := B) (n := n) 0 (fun _ => 0) g t
    simpa using this
  · exact hS.eqv _ _ (Eqv.of_eq fun t => brv_add f f' g t) (hS.add _ _ (h g) (h' g))
  · exact hS.eqv _ _ (Eqv.of_eq fun t => brv_mul k f g t) (hS.mul k _ (h g))
  · exact hS.eqv _ _ (brv_eqv o q nf g h) (h' g)
  · refine hS.eqv _ _ (Eqv.of_eq fun t => brv_units g (at_ v) t) (hS.sum fun k hk => hS.mul (g k) _ ?_)
    refine hS.eqv _ _ (br_eqv o q v (unitL n k)).symm (gen_mem (List.mem_flatMap.2 ⟨v, hv, List.mem_map.2 ⟨unitL n k, ?_, rfl⟩⟩))
    exact List.mem_map.2 ⟨k, List.mem_range.2 hk, rfl⟩
theorem gen_units (o : OkW p n W) {x : List Int} (hx : El p n x) : Gen p n W (units n) (at_ x) := by
  have hS := gen_sub (p := p) (n := n) (W := W) (units n)
  refine hS.eqv _ _ (Eqv.of_eq fun t => ?_) (hS.sum (m := n) (F := fun k j => at_ x k * at_ (unitL n k) j) fun k hk => hS.mul (at_ x k) _ (gen_mem (List.mem_map.2 ⟨k, List.mem_range.2 hk, rfl⟩)))
  rcases Nat.lt_or_ge t n with h | h
  · exact vec_sum (at_ x) h
  · rw [hx.beyond h, sumN_zero]
    intro k hk
    rw [unit_at hk, if_neg (by omega), Int.mul_zero]
end Go.Proofs
namespace Go.Proofs
open Go.Ab Go.Lie
variable {p : Int} {n : Nat} {W : List (List Int)} {B : List (List (List Int))}
theorem low_gen (o : OkW p n W) (q : OkB p n B) (nf : NoFault p W B n) {u out : List (List Int)} (hc : Canon p n W (brL p W B n u (units n)) out) {f : Vec} (hf : Gen p n W u f) (g : Vec) : Gen p n W out (brv B n f g) :=
  (hc.gen _).1 (gen_br o q nf hf g)
theorem cls_low (o : OkW p n W) (q : OkB p n B) {c : Nat} (h : Cls p n W B c) : ∀ k, ∃ u, Low p n W B k u ∧ (c ≤ k → u = []) ∨ k < c := fun k => by
  rcases Nat.lt_or_ge k c with x | x
  · exact ⟨[], .inr x⟩
  · obtain ⟨d, rfl⟩ : ∃ d, k = c + d := ⟨k - c, by omega⟩
    have : Low p n W B (c + d) [] := by
      clear x
      induction d with
      | zero => exact h.1
      | succ d ih =>
        refine .succ ih ?_
        have hb : brL p W B n [] (units n) = [] := rfl
        rw [hb]
        exact ⟨.nil, List.Pairwise.nil, fun f => Iff.rfl⟩
    exact ⟨[], .inl ⟨this, fun _ => rfl⟩⟩
theorem zero_of_eqv (o : OkW p n W) {z : List Int} (hz : El p n z) (h : Eqv p n W (at_ z) fun _ => 0) : isZ z := by
  have h1 := eqv_zero o hz h (Nat.le_refl n) fun _ _ => rfl
  intro x hx
  obtain ⟨j, hj, rfl⟩ := List.mem_iff_getElem.1 hx
  rw [← at_eq hj]
  exact h1 j (by rw [← hz.1]; exact hj)
end Go.Proofs
namespace Go.Grp
open Go.Ab Go.Lie
section
variable {α : Type} {S : α → Prop} {m : α → α → α} {e : α}
end
variable {O : List Int} {P : List (List Int)} {C : List (List (List Int))}
abbrev nx (x : List Int) (j : Nat) : Nat := (at_ x j).toNat
end Go.Grp
namespace Go.Grp
end Go.Grp
namespace Go.Proofs
open Go.Ab Go.Lie Go.Grp
variable {σ : PHeap} {K : PV → PHeap → Prop} {O : List Int} {P : List (List Int)} {C : List (List (List Int))} {vO vP vC vx : PV} {s : Nat} {x : List Int} {rP rC : List PV}
theorem pisAt {i : Nat} (h : i < x.length) : (pis x)[i]? = some (.int .i64 (at_ x i)) := by rw [pis_get, gi h, at_eq h]; rfl
end Go.Proofs
namespace Go.Proofs
open Go.Ab
def if3 : IFn := ⟨[0], [(.tmp 2)], (.seq (.region [0] [qI 2 (.mv (.c (.bool false)))])
  (.seq (.seq (.region [0, 37] [qI 36 (.mv (.t 0)), eI 37 (.call 12 [(.t 36)])])
  (.cond (.t 37) (.seq (.region [2] [qI 2 (.mv (.c (.bool true)))])
  .ret) .skip))
  (.seq (.region [0, 3, 4, 5] [qI 39 (.mv (.t 0)), eI 40 (.call 13 [(.t 39)]), qI 38 (.mv (.t 40)), qI 41 (.extract (.t 38) 0), qI 42 (.extract (.t 38) 1), qI 43 (.extract (.t 38) 2), eI 3 (.alloc [(.int .i64 0), .nils, .nils]), nI (.store 3 (.t 3) (.t 41)), qI 4 (.mv (.t 42)), qI 5 (.mv (.t 43))])
  (.seq (.region [0, 3, 4, 5, 6, 7] [qI 45 (.load true 3 (.t 3)), qI 46 (.mv (.t 4)), qI 47 (.mv (.t 5)), eI 48 (.call 14 [(.t 45), (.t 46), (.t 47)]), qI 44 (.mv (.t 48)), qI 49 (.extract (.t 44) 0), qI 50 (.extract (.t 44) 1), qI 6 (.mv (.t 49)), qI 7 (.mv (.t 50))])
  (.seq (.region [0, 3, 4, 5, 6, 7, 8, 9] [qI 52 (.load true 3 (.t 3)), qI 53 (.mv (.t 4)), qI 54 (.mv (.t 5)), eI 55 (.call 15 [(.t 52), (.t 53), (.t 54)]), qI 51 (.mv (.t 55)), qI 56 (.extract (.t 51) 0), qI 57 (.extract (.t 51) 1), qI 8 (.mv (.t 56)), qI 9 (.mv (.t 57))])
  (.seq (.seq (.region [0, 3, 4, 5, 7, 8, 66] [qI 58 (.mv (.t 7)), qI 59 (.mv (.t 9)), qI 60 (.bin .neq .other (.t 58) (.t 59)), qI 61 (.mv (.t 60)), ⟨(some 62), .mv (.t 6), true, (some (61, false))⟩, ⟨(some 63), .mv (.t 8), true, (some (61, false))⟩, ⟨(some 64), .call 16 [(.t 62), (.t 63)], false, (some (61, false))⟩, ⟨(some 65), .un .not (.t 64), true, (some (61, false))⟩, qI 66 (.pick (.t 61) (.c (.bool true)) (.t 65))])
  (.cond (.t 66) (.seq (.region [2] [qI 2 (.mv (.c (.bool false)))])
  .ret) .skip))
  (.seq (.seq (.region [0, 3, 4, 5, 8, 68] [qI 67 (.mv (.t 7)), qI 68 (.bin .neq .other (.t 67) (.c (.int .i64 0)))])
  (.cond (.t 68) (.seq (.region [2] [qI 2 (.mv (.c (.bool true)))])
  .ret) .skip))
  (.seq (.region [3, 4, 5, 8, 10] [qI 69 (.mv (.t 0)), eI 70 (.call 17 [(.t 69), (.c (.int .u64 3301))]), qI 10 (.mv (.t 70))])
  (.seq (.region [3, 4, 5, 8, 10, 11] [eI 71 (.buildSl 1 0 [(.int .i64 0)] []), qI 11 (.mv (.t 71))])
  (.seq (.seq (.region [3, 4, 5, 8, 10, 11, 12] [qI 12 (.mv (.c (.int .i64 0)))])
  (.block 0 (.loop [3, 4, 5, 8, 10, 11, 12] (.seq (.seq (.region [3, 4, 5, 8, 10, 11, 12, 75] [qI 72 (.mv (.t 12)), qI 73 (.mv (.t 4)), qI 74 (.len (.t 73)), qI 75 (.bin .lss .other (.t 72) (.t 74))])
  (.cond (.t 75) .skip (.exit 0)))
  (.seq (.block 1 (.region [3, 4, 5, 8, 10, 11, 12] [qI 78 (.mv (.t 11)), qI 79 (.mv (.t 10)), qI 80 (.fieldAddr 0 (.t 3)), qI 81 (.load false 1 (.t 80)), eI 82 (.call 18 [(.t 79), (.t 81)]), eI 83 (.buildSl 1 1 [(.int .i64 0)] [(0, 1, (.t 82))]), eI 84 (.append 1 8 (.t 78) (.t 83)), qI 11 (.mv (.t 84))]))
  (.region [3, 4, 5, 8, 10, 11, 12] [qI 76 (.mv (.t 12)), qI 77 (.bin .add .other (.t 76) (.c (.int .i64 1))), qI 12 (.mv (.t 77))]))))))
  (.seq (.region [3, 4, 5, 8, 10, 11, 13, 14] [qI 86 (.load true 3 (.t 3)), qI 87 (.mv (.t 5)), qI 88 (.mv (.t 11)), eI 89 (.call 14 [(.t 86), (.t 87), (.t 88)]), qI 85 (.mv (.t 89)), qI 90 (.extract (.t 85) 0), qI 91 (.extract (.t 85) 1), qI 13 (.mv (.t 90)), qI 14 (.mv (.t 91))])
  (.seq (.region [3, 4, 8, 10, 11, 13, 14, 15, 16] [qI 93 (.load true 3 (.t 3)), qI 94 (.mv (.t 5)), qI 95 (.mv (.t 11)), eI 96 (.call 15 [(.t 93), (.t 94), (.t 95)]), qI 92 (.mv (.t 96)), qI 97 (.extract (.t 92) 0), qI 98 (.extract (.t 92) 1), qI 15 (.mv (.t 97)), qI 16 (.mv (.t 98))])
  (.seq (.seq (.region [3, 4, 8, 10, 11, 15, 110] [qI 99 (.mv (.t 14)), qI 100 (.bin .neq .other (.t 99) (.c (.int .i64 0))), qI 101 (.mv (.t 100)), ⟨(some 102), .mv (.t 16), true, (some (101, false))⟩, ⟨(some 103), .bin .neq .other (.t 102) (.c (.int .i64 0)), true, (some (101, false))⟩, qI 104 (.pick (.t 101) (.c (.bool true)) (.t 103)), qI 105 (.mv (.t 104)), ⟨(some 106), .mv (.t 13), true, (some (105, false))⟩, ⟨(some 107), .mv (.t 15), true, (some (105, false))⟩, ⟨(some 108), .call 16 [(.t 106), (.t 107)], false, (some (105, false))⟩, ⟨(some 109), .un .not (.t 108), true, (some (105, false))⟩, qI 110 (.pick (.t 105) (.c (.bool true)) (.t 109))])
  (.cond (.t 110) (.seq (.region [2] [qI 2 (.mv (.c (.bool false)))])
  .ret) .skip))
  (.seq (.region [3, 4, 10, 15, 17, 18] [qI 112 (.load true 3 (.t 3)), qI 113 (.mv (.t 8)), qI 114 (.mv (.t 11)), eI 115 (.call 14 [(.t 112), (.t 113), (.t 114)]), qI 111 (.mv (.t 115)), qI 116 (.extract (.t 111) 0), qI 117 (.extract (.t 111) 1), qI 17 (.mv (.t 116)), qI 18 (.mv (.t 117))])
  (.seq (.region [3, 4, 10, 17, 18, 19, 20] [qI 119 (.load true 3 (.t 3)), qI 120 (.mv (.t 4)), qI 121 (.mv (.t 15)), eI 122 (.call 14 [(.t 119), (.t 120), (.t 121)]), qI 118 (.mv (.t 122)), qI 123 (.extract (.t 118) 0), qI 124 (.extract (.t 118) 1), qI 19 (.mv (.t 123)), qI 20 (.mv (.t 124))])
  (.seq (.region [3, 4, 10, 17, 18, 19, 20, 21, 22] [qI 126 (.load true 3 (.t 3)), qI 127 (.mv (.t 4)), eI 128 (.call 19 [(.t 126), (.t 127)]), qI 125 (.mv (.t 128)), qI 129 (.extract (.t 125) 0), qI 130 (.extract (.t 125) 1), qI 21 (.mv (.t 129)), qI 22 (.mv (.t 130))])
  (.seq (.region [3, 4, 10, 17, 18, 19, 20, 21, 22, 23] [qI 132 (.load true 3 (.t 3)), qI 133 (.mv (.t 4)), eI 134 (.call 20 [(.t 132), (.t 133)]), qI 131 (.mv (.t 134)), qI 135 (.extract (.t 131) 0), qI 136 (.extract (.t 131) 1), qI 23 (.mv (.t 135)), qI 24 (.mv (.t 136))])
  (.seq (.region [3, 4, 10, 17, 18, 19, 20, 21, 22, 23, 25, 26] [qI 138 (.load true 3 (.t 3)), qI 139 (.mv (.t 23)), qI 140 (.mv (.t 4)), eI 141 (.call 14 [(.t 138), (.t 139), (.t 140)]), qI 137 (.mv (.t 141)), qI 142 (.extract (.t 137) 0), qI 143 (.extract (.t 137) 1), qI 25 (.mv (.t 142)), qI 26 (.mv (.t 143))])
  (.seq (.seq (.region [3, 4, 10, 174] [qI 144 (.mv (.t 18)), qI 145 (.bin .neq .other (.t 144) (.c (.int .i64 0))), qI 146 (.mv (.t 145)), ⟨(some 147), .mv (.t 20), true, (some (146, false))⟩, ⟨(some 148), .bin .neq .other (.t 147) (.c (.int .i64 0)), true, (some (146, false))⟩, qI 149 (.pick (.t 146) (.c (.bool true)) (.t 148)), qI 150 (.mv (.t 149)), ⟨(some 151), .mv (.t 22), true, (some (150, false))⟩, ⟨(some 152), .bin .neq .other (.t 151) (.c (.int .i64 0)), true, (some (150, false))⟩, qI 153 (.pick (.t 150) (.c (.bool true)) (.t 152)), qI 154 (.mv (.t 153)), ⟨(some 155), .mv (.t 26), true, (some (154, false))⟩, ⟨(some 156), .bin .neq .other (.t 155) (.c (.int .i64 0)), true, (some (154, false))⟩, qI 157 (.pick (.t 154) (.c (.bool true)) (.t 156)), qI 158 (.mv (.t 157)), ⟨(some 159), .mv (.t 17), true, (some (158, false))⟩, ⟨(some 160), .mv (.t 19), true, (some (158, false))⟩, ⟨(some 161), .call 16 [(.t 159), (.t 160)], false, (some (158, false))⟩, ⟨(some 162), .un .not (.t 161), true, (some (158, false))⟩, qI 163 (.pick (.t 158) (.c (.bool true)) (.t 162)), qI 164 (.mv (.t 163)), ⟨(some 165), .mv (.t 21), true, (some (164, false))⟩, ⟨(some 166), .mv (.t 23), true, (some (164, false))⟩, ⟨(some 167), .call 16 [(.t 165), (.t 166)], false, (some (164, false))⟩, ⟨(some 168), .un .not (.t 167), true, (some (164, false))⟩, qI 169 (.pick (.t 164) (.c (.bool true)) (.t 168)), qI 170 (.mv (.t 169)), ⟨(some 171), .mv (.t 25), true, (some (170, false))⟩, ⟨(some 172), .call 21 [(.t 171)], false, (some (170, false))⟩, ⟨(some 173), .un .not (.t 172), true, (some (170, false))⟩, qI 174 (.pick (.t 170) (.c (.bool true)) (.t 173))])
  (.cond (.t 174) (.seq (.region [2] [qI 2 (.mv (.c (.bool false)))])
  .ret) .skip))
  (.seq (.region [3, 4, 10, 27] [eI 175 (.buildSl 1 0 [.nils] []), qI 27 (.mv (.t 175))])
  (.seq (.region [3, 4, 27, 28] [qI 176 (.mv (.t 10)), eI 177 (.call 18 [(.t 176), (.c (.int .i64 7))]), qI 28 (.mv (.t 177))])
  (.seq (.seq (.region [3, 4, 27, 28, 29] [qI 29 (.mv (.c (.int .i64 0)))])
  (.block 2 (.loop [3, 4, 27, 28, 29] (.seq (.seq (.region [3, 4, 27, 28, 29, 180] [qI 178 (.mv (.t 29)), qI 179 (.mv (.t 28)), qI 180 (.bin .lss .other (.t 178) (.t 179))])
  (.cond (.t 180) .skip (.exit 2)))
  (.seq (.block 3 (.region [3, 4, 27, 28, 29] [qI 183 (.mv (.t 27)), qI 184 (.mv (.t 4)), eI 185 (.buildSl 1 1 [.nils] [(0, 1, (.t 184))]), eI 186 (.append 1 24 (.t 183) (.t 185)), qI 27 (.mv (.t 186))]))
  (.region [3, 4, 27, 28, 29] [qI 181 (.mv (.t 29)), qI 182 (.bin .add .other (.t 181) (.c (.int .i64 1))), qI 29 (.mv (.t 182))]))))))
  (.seq (.region [3, 4, 28, 30, 31] [qI 188 (.load true 3 (.t 3)), qI 189 (.mv (.t 27)), eI 190 (.call 22 [(.t 188), (.t 189)]), qI 187 (.mv (.t 190)), qI 191 (.extract (.t 187) 0), qI 192 (.extract (.t 187) 1), qI 30 (.mv (.t 191)), qI 31 (.mv (.t 192))])
  (.seq (.region [3, 4, 28, 30, 31, 32, 33] [qI 194 (.load true 3 (.t 3)), qI 195 (.mv (.t 28)), qI 196 (.mv (.t 4)), eI 197 (.call 23 [(.t 194), (.t 195), (.t 196)]), qI 193 (.mv (.t 197)), qI 198 (.extract (.t 193) 0), qI 199 (.extract (.t 193) 1), qI 32 (.mv (.t 198)), qI 33 (.mv (.t 199))])
  (.seq (.region [30, 31, 32, 33, 34, 35] [qI 201 (.load true 3 (.t 3)), qI 202 (.mv (.t 28)), qI 203 (.mv (.t 4)), eI 204 (.call 24 [(.t 201), (.t 202), (.t 203)]), qI 200 (.mv (.t 204)), qI 205 (.extract (.t 200) 0), qI 206 (.extract (.t 200) 1), qI 34 (.mv (.t 205)), qI 35 (.mv (.t 206))])
  (.seq (.region [2] [qI 207 (.mv (.t 31)), qI 208 (.bin .eql .other (.t 207) (.c (.int .i64 0))), qI 209 (.mv (.t 208)), ⟨(some 210), .mv (.t 33), true, (some (209, true))⟩, ⟨(some 211), .bin .eql .other (.t 210) (.c (.int .i64 0)), true, (some (209, true))⟩, qI 212 (.pick (.t 209) (.t 211) (.c (.bool false))), qI 213 (.mv (.t 212)), ⟨(some 214), .mv (.t 35), true, (some (213, true))⟩, ⟨(some 215), .bin .eql .other (.t 214) (.c (.int .i64 0)), true, (some (213, true))⟩, qI 216 (.pick (.t 213) (.t 215) (.c (.bool false))), qI 217 (.mv (.t 216)), ⟨(some 218), .mv (.t 32), true, (some (217, true))⟩, ⟨(some 219), .mv (.t 34), true, (some (217, true))⟩, ⟨(some 220), .call 16 [(.t 218), (.t 219)], false, (some (217, true))⟩, qI 221 (.pick (.t 217) (.t 220) (.c (.bool false))), qI 222 (.mv (.t 221)), ⟨(some 223), .mv (.t 30), true, (some (222, true))⟩, ⟨(some 224), .mv (.t 34), true, (some (222, true))⟩, ⟨(some 225), .call 16 [(.t 223), (.t 224)], false, (some (222, true))⟩, qI 226 (.pick (.t 222) (.t 225) (.c (.bool false))), qI 2 (.mv (.t 226))])
  .ret))))))))))))))))))))))))))⟩
theorem cf3 : cF Tryz.prog Tryz.f3 = some if3 := by kernel_rfl
def if4 : IFn := ⟨[0], [(.tmp 2)], (.seq (.region [0] [qI 2 (.mv (.c (.bool false)))])
  (.seq (.seq (.region [0, 31] [qI 30 (.mv (.t 0)), eI 31 (.call 12 [(.t 30)])])
  (.cond (.t 31) (.seq (.region [2] [qI 2 (.mv (.c (.bool true)))])
  .ret) .skip))
  (.seq (.region [3, 4, 5] [qI 33 (.mv (.t 0)), eI 34 (.call 25 [(.t 33)]), qI 32 (.mv (.t 34)), qI 35 (.extract (.t 32) 0), qI 36 (.extract (.t 32) 1), qI 37 (.extract (.t 32) 2), eI 3 (.alloc [(.int .i64 0), .nils, .nils]), nI (.store 3 (.t 3) (.t 35)), qI 4 (.mv (.t 36)), qI 5 (.mv (.t 37))])
  (.seq (.region [3, 4, 5, 6, 7] [qI 39 (.load true 3 (.t 3)), qI 40 (.mv (.t 4)), qI 41 (.mv (.t 5)), eI 42 (.call 26 [(.t 39), (.t 40), (.t 41)]), qI 38 (.mv (.t 42)), qI 43 (.extract (.t 38) 0), qI 44 (.extract (.t 38) 1), qI 6 (.mv (.t 43)), qI 7 (.mv (.t 44))])
  (.seq (.region [3, 4, 5, 6, 7, 8, 9] [qI 46 (.load true 3 (.t 3)), qI 47 (.mv (.t 4)), qI 48 (.mv (.t 5)), eI 49 (.call 27 [(.t 46), (.t 47), (.t 48)]), qI 45 (.mv (.t 49)), qI 50 (.extract (.t 45) 0), qI 51 (.extract (.t 45) 1), qI 8 (.mv (.t 50)), qI 9 (.mv (.t 51))])
  (.seq (.region [3, 4, 5, 6, 7, 8, 9, 10, 11] [qI 53 (.load true 3 (.t 3)), qI 54 (.mv (.t 4)), qI 55 (.mv (.t 5)), eI 56 (.call 28 [(.t 53), (.t 54), (.t 55)]), qI 52 (.mv (.t 56)), qI 57 (.extract (.t 52) 0), qI 58 (.extract (.t 52) 1), qI 10 (.mv (.t 57)), qI 11 (.mv (.t 58))])
  (.seq (.region [3, 4, 5, 6, 7, 8, 9, 10, 11, 12, 13] [qI 60 (.load true 3 (.t 3)), qI 61 (.mv (.t 4)), qI 62 (.mv (.t 5)), eI 63 (.call 29 [(.t 60), (.t 61), (.t 62)]), qI 59 (.mv (.t 63)), qI 64 (.extract (.t 59) 0), qI 65 (.extract (.t 59) 1), qI 12 (.mv (.t 64)), qI 13 (.mv (.t 65))])
  (.seq (.seq (.region [3, 4, 5, 6, 7, 8, 12, 84] [qI 66 (.mv (.t 7)), qI 67 (.mv (.t 13)), qI 68 (.bin .neq .other (.t 66) (.t 67)), qI 69 (.mv (.t 68)), ⟨(some 70), .mv (.t 9), true, (some (69, false))⟩, ⟨(some 71), .mv (.t 13), true, (some (69, false))⟩, ⟨(some 72), .bin .neq .other (.t 70) (.t 71), true, (some (69, false))⟩, qI 73 (.pick (.t 69) (.c (.bool true)) (.t 72)), qI 74 (.mv (.t 73)), ⟨(some 75), .mv (.t 11), true, (some (74, false))⟩, ⟨(some 76), .mv (.t 13), true, (some (74, false))⟩, ⟨(some 77), .bin .neq .other (.t 75) (.t 76), true, (some (74, false))⟩, qI 78 (.pick (.t 74) (.c (.bool true)) (.t 77)), qI 79 (.mv (.t 78)), ⟨(some 80), .mv (.t 10), true, (some (79, false))⟩, ⟨(some 81), .mv (.t 12), true, (some (79, false))⟩, ⟨(some 82), .call 30 [(.t 80), (.t 81)], false, (some (79, false))⟩, ⟨(some 83), .un .not (.t 82), true, (some (79, false))⟩, qI 84 (.pick (.t 79) (.c (.bool true)) (.t 83))])
  (.cond (.t 84) (.seq (.region [2] [qI 2 (.mv (.c (.bool false)))])
  .ret) .skip))
  (.seq (.seq (.region [3, 4, 5, 6, 8, 12, 86] [qI 85 (.mv (.t 7)), qI 86 (.bin .neq .other (.t 85) (.c (.int .i64 0)))])
  (.cond (.t 86) (.seq (.region [2] [qI 2 (.mv (.c (.bool true)))])
  .ret) .skip))
  (.seq (.region [3, 4, 5, 6, 8, 12, 14, 15] [qI 88 (.load true 3 (.t 3)), qI 89 (.mv (.t 4)), qI 90 (.mv (.t 5)), eI 91 (.call 31 [(.t 88), (.t 89), (.t 90)]), qI 87 (.mv (.t 91)), qI 92 (.extract (.t 87) 0), qI 93 (.extract (.t 87) 1), qI 14 (.mv (.t 92)), qI 15 (.mv (.t 93))])
  (.seq (.region [3, 4, 5, 6, 8, 12, 14, 15, 16, 17] [qI 95 (.load true 3 (.t 3)), qI 96 (.mv (.t 4)), qI 97 (.mv (.t 5)), eI 98 (.call 32 [(.t 95), (.t 96), (.t 97)]), qI 94 (.mv (.t 98)), qI 99 (.extract (.t 94) 0), qI 100 (.extract (.t 94) 1), qI 16 (.mv (.t 99)), qI 17 (.mv (.t 100))])
  (.seq (.region [3, 4, 5, 6, 8, 12, 14, 15, 16, 17, 18, 19] [qI 102 (.load true 3 (.t 3)), qI 103 (.mv (.t 4)), qI 104 (.mv (.t 5)), eI 105 (.call 33 [(.t 102), (.t 103), (.t 104)]), qI 101 (.mv (.t 105)), qI 106 (.extract (.t 101) 0), qI 107 (.extract (.t 101) 1), qI 18 (.mv (.t 106)), qI 19 (.mv (.t 107))])
  (.seq (.region [3, 4, 5, 6, 8, 12, 14, 15, 16, 17, 18, 19, 20, 21] [qI 109 (.load true 3 (.t 3)), qI 110 (.mv (.t 4)), qI 111 (.mv (.t 5)), eI 112 (.call 34 [(.t 109), (.t 110), (.t 111)]), qI 108 (.mv (.t 112)), qI 113 (.extract (.t 108) 0), qI 114 (.extract (.t 108) 1), qI 20 (.mv (.t 113)), qI 21 (.mv (.t 114))])
  (.seq (.seq (.region [3, 4, 5, 12, 146] [qI 115 (.mv (.t 15)), qI 116 (.mv (.t 19)), qI 117 (.bin .neq .other (.t 115) (.t 116)), qI 118 (.mv (.t 117)), ⟨(some 119), .mv (.t 17), true, (some (118, false))⟩, ⟨(some 120), .mv (.t 21), true, (some (118, false))⟩, ⟨(some 121), .bin .neq .other (.t 119) (.t 120), true, (some (118, false))⟩, qI 122 (.pick (.t 118) (.c (.bool true)) (.t 121)), qI 123 (.mv (.t 122)), ⟨(some 124), .mv (.t 14), true, (some (123, false))⟩, ⟨(some 125), .mv (.t 18), true, (some (123, false))⟩, ⟨(some 126), .call 16 [(.t 124), (.t 125)], false, (some (123, false))⟩, ⟨(some 127), .un .not (.t 126), true, (some (123, false))⟩, qI 128 (.pick (.t 123) (.c (.bool true)) (.t 127)), qI 129 (.mv (.t 128)), ⟨(some 130), .mv (.t 16), true, (some (129, false))⟩, ⟨(some 131), .mv (.t 20), true, (some (129, false))⟩, ⟨(some 132), .call 16 [(.t 130), (.t 131)], false, (some (129, false))⟩, ⟨(some 133), .un .not (.t 132), true, (some (129, false))⟩, qI 134 (.pick (.t 129) (.c (.bool true)) (.t 133)), qI 135 (.mv (.t 134)), ⟨(some 136), .mv (.t 6), true, (some (135, false))⟩, ⟨(some 137), .mv (.t 18), true, (some (135, false))⟩, ⟨(some 138), .call 16 [(.t 136), (.t 137)], false, (some (135, false))⟩, ⟨(some 139), .un .not (.t 138), true, (some (135, false))⟩, qI 140 (.pick (.t 135) (.c (.bool true)) (.t 139)), qI 141 (.mv (.t 140)), ⟨(some 142), .mv (.t 8), true, (some (141, false))⟩, ⟨(some 143), .mv (.t 20), true, (some (141, false))⟩, ⟨(some 144), .call 16 [(.t 142), (.t 143)], false, (some (141, false))⟩, ⟨(some 145), .un .not (.t 144), true, (some (141, false))⟩, qI 146 (.pick (.t 141) (.c (.bool true)) (.t 145))])
  (.cond (.t 146) (.seq (.region [2] [qI 2 (.mv (.c (.bool false)))])
  .ret) .skip))
  (.seq (.draw [3, 4, 5, 12, 22] [] [qD 148 (.load true 3 (.t 3)) 0, qD 149 (.mv (.t 12)) 1, qD 150 (.indexAddr 1 (.t 149) (.c (.int .i64 0))) 2, qD 151 (.load false 1 (.t 150)) 3, qD 152 (.mv (.t 12)) 4, qD 153 (.indexAddr 1 (.t 152) (.c (.int .i64 1))) 5, qD 154 (.load false 1 (.t 153)) 6, eD 155 (.call 33 [(.t 148), (.t 151), (.t 154)]) 7 [], qD 147 (.mv (.t 155)) 8, qD 156 (.extract (.t 147) 0) 9, qD 157 (.extract (.t 147) 1) 10, qD 22 (.mv (.t 156)) 11, qD 23 (.mv (.t 157)) 12])
  (.seq (.draw [3, 4, 5, 24, 25] [] [qD 159 (.load true 3 (.t 3)) 0, qD 160 (.mv (.t 22)) 1, qD 161 (.mv (.t 12)) 2, qD 162 (.indexAddr 1 (.t 161) (.c (.int .i64 2))) 3, qD 163 (.load false 1 (.t 162)) 4, eD 164 (.call 31 [(.t 159), (.t 160), (.t 163)]) 5 [], qD 158 (.mv (.t 164)) 6, qD 165 (.extract (.t 158) 0) 7, qD 166 (.extract (.t 158) 1) 8, qD 24 (.mv (.t 165)) 9, qD 25 (.mv (.t 166)) 10])
  (.seq (.region [3, 4, 5, 24, 25, 26, 27] [qI 168 (.load true 3 (.t 3)), qI 169 (.mv (.t 4)), qI 170 (.mv (.t 5)), eI 171 (.call 14 [(.t 168), (.t 169), (.t 170)]), qI 167 (.mv (.t 171)), qI 172 (.extract (.t 167) 0), qI 173 (.extract (.t 167) 1), qI 26 (.mv (.t 172)), qI 27 (.mv (.t 173))])
  (.seq (.region [24, 25, 26, 27, 28, 29] [qI 175 (.load true 3 (.t 3)), qI 176 (.mv (.t 4)), qI 177 (.mv (.t 5)), eI 178 (.call 15 [(.t 175), (.t 176), (.t 177)]), qI 174 (.mv (.t 178)), qI 179 (.extract (.t 174) 0), qI 180 (.extract (.t 174) 1), qI 28 (.mv (.t 179)), qI 29 (.mv (.t 180))])
  (.seq (.region [2] [qI 181 (.mv (.t 25)), qI 182 (.bin .eql .other (.t 181) (.c (.int .i64 0))), qI 183 (.mv (.t 182)), ⟨(some 184), .mv (.t 27), true, (some (183, true))⟩, ⟨(some 185), .mv (.t 29), true, (some (183, true))⟩, ⟨(some 186), .bin .eql .other (.t 184) (.t 185), true, (some (183, true))⟩, qI 187 (.pick (.t 183) (.t 186) (.c (.bool false))), qI 188 (.mv (.t 187)), ⟨(some 189), .mv (.t 26), true, (some (188, true))⟩, ⟨(some 190), .mv (.t 28), true, (some (188, true))⟩, ⟨(some 191), .call 16 [(.t 189), (.t 190)], false, (some (188, true))⟩, qI 192 (.pick (.t 188) (.t 191) (.c (.bool false))), qI 193 (.mv (.t 192)), ⟨(some 194), .mv (.t 24), true, (some (193, true))⟩, ⟨(some 195), .mv (.t 28), true, (some (193, true))⟩, ⟨(some 196), .call 16 [(.t 194), (.t 195)], false, (some (193, true))⟩, qI 197 (.pick (.t 193) (.t 196) (.c (.bool false))), qI 2 (.mv (.t 197))])
  .ret)))))))))))))))))))⟩
theorem cf4 : cF Tryz.prog Tryz.f4 = some if4 := by kernel_rfl
def if5 : IFn := ⟨[0], [(.tmp 2)], (.seq (.region [0] [qI 2 (.mv (.c (.bool false)))])
  (.seq (.seq (.region [0, 35] [qI 34 (.mv (.t 0)), eI 35 (.call 12 [(.t 34)])])
  (.cond (.t 35) (.seq (.region [2] [qI 2 (.mv (.c (.bool true)))])
  .ret) .skip))
  (.seq (.region [3, 4, 5] [qI 37 (.mv (.t 0)), eI 38 (.call 35 [(.t 37)]), qI 36 (.mv (.t 38)), qI 39 (.extract (.t 36) 0), qI 40 (.extract (.t 36) 1), qI 41 (.extract (.t 36) 2), eI 3 (.alloc [(.int .i64 0), .nils, .nils]), nI (.store 3 (.t 3) (.t 39)), qI 4 (.mv (.t 40)), qI 5 (.mv (.t 41))])
  (.seq (.region [3, 4, 5, 6, 7] [qI 43 (.load true 3 (.t 3)), qI 44 (.mv (.t 4)), qI 45 (.mv (.t 5)), eI 46 (.call 36 [(.t 43), (.t 44), (.t 45)]), qI 42 (.mv (.t 46)), qI 47 (.extract (.t 42) 0), qI 48 (.extract (.t 42) 1), qI 6 (.mv (.t 47)), qI 7 (.mv (.t 48))])
  (.seq (.region [3, 4, 5, 6, 7, 8, 9] [qI 50 (.load true 3 (.t 3)), qI 51 (.mv (.t 4)), qI 52 (.mv (.t 5)), eI 53 (.call 37 [(.t 50), (.t 51), (.t 52)]), qI 49 (.mv (.t 53)), qI 54 (.extract (.t 49) 0), qI 55 (.extract (.t 49) 1), qI 8 (.mv (.t 54)), qI 9 (.mv (.t 55))])
  (.seq (.seq (.region [3, 4, 5, 7, 8, 64] [qI 56 (.mv (.t 7)), qI 57 (.mv (.t 9)), qI 58 (.bin .neq .other (.t 56) (.t 57)), qI 59 (.mv (.t 58)), ⟨(some 60), .mv (.t 6), true, (some (59, false))⟩, ⟨(some 61), .mv (.t 8), true, (some (59, false))⟩, ⟨(some 62), .call 30 [(.t 60), (.t 61)], false, (some (59, false))⟩, ⟨(some 63), .un .not (.t 62), true, (some (59, false))⟩, qI 64 (.pick (.t 59) (.c (.bool true)) (.t 63))])
  (.cond (.t 64) (.seq (.region [2] [qI 2 (.mv (.c (.bool false)))])
  .ret) .skip))
  (.seq (.seq (.region [3, 4, 5, 8, 66] [qI 65 (.mv (.t 7)), qI 66 (.bin .neq .other (.t 65) (.c (.int .i64 0)))])
  (.cond (.t 66) (.seq (.region [2] [qI 2 (.mv (.c (.bool true)))])
  .ret) .skip))
  (.seq (.region [3, 4, 5, 8, 10, 11] [qI 68 (.load true 3 (.t 3)), qI 69 (.mv (.t 4)), qI 70 (.mv (.t 5)), eI 71 (.call 38 [(.t 68), (.t 69), (.t 70)]), qI 67 (.mv (.t 71)), qI 72 (.extract (.t 67) 0), qI 73 (.extract (.t 67) 1), qI 10 (.mv (.t 72)), qI 11 (.mv (.t 73))])
  (.seq (.region [3, 4, 5, 8, 10, 11, 12, 13] [qI 75 (.load true 3 (.t 3)), qI 76 (.mv (.t 4)), qI 77 (.mv (.t 5)), eI 78 (.call 39 [(.t 75), (.t 76), (.t 77)]), qI 74 (.mv (.t 78)), qI 79 (.extract (.t 74) 0), qI 80 (.extract (.t 74) 1), qI 12 (.mv (.t 79)), qI 13 (.mv (.t 80))])
  (.seq (.seq (.region [3, 4, 5, 8, 12, 89] [qI 81 (.mv (.t 11)), qI 82 (.mv (.t 13)), qI 83 (.bin .neq .other (.t 81) (.t 82)), qI 84 (.mv (.t 83)), ⟨(some 85), .mv (.t 10), true, (some (84, false))⟩, ⟨(some 86), .mv (.t 12), true, (some (84, false))⟩, ⟨(some 87), .call 16 [(.t 85), (.t 86)], false, (some (84, false))⟩, ⟨(some 88), .un .not (.t 87), true, (some (84, false))⟩, qI 89 (.pick (.t 84) (.c (.bool true)) (.t 88))])
  (.cond (.t 89) (.seq (.region [2] [qI 2 (.mv (.c (.bool false)))])
  .ret) .skip))
  (.seq (.region [3, 4, 5, 8, 12, 14] [qI 90 (.mv (.t 4)), qI 91 (.len (.t 90)), eI 92 (.makeSl 1 8 [(.int .i64 0)] (.t 91) (.t 91)), qI 14 (.mv (.t 92))])
  (.seq (.seq (.region [3, 4, 5, 8, 12, 14, 15] [qI 15 (.mv (.c (.int .i64 0)))])
  (.block 0 (.loop [3, 4, 5, 8, 12, 14, 15] (.seq (.seq (.region [3, 4, 5, 8, 12, 14, 15, 96] [qI 93 (.mv (.t 15)), qI 94 (.mv (.t 8)), qI 95 (.len (.t 94)), qI 96 (.bin .lss .other (.t 93) (.t 95))])
  (.cond (.t 96) .skip (.exit 0)))
  (.seq (.block 1 (.seq (.draw [3, 4, 5, 8, 12, 14, 15, 16, 17] [] [qD 100 (.load true 3 (.t 3)) 0, qD 101 (.mv (.t 14)) 1, qD 102 (.mv (.t 8)) 2, qD 103 (.mv (.t 15)) 3, qD 104 (.indexAddr 1 (.t 102) (.t 103)) 4, qD 105 (.load false 1 (.t 104)) 5, eD 106 (.call 31 [(.t 100), (.t 101), (.t 105)]) 6 [], qD 99 (.mv (.t 106)) 7, qD 107 (.extract (.t 99) 0) 8, qD 108 (.extract (.t 99) 1) 9, qD 16 (.mv (.t 107)) 10, qD 17 (.mv (.t 108)) 11])
  (.seq (.draw [3, 4, 5, 8, 12, 15, 16, 17, 18] [] [qD 110 (.load true 3 (.t 3)) 0, qD 111 (.mv (.t 14)) 1, qD 112 (.mv (.t 8)) 2, qD 113 (.mv (.t 15)) 3, qD 114 (.indexAddr 1 (.t 112) (.t 113)) 4, qD 115 (.load false 1 (.t 114)) 5, eD 116 (.call 33 [(.t 110), (.t 111), (.t 115)]) 6 [], qD 109 (.mv (.t 116)) 7, qD 117 (.extract (.t 109) 0) 8, qD 118 (.extract (.t 109) 1) 9, qD 18 (.mv (.t 117)) 10, qD 19 (.mv (.t 118)) 11])
  (.seq (.seq (.region [3, 4, 5, 8, 12, 15, 18, 126] [qI 119 (.mv (.t 17)), qI 120 (.bin .neq .other (.t 119) (.c (.int .i64 0))), qI 121 (.mv (.t 120)), ⟨(some 122), .mv (.t 16), true, (some (121, false))⟩, ⟨(some 123), .mv (.t 18), true, (some (121, false))⟩, ⟨(some 124), .call 16 [(.t 122), (.t 123)], false, (some (121, false))⟩, ⟨(some 125), .un .not (.t 124), true, (some (121, false))⟩, qI 126 (.pick (.t 121) (.c (.bool true)) (.t 125))])
  (.cond (.t 126) (.seq (.region [2] [qI 2 (.mv (.c (.bool false)))])
  .ret) .skip))
  (.region [3, 4, 5, 8, 12, 14, 15] [qI 127 (.mv (.t 18)), qI 14 (.mv (.t 127))])))))
  (.region [3, 4, 5, 8, 12, 14, 15] [qI 97 (.mv (.t 15)), qI 98 (.bin .add .other (.t 97) (.c (.int .i64 1))), qI 15 (.mv (.t 98))]))))))
  (.seq (.region [3, 4, 5, 12, 14, 20, 21] [qI 129 (.load true 3 (.t 3)), qI 130 (.mv (.t 5)), qI 131 (.mv (.t 12)), eI 132 (.call 14 [(.t 129), (.t 130), (.t 131)]), qI 128 (.mv (.t 132)), qI 133 (.extract (.t 128) 0), qI 134 (.extract (.t 128) 1), qI 20 (.mv (.t 133)), qI 21 (.mv (.t 134))])
  (.seq (.region [3, 4, 5, 12, 14, 20, 21, 22, 23] [qI 136 (.load true 3 (.t 3)), qI 137 (.mv (.t 4)), qI 138 (.mv (.t 5)), eI 139 (.call 14 [(.t 136), (.t 137), (.t 138)]), qI 135 (.mv (.t 139)), qI 140 (.extract (.t 135) 0), qI 141 (.extract (.t 135) 1), qI 22 (.mv (.t 140)), qI 23 (.mv (.t 141))])
  (.seq (.region [3, 4, 5, 12, 14, 20, 21, 22, 23, 24, 25] [qI 143 (.load true 3 (.t 3)), qI 144 (.mv (.t 4)), qI 145 (.mv (.t 5)), eI 146 (.call 15 [(.t 143), (.t 144), (.t 145)]), qI 142 (.mv (.t 146)), qI 147 (.extract (.t 142) 0), qI 148 (.extract (.t 142) 1), qI 24 (.mv (.t 147)), qI 25 (.mv (.t 148))])
  (.seq (.region [3, 4, 5, 12, 14, 20, 21, 22, 23, 24, 25, 26, 27] [qI 150 (.load true 3 (.t 3)), qI 151 (.mv (.t 4)), qI 152 (.mv (.t 5)), eI 153 (.call 40 [(.t 150), (.t 151), (.t 152)]), qI 149 (.mv (.t 153)), qI 154 (.extract (.t 149) 0), qI 155 (.extract (.t 149) 1), qI 26 (.mv (.t 154)), qI 27 (.mv (.t 155))])
  (.seq (.region [3, 4, 12, 14, 20, 21, 22, 23, 24, 25, 26, 27, 28, 29] [qI 157 (.load true 3 (.t 3)), qI 158 (.mv (.t 4)), qI 159 (.mv (.t 5)), eI 160 (.call 41 [(.t 157), (.t 158), (.t 159)]), qI 156 (.mv (.t 160)), qI 161 (.extract (.t 156) 0), qI 162 (.extract (.t 156) 1), qI 28 (.mv (.t 161)), qI 29 (.mv (.t 162))])
  (.seq (.region [3, 12, 14, 20, 21, 22, 23, 24, 25, 26, 27, 28, 29, 30] [qI 164 (.load true 3 (.t 3)), qI 165 (.mv (.t 4)), eI 166 (.call 20 [(.t 164), (.t 165)]), qI 163 (.mv (.t 166)), qI 167 (.extract (.t 163) 0), qI 168 (.extract (.t 163) 1), qI 30 (.mv (.t 167)), qI 31 (.mv (.t 168))])
  (.seq (.region [12, 14, 20, 21, 22, 23, 24, 25, 26, 27, 28, 29, 32, 33] [qI 170 (.load true 3 (.t 3)), qI 171 (.mv (.t 30)), qI 172 (.mv (.t 12)), eI 173 (.call 14 [(.t 170), (.t 171), (.t 172)]), qI 169 (.mv (.t 173)), qI 174 (.extract (.t 169) 0), qI 175 (.extract (.t 169) 1), qI 32 (.mv (.t 174)), qI 33 (.mv (.t 175))])
  (.seq (.region [2] [qI 176 (.mv (.t 14)), qI 177 (.mv (.t 12)), eI 178 (.call 16 [(.t 176), (.t 177)]), qI 179 (.mv (.t 178)), ⟨(some 180), .mv (.t 21), true, (some (179, true))⟩, ⟨(some 181), .bin .eql .other (.t 180) (.c (.int .i64 0)), true, (some (179, true))⟩, qI 182 (.pick (.t 179) (.t 181) (.c (.bool false))), qI 183 (.mv (.t 182)), ⟨(some 184), .mv (.t 23), true, (some (183, true))⟩, ⟨(some 185), .mv (.t 25), true, (some (183, true))⟩, ⟨(some 186), .bin .eql .other (.t 184) (.t 185), true, (some (183, true))⟩, qI 187 (.pick (.t 183) (.t 186) (.c (.bool false))), qI 188 (.mv (.t 187)), ⟨(some 189), .mv (.t 20), true, (some (188, true))⟩, ⟨(some 190), .mv (.t 24), true, (some (188, true))⟩, ⟨(some 191), .call 16 [(.t 189), (.t 190)], false, (some (188, true))⟩, qI 192 (.pick (.t 188) (.t 191) (.c (.bool false))), qI 193 (.mv (.t 192)), ⟨(some 194), .mv (.t 22), true, (some (193, true))⟩, ⟨(some 195), .mv (.t 24), true, (some (193, true))⟩, ⟨(some 196), .call 16 [(.t 194), (.t 195)], false, (some (193, true))⟩, qI 197 (.pick (.t 193) (.t 196) (.c (.bool false))), qI 198 (.mv (.t 197)), ⟨(some 199), .mv (.t 27), true, (some (198, true))⟩, ⟨(some 200), .mv (.t 29), true, (some (198, true))⟩, ⟨(some 201), .bin .eql .other (.t 199) (.t 200), true, (some (198, true))⟩, qI 202 (.pick (.t 198) (.t 201) (.c (.bool false))), qI 203 (.mv (.t 202)), ⟨(some 204), .mv (.t 26), true, (some (203, true))⟩, ⟨(some 205), .mv (.t 28), true, (some (203, true))⟩, ⟨(some 206), .call 16 [(.t 204), (.t 205)], false, (some (203, true))⟩, qI 207 (.pick (.t 203) (.t 206) (.c (.bool false))), qI 208 (.mv (.t 207)), ⟨(some 209), .mv (.t 33), true, (some (208, true))⟩, ⟨(some 210), .bin .eql .other (.t 209) (.c (.int .i64 0)), true, (some (208, true))⟩, qI 211 (.pick (.t 208) (.t 210) (.c (.bool false))), qI 212 (.mv (.t 211)), ⟨(some 213), .mv (.t 32), true, (some (212, true))⟩, ⟨(some 214), .mv (.t 28), true, (some (212, true))⟩, ⟨(some 215), .call 16 [(.t 213), (.t 214)], false, (some (212, true))⟩, qI 216 (.pick (.t 212) (.t 215) (.c (.bool false))), qI 2 (.mv (.t 216))])
  .ret))))))))))))))))))))⟩
theorem cf5 : cF Tryz.prog Tryz.f5 = some if5 := by kernel_rfl
end Go.Proofs
namespace Go.Proofs.YtpcjbkbcaiphmaaGreat
open Go.ChangeShapes Go.WideShapes Go.ChangeAt Go.RowKit Go.Ab Go.Joins Go.Lie Go.Proofs
theorem own : ownKnob Tryz.prog.godebug = none := by kernel_rfl
theorem laidOut : laidOutB Tryz.prog = true := by kernel_rfl
variable {H : Type} {enc : TypeId × Value → H} {W w0 : World} {j : Inj} {h : AHeap}
end Go.Proofs.YtpcjbkbcaiphmaaGreat
