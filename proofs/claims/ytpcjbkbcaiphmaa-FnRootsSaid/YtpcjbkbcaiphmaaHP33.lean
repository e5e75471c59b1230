/- What a law is handed, laid as frozen values: Lie rings, lists of elements. -/
import Derived.Test.YtpcjbkbcaiphmaaHP30
import Derived.Test.YtpcjbkbcaiphmaaHP28
import Derived.Test.YtpcjbkbcaiphmaaHP29
import Derived.Test.YtpcjbkbcaiphmaaHP27
import Derived.Test.YtpcjbkbcaiphmaaHAbPt
import Derived.Test.YtpcjbkbcaiphmaaChecked
import Derived.Test.YtpcjbkbcaiphmaaRows
import Derived.Lib.SmallJoins
import Derived.WalkKit
import Derived.ProofKit
open Nat renaming reduceLeDiff → nQ7, reduceEqDiff → nQ10, reduceBEq → nQ11, reduceAdd → nQ12, reduceLT → nQ16, reduceSub → nQ17, reduceMul → nQ18
open Int renaming reduceEq → iQ2, reduceLT → iQ3, reduceLE → iQ4, reduceNeg → iQ5, reduceToNat → iQ6, ofNat_le → iQ7
open List renaming reduceReplicate → lQ19, getElem?_drop → lQ20
set_option linter.unusedSimpArgs false
set_option linter.unusedVariables false
namespace Go.Proofs
open Go.Ab Go.Lie
variable {σ : PHeap} {K : PV → PHeap → Prop} {p p' : Int} {n : Nat} {W : List (List Int)} {B : List (List (List Int))} {vP vB vL vU vV : PV} {s : Nat}
theorem ipow_pw : ∀ n : Nat, ipow p n = pw_ p n
  | 0 => rfl
  | n + 1 => by rw [ipow, pw_, ipow_pw n, Int.mul_comm]
def Cop (p k : Int) : Prop := ∃ e t : Int, k * e = 1 + p * t
structure DivL (p : Int) (n : Nat) (W : List (List Int)) (k : Int) (x z : List Int) : Prop where
  el : El p n z
  nil : isZ x → z = x
  eqv : Cop p k → Eqv p n W (fun j => k * at_ z j) (at_ x)
theorem cop_inv {k : Int} (h : Cop p k) (hn : 0 < n) : ∃ z w : Int, k * z = 1 + w * pw_ p n := by
  obtain ⟨e, t, h⟩ := h
  obtain ⟨f, s, g⟩ := inv_one (p := p) t n hn
  exact ⟨e * f, s, by grind⟩
theorem DivL.unique (o : OkW p n W) {k : Int} {x z z' : List Int} (hx : El p n x) (h : DivL p n W k x z) (h' : DivL p n W k x z') (hk : isZ x ∨ Cop p k) : z = z' := by
  rcases hk with hk | hk
  · rw [h.nil hk, h'.nil hk]
  · rcases Nat.eq_zero_or_pos n with hn | hn
    · have e1 := h.el.1
      have e2 := h'.el.1
      rw [List.eq_nil_of_length_eq_zero (e1.trans hn), List.eq_nil_of_length_eq_zero (e2.trans hn)]
    · obtain ⟨a, w, ha⟩ := cop_inv (p := p) hk hn
      have e : Eqv p n W (fun j => k * at_ z j) (fun j => k * at_ z' j) := (h.eqv hk).trans (h'.eqv hk).symm
      have e2 := e.mul a
      have one : ∀ {v : List Int}, El p n v → Eqv p n W (fun j => a * (k * at_ v j)) (at_ v) := fun {v} hv => by
        have k1 := (kill_all o (f := at_ v) (fun j hj => hv.beyond hj)).mul w
        have k2 := (Eqv.refl (p := p) (n := n) (W := W) (at_ v)).add k1
        exact ((Eqv.of_eq fun j => by grind).trans k2).trans (Eqv.of_eq fun j => by omega)
      exact eqv_unique o h.el.1 h'.el.1 h.el.2 h'.el.2 (((one h.el).symm.trans e2).trans (one h'.el))
theorem DivL.mk' (o : OkW p n W) {k y m : Int} {x : List Int} (hx : El p n x) (hz : ¬ isZ x) (hm : Eqv p n W (fun j => m * at_ x j) fun _ => 0) (hy : Cop p k → ∃ t, k * y = 1 + t * m) : DivL p n W k x (lmul p W y x) where
  el := (mul_eqv o hx y).1
  nil := fun h => absurd h hz
  eqv := fun hk => by
    obtain ⟨t, ht⟩ := hy hk
    have k1 := (mul_eqv o hx y).2.mul k
    have k2 := (Eqv.refl (p := p) (n := n) (W := W) (at_ x)).add (hm.mul t)
    exact (k1.trans (Eqv.of_eq fun j => by grind)).trans (k2.trans (Eqv.of_eq fun j => by omega))
end Go.Proofs
namespace Go.Proofs
open Go.Ab Go.Lie
variable {σ : PHeap} {K : PV → PHeap → Prop} {p p' : Int} {n : Nat} {W : List (List Int)} {B : List (List (List Int))} {vP vB vL vU vV : PV} {s : Nat}
theorem pw_pos (hp : okp p) : ∀ k : Nat, 1 ≤ pw_ p k
  | 0 => by simp [pw_]
  | k + 1 => by
    have h := pw_pos hp k
    have := Int.mul_le_mul_of_nonneg_right (show (1 : Int) ≤ p by have := hp.1; omega) (show 0 ≤ pw_ p k by omega)
    rw [pw_]; omega
theorem pw_mono (hp : okp p) {j : Nat} : ∀ {k : Nat}, j ≤ k → pw_ p j ≤ pw_ p k
  | 0, h => by have : j = 0 := by omega
               subst this; exact Int.le_refl _
  | k + 1, h => by
    by_cases e : j = k + 1
    · subst e; exact Int.le_refl _
    · have h1 := pw_mono hp (j := j) (k := k) (by omega)
      have h2 := pw_pos hp k
      have := Int.mul_le_mul_of_nonneg_right (show (1 : Int) ≤ p by have := hp.1; omega) (show 0 ≤ pw_ p k by omega)
      have e2 : pw_ p (k + 1) = p * pw_ p k := rfl
      omega
theorem l31Order_ok {l : Nat} {w : Bool} {av : AV} {x : List Int} (hR : IsR vP vB W B) (o : OkW p n W) (hpow : ipow p n ≤ 729) (hx : El p n x) (hl : l = x.length)
    (hk : ∀ j, j ≤ n → Eqv p n W (fun i => pw_ p j * at_ x i) (fun _ => 0) → K (.int .i64 (pw_ p j)) σ) : PCalls Try.prog 97 [.agg [.int .i64 p, vP, vB], .fz w av l (pis x)] σ K := by
  have h1 := hR.P.one
  have h2 := hR.B.one
  have hn6 := o.le
  have hpr := o.pr
  have hpb := hpr
  unfold okp at hpb
  have hxl := hx.1
  subst hl
  refine PCalls.gh ?_
  refine pcalls_of_vp mix Try.func97 cf97 rfl ?_
  dsimp only [if97, qI, eI, nI, qD, eD]
  simp only [pwA, if_true, if_false, eq_self, nm_eq, reduceCtorEq, ↓reduceIte, nQ10, nQ7, nQ11, nQ12, nQ16, nQ17, nQ18, iQ2, iQ3, iQ4, iQ5, iQ6, lQ19, iQ7, lQ20, h1, h2]
  generalize hH : σ.new [.int .i64 p, vP, vB] = H
  have hHk : Keep σ H := by rw [← hH]; exact keep_new σ _
  have hb3 : H.rd σ.next 0 3 = some [.int .i64 p, vP, vB] := by rw [← hH]; simp only [pwA, if_true, if_false, eq_self, nm_eq, reduceCtorEq, ↓reduceIte, nQ10, nQ7, nQ11, nQ12, nQ16, nQ17, nQ18, iQ2, iQ3, iQ4, iQ5, iQ6, lQ19, iQ7, lQ20]
  have hb1 : H.rd1 σ.next 0 = some (.int .i64 p) := by rw [← hH]; simp only [pwA, if_true, if_false, eq_self, nm_eq, reduceCtorEq, ↓reduceIte, nQ10, nQ7, nQ11, nQ12, nQ16, nQ17, nQ18, iQ2, iQ3, iQ4, iQ5, iQ6, lQ19, iQ7, lQ20]
  refine vp_loop (fun m vs h' => ∃ (j : Nat) (y : List Int) (wy : Bool) (vy : AV), m = n - dep y ∧ j ≤ dep y ∧ vs = [.fz wy vy n (pis y), .ptr σ.next 0, .int .i64 (pw_ p j)] ∧ H = h' ∧ El p n y ∧ Eqv p n W (at_ y) fun i => pw_ p j * at_ x i) (n - dep x) ?_ ?_
  · exact ⟨0, x, w, av, rfl, by omega, by rw [hxl]; rfl, rfl, hx, Eqv.of_eq fun i => by simp [pw_]⟩
  rintro m vs h' ⟨j, y, wy, vy, rfl, hj, rfl, rfl, hy, he⟩
  have hyl := hy.1
  have hdl := dep_le y
  simp only [pwA, if_true, if_false, eq_self, nm_eq, reduceCtorEq, ↓reduceIte, nQ10, nQ7, nQ11, nQ12, nQ16, nQ17, nQ18, iQ2, iQ3, iQ4, iQ5, iQ6, lQ19, iQ7, lQ20]
  refine l01Zero_ok hyl.symm (by omega) ?_
  by_cases hz : isZ y
  · simp only [pwA, if_true, if_false, eq_self, nm_eq, reduceCtorEq, ↓reduceIte, nQ10, nQ7, nQ11, nQ12, nQ16, nQ17, nQ18, iQ2, iQ3, iQ4, iQ5, iQ6, lQ19, iQ7, lQ20, hz, decide_true]
    refine Gh.fin0 hHk trivial (hk j (by omega) (he.symm.trans (Eqv.of_eq fun i => isZ_at hz i)))
  · have hd : dep y < n := by have := not_isZ_dep hz; omega
    have hj1 : pw_ p (j + 1) ≤ pw_ p n := pw_mono hpr (by omega)
    have hj0 := pw_pos hpr (j + 1)
    rw [ipow_pw] at hpow
    have hc : pw_ p j * p = pw_ p (j + 1) := by rw [pw_, Int.mul_comm]
    have hw : IntKind.i64.wrap (pw_ p j * p) = pw_ p (j + 1) := by rw [hc]; exact wrap64 (by omega) (by omega)
    simp only [pwA, if_true, if_false, eq_self, nm_eq, reduceCtorEq, ↓reduceIte, nQ10, nQ7, nQ11, nQ12, nQ16, nQ17, nQ18, iQ2, iQ3, iQ4, iQ5, iQ6, lQ19, iQ7, lQ20, hz, decide_false, hb3, hb1]
    refine l31Mix_el hR o hy hy hyl.symm hyl.symm (by omega) (by decide) fun v1 => ?_
    have hdep := pmul_dep o hy hd
    obtain ⟨z1, z2⟩ := mul_eqv o hy p
    simp only [pwA, if_true, if_false, eq_self, nm_eq, reduceCtorEq, ↓reduceIte, nQ10, nQ7, nQ11, nQ12, nQ16, nQ17, nQ18, iQ2, iQ3, iQ4, iQ5, iQ6, lQ19, iQ7, lQ20, hb1, hw]
    refine ⟨_, ?_, j + 1, _, true, v1, rfl, by omega, rfl, z1, (z2.trans (he.mul p)).trans (Eqv.of_eq fun i => by rw [← hc]; grind)⟩
    omega
end Go.Proofs
namespace Go.Proofs
open Go.Ab Go.Lie
variable {σ : PHeap} {K : PV → PHeap → Prop} {p p' : Int} {n : Nat} {W : List (List Int)} {B : List (List (List Int))} {vP vB vL vU vV : PV} {s : Nat}
theorem l33Part_ok {l : Nat} {w : Bool} {av : AV} {k : Int} {x : List Int} (hR : IsR vP vB W B) (o : OkW p n W) (hpow : ipow p n ≤ 729) (hx : El p n x) (hl : l = x.length)
    (hk : ∀ w v z, DivL p n W k x z → K (.fz w v n (pis z)) σ) : PCalls Try.prog 41 [.agg [.int .i64 p, vP, vB], .fz w av l (pis x), .int .i64 k] σ K := by
  have h1 := hR.P.one
  have h2 := hR.B.one
  have hn6 := o.le
  have hpr := o.pr
  have hxl := hx.1
  subst hl
  refine PCalls.gh ?_
  refine pcalls_of_vp mix Try.func41 cf41 rfl ?_
  dsimp only [if41, qI, eI, nI, qD, eD]
  simp only [pwA, if_true, if_false, eq_self, nm_eq, reduceCtorEq, ↓reduceIte, nQ10, nQ7, nQ11, nQ12, nQ16, nQ17, nQ18, iQ2, iQ3, iQ4, iQ5, iQ6, lQ19, iQ7, lQ20, h1, h2]
  generalize hH : σ.new [.int .i64 p, vP, vB] = H
  have hHk : Keep σ H := by rw [← hH]; exact keep_new σ _
  have hb3 : H.rd σ.next 0 3 = some [.int .i64 p, vP, vB] := by rw [← hH]; simp only [pwA, if_true, if_false, eq_self, nm_eq, reduceCtorEq, ↓reduceIte, nQ10, nQ7, nQ11, nQ12, nQ16, nQ17, nQ18, iQ2, iQ3, iQ4, iQ5, iQ6, lQ19, iQ7, lQ20]
  refine l01Zero_ok rfl (by omega) ?_
  by_cases hz : isZ x
  · simp only [pwA, if_true, if_false, eq_self, nm_eq, reduceCtorEq, ↓reduceIte, nQ10, nQ7, nQ11, nQ12, nQ16, nQ17, nQ18, iQ2, iQ3, iQ4, iQ5, iQ6, lQ19, iQ7, lQ20, hz, decide_true]
    refine Gh.fin0 hHk trivial ?_
    rw [hxl]
    exact hk _ _ x ⟨hx, fun _ => rfl, fun _ => Eqv.of_eq fun j => by rw [isZ_at hz, Int.mul_zero]⟩
  · have hdx : dep x < n := by have := not_isZ_dep hz; omega
    simp only [pwA, if_true, if_false, eq_self, nm_eq, reduceCtorEq, ↓reduceIte, nQ10, nQ7, nQ11, nQ12, nQ16, nQ17, nQ18, iQ2, iQ3, iQ4, iQ5, iQ6, lQ19, iQ7, lQ20, hz, decide_false, hb3]
    refine l31Order_ok hR o hpow hx rfl fun j hj he => ?_
    have hj0 : j ≠ 0 := fun e => by
      subst e
      have e0 : Eqv p n W (at_ x) fun _ => 0 := (Eqv.of_eq fun i => by simp [pw_]).trans he
      have := eqv_zero o hx e0 (Nat.le_refl n) (fun _ _ => rfl) (dep x) hdx
      exact dep_ne (by omega) this
    have hm1 : pw_ p j ≤ pw_ p n := pw_mono hpr hj
    have hm2 : pw_ p 1 ≤ pw_ p j := pw_mono hpr (by omega)
    have hm3 : pw_ p 1 = p := by simp [pw_]
    rw [ipow_pw] at hpow
    have hp2 := hpr.1
    generalize hm : pw_ p j = m at *
    simp only [pwA, if_true, if_false, eq_self, nm_eq, reduceCtorEq, ↓reduceIte, nQ10, nQ7, nQ11, nQ12, nQ16, nQ17, nQ18, iQ2, iQ3, iQ4, iQ5, iQ6, lQ19, iQ7, lQ20]
    refine vp_loop (fun q vs h' => ∃ y : Int, q = (m - y).toNat ∧ 1 ≤ y ∧ y ≤ m ∧ vs = [.fz w av x.length (pis x), .int .i64 k, .ptr σ.next 0, .int .i64 m, .int .i64 y] ∧ H = h' ∧ ∀ y', 1 ≤ y' → y' < y → k % m * y' % m ≠ 1) (m - 1).toNat ?_ ?_
    · exact ⟨1, rfl, by omega, by omega, rfl, rfl, fun y' _ _ => by omega⟩
    rintro q vs h' ⟨y, rfl, hy1, hym, rfl, rfl, hall⟩
    have em1 := Int.emod_nonneg k (show m ≠ 0 by omega)
    have em2 := Int.emod_lt_of_pos k (show 0 < m by omega)
    have em := Int.mul_ediv_add_emod k m
    have fin : (Cop p k → ∃ t, k * y = 1 + t * m) → ∀ v, Gh σ K (.fz true v n (pis (lmul p W y x))) H := fun h v => Gh.fin0 hHk trivial (hk _ v _ (DivL.mk' o hx hz he h))
    by_cases hlt : y < m
    · have hb : 0 ≤ k % m * y ∧ k % m * y ≤ 531441 := by
        have a1 := Int.mul_le_mul (show k % m ≤ 729 by omega) (show y ≤ 729 by omega) (by omega) (by omega)
        have a2 := Int.mul_nonneg em1 (show 0 ≤ y by omega)
        omega
      simp only [pwA, if_true, if_false, eq_self, nm_eq, reduceCtorEq, ↓reduceIte, nQ10, nQ7, nQ11, nQ12, nQ16, nQ17, nQ18, iQ2, iQ3, iQ4, iQ5, iQ6, lQ19, iQ7, lQ20, hlt, decide_true]
      refine l01Mod_ok (by omega) (by omega) ?_
      have hmne : m ≠ 0 := by omega
      have ht : (k % m * y).tmod m = k % m * y % m := Int.tmod_eq_emod_of_nonneg hb.1
      by_cases h1 : k % m * y % m = 1
      · simp only [pwA, if_true, if_false, eq_self, nm_eq, reduceCtorEq, ↓reduceIte, nQ10, nQ7, nQ11, nQ12, nQ16, nQ17, nQ18, iQ2, iQ3, iQ4, iQ5, iQ6, lQ19, iQ7, lQ20, hlt, hmne, wrap64 (n := k % m * y) (by omega) (by omega), ht, h1, hb3]
        refine l31Mix_el hR o hx hx rfl rfl (by omega) (by decide) fun v1 => ?_
        simp only [pwA, if_true, if_false, eq_self, nm_eq, reduceCtorEq, ↓reduceIte, nQ10, nQ7, nQ11, nQ12, nQ16, nQ17, nQ18, iQ2, iQ3, iQ4, iQ5, iQ6, lQ19, iQ7, lQ20]
        refine fin (fun _ => ?_) v1
        have e := Int.mul_ediv_add_emod (k % m * y) m
        exact ⟨k % m * y / m + k / m * y, by grind⟩
      · simp only [pwA, if_true, if_false, eq_self, nm_eq, reduceCtorEq, ↓reduceIte, nQ10, nQ7, nQ11, nQ12, nQ16, nQ17, nQ18, iQ2, iQ3, iQ4, iQ5, iQ6, lQ19, iQ7, lQ20, hlt, hmne, wrap64 (n := k % m * y) (by omega) (by omega), ht, h1, wrap64 (n := y + 1) (by omega) (by omega)]
        refine ⟨_, ?_, y + 1, rfl, by omega, by omega, rfl, fun y' h2 h3 => ?_⟩
        · omega
        · by_cases e : y' = y
          · subst e; exact h1
          · exact hall y' h2 (by omega)
    · have hye : y = m := by omega
      simp only [pwA, if_true, if_false, eq_self, nm_eq, reduceCtorEq, ↓reduceIte, nQ10, nQ7, nQ11, nQ12, nQ16, nQ17, nQ18, iQ2, iQ3, iQ4, iQ5, iQ6, lQ19, iQ7, lQ20, hlt, decide_false, hb3]
      refine l31Mix_el hR o hx hx rfl rfl (by omega) (by decide) fun v1 => ?_
      simp only [pwA, if_true, if_false, eq_self, nm_eq, reduceCtorEq, ↓reduceIte, nQ10, nQ7, nQ11, nQ12, nQ16, nQ17, nQ18, iQ2, iQ3, iQ4, iQ5, iQ6, lQ19, iQ7, lQ20]
      refine fin (fun hc => ?_) v1
      exfalso
      obtain ⟨z, w', hzw⟩ := cop_inv (p := p) hc (show 0 < j by omega)
      rw [hm] at hzw
      have f1 := Int.emod_nonneg z (show m ≠ 0 by omega)
      have f2 := Int.emod_lt_of_pos z (show 0 < m by omega)
      have f3 := Int.mul_ediv_add_emod z m
      have hone : k % m * (z % m) % m = 1 := by
        have e1 : k % m * (z % m) = 1 + (w' - k / m * z - k % m * (z / m)) * m := by grind
        rw [e1, Int.add_mul_emod_self_right]
        exact Int.emod_eq_of_lt (by omega) (by omega)
      have hz0 : z % m ≠ 0 := fun e => by
        rw [e, Int.mul_zero, Int.zero_emod] at hone
        omega
      exact hall (z % m) (by omega) (by omega) hone
end Go.Proofs
namespace Go.Proofs
open Go.Ab Go.Lie
variable {σ : PHeap} {K : PV → PHeap → Prop} {p p' : Int} {n : Nat} {W : List (List Int)} {B : List (List (List Int))} {vP vB vL vU vV : PV} {s : Nat}
def CodeL (p : Int) (W : List (List Int)) (B : List (List (List Int))) (xs : List (List Int)) (c : Int) : Prop :=
  (¬ (isLie p W B ∧ Els p W.length xs) ∧ c = 1) ∨ ((isLie p W B ∧ Els p W.length xs) ∧ ¬ isLz p W.length W B ∧ c = 5) ∨ ((isLie p W B ∧ Els p W.length xs) ∧ isLz p W.length W B ∧ c = 0)
theorem CodeL.unique {xs : List (List Int)} {c d : Int} (h : CodeL p W B xs c) (g : CodeL p W B xs d) : c = d := by
  rcases h with ⟨h1, h2⟩ | ⟨h1, h2, h3⟩ | ⟨h1, h2, h3⟩ <;> rcases g with ⟨g1, g2⟩ | ⟨g1, g2, g3⟩ | ⟨g1, g2, g3⟩ <;> first | omega | exact absurd g1 h1 | exact absurd h1 g1 | exact absurd g2 h2 | exact absurd h2 g2
theorem lazardCode_ok {xs : List (List Int)} (hs : PtrR σ s p vP vB) (hR : IsR vP vB W B) (szr : SzR W B) (hL : FII vL xs) (sz : SzL xs) (hk : ∀ c : Int, CodeL p W B xs c → K (.int .i64 c) σ) : PCalls Try.prog 35 [.ptr s 0, vL] σ K := by
  have hLL := hL
  obtain ⟨wl, al, rl, rfl, hrl⟩ := hL
  refine pcalls_of_vp mix Try.func35 cf35 rfl ?_
  dsimp only [if35, qI, eI, nI, qD, eD]
  simp only [pwA, if_true, if_false, eq_self, nm_eq, reduceCtorEq, ↓reduceIte, nQ10, nQ7, nQ11, nQ12, nQ16, nQ17, nQ18, iQ2, iQ3, iQ4, iQ5, iQ6, lQ19, iQ7, lQ20]
  refine lieElements_ok hs hR szr hLL sz fun t ht => ?_
  cases t
  · simp only [pwA, if_true, if_false, eq_self, nm_eq, reduceCtorEq, ↓reduceIte, nQ10, nQ7, nQ11, nQ12, nQ16, nQ17, nQ18, iQ2, iQ3, iQ4, iQ5, iQ6, lQ19, iQ7, lQ20]
    exact hk 1 (.inl ⟨fun h => (by have := ht.2 h; simp at this), rfl⟩)
  · have hl := ht.1 rfl
    simp only [pwA, if_true, if_false, eq_self, nm_eq, reduceCtorEq, ↓reduceIte, nQ10, nQ7, nQ11, nQ12, nQ16, nQ17, nQ18, iQ2, iQ3, iQ4, iQ5, iQ6, lQ19, iQ7, lQ20]
    refine isLazard_ok hs hR hl.1.1.w hl.1.1.b hl.1.1.1 fun t ht => ?_
    cases t
    · simp only [pwA, if_true, if_false, eq_self, nm_eq, reduceCtorEq, ↓reduceIte, nQ10, nQ7, nQ11, nQ12, nQ16, nQ17, nQ18, iQ2, iQ3, iQ4, iQ5, iQ6, lQ19, iQ7, lQ20]
      exact hk 5 (.inr (.inl ⟨hl, fun h => (by have := ht.2 h; simp at this), rfl⟩))
    · simp only [pwA, if_true, if_false, eq_self, nm_eq, reduceCtorEq, ↓reduceIte, nQ10, nQ7, nQ11, nQ12, nQ16, nQ17, nQ18, iQ2, iQ3, iQ4, iQ5, iQ6, lQ19, iQ7, lQ20]
      exact hk 0 (.inr (.inr ⟨hl, ht.1 rfl, rfl⟩))
theorem l33Code_ok {xs : List (List Int)} (hR : IsR vP vB W B) (szr : SzR W B) (hL : FII vL xs) (sz : SzL xs) (hk : ∀ c : Int, CodeL p W B xs c → K (.int .i64 c) σ) : PCalls Try.prog 38 [.agg [.int .i64 p, vP, vB], vL] σ K := by
  have h1 := hR.P.one
  have h2 := hR.B.one
  have hLL := hL
  obtain ⟨wl, al, rl, rfl, hrl⟩ := hL
  refine PCalls.gh ?_
  refine pcalls_of_vp mix Try.func38 cf38 rfl ?_
  dsimp only [if38, qI, eI, nI, qD, eD]
  simp only [pwA, if_true, if_false, eq_self, nm_eq, reduceCtorEq, ↓reduceIte, nQ10, nQ7, nQ11, nQ12, nQ16, nQ17, nQ18, iQ2, iQ3, iQ4, iQ5, iQ6, lQ19, iQ7, lQ20, h1, h2]
  refine l31Ring_ok hR szr fun t ht => ?_
  cases t
  · simp only [pwA, if_true, if_false, eq_self, nm_eq, reduceCtorEq, ↓reduceIte, nQ10, nQ7, nQ11, nQ12, nQ16, nQ17, nQ18, iQ2, iQ3, iQ4, iQ5, iQ6, lQ19, iQ7, lQ20]
    exact Gh.fin0 (keep_new σ _) trivial (hk 1 (.inl ⟨fun h => (by have := ht.2 h.1; simp at this), rfl⟩))
  · have hl := ht.1 rfl
    simp only [pwA, if_true, if_false, eq_self, nm_eq, reduceCtorEq, ↓reduceIte, nQ10, nQ7, nQ11, nQ12, nQ16, nQ17, nQ18, iQ2, iQ3, iQ4, iQ5, iQ6, lQ19, iQ7, lQ20, h1, h2]
    refine l32Elements_ok hR hLL sz hl.1.1.bd fun t ht => ?_
    cases t
    · simp only [pwA, if_true, if_false, eq_self, nm_eq, reduceCtorEq, ↓reduceIte, nQ10, nQ7, nQ11, nQ12, nQ16, nQ17, nQ18, iQ2, iQ3, iQ4, iQ5, iQ6, lQ19, iQ7, lQ20]
      exact Gh.fin0 (keep_new σ _) trivial (hk 1 (.inl ⟨fun h => (by have := ht.2 h.2; simp at this), rfl⟩))
    · have he := ht.1 rfl
      simp only [pwA, if_true, if_false, eq_self, nm_eq, reduceCtorEq, ↓reduceIte, nQ10, nQ7, nQ11, nQ12, nQ16, nQ17, nQ18, iQ2, iQ3, iQ4, iQ5, iQ6, lQ19, iQ7, lQ20, h1, h2]
      refine l33Is_ok hR hl.1.w hl.1.b hl.1.1 fun t ht => ?_
      cases t
      · simp only [pwA, if_true, if_false, eq_self, nm_eq, reduceCtorEq, ↓reduceIte, nQ10, nQ7, nQ11, nQ12, nQ16, nQ17, nQ18, iQ2, iQ3, iQ4, iQ5, iQ6, lQ19, iQ7, lQ20]
        exact Gh.fin0 (keep_new σ _) trivial (hk 5 (.inr (.inl ⟨⟨hl, he⟩, fun h => (by have := ht.2 h; simp at this), rfl⟩)))
      · simp only [pwA, if_true, if_false, eq_self, nm_eq, reduceCtorEq, ↓reduceIte, nQ10, nQ7, nQ11, nQ12, nQ16, nQ17, nQ18, iQ2, iQ3, iQ4, iQ5, iQ6, lQ19, iQ7, lQ20]
        exact Gh.fin0 (keep_new σ _) trivial (hk 0 (.inr (.inr ⟨⟨hl, he⟩, ht.1 rfl, rfl⟩)))
end Go.Proofs
namespace Go.Proofs
open Go.Ab Go.Lie
variable {p : Int} {n : Nat} {W : List (List Int)} {B : List (List (List Int))}
def brv (B : List (List (List Int))) (n : Nat) (f g : Vec) : Vec := fun t => sumN n fun i => sumN (n - 1 - i) fun j => (f i * g (i + 1 + j) - f (i + 1 + j) * g i) * at_ ((B.getD i []).getD j []) t
end Go.Proofs
namespace Go.Proofs
open Go.Ab Go.Lie
variable {p : Int} {n : Nat} {W : List (List Int)} {B : List (List (List Int))}
theorem unit_at {j i : Nat} (hj : j < n) : at_ (unitL n j) i = if i = j then 1 else 0 := by
  rw [unitL, at_set (by simpa using hj), at_rep]
end Go.Proofs
namespace Go.Proofs
open Go.Ab Go.Lie
variable {p : Int} {n : Nat} {W : List (List Int)} {B : List (List (List Int))}
theorem lmul_eqv (o : OkW p n W) {x : List Int} (hx : El p n x) (k : Int) : Eqv p n W (at_ (lmul p W k x)) fun j => k * at_ x j := (mul_eqv o hx k).2
end Go.Proofs
namespace Go.Grp
open Go.Ab Go.Lie
section
variable {α : Type} {S : α → Prop} {m : α → α → α} {e : α}
end
variable {O : List Int} {P : List (List Int)} {C : List (List (List Int))}
abbrev nx (x : List Int) (j : Nat) : Nat := (at_ x j).toNat
end Go.Grp
namespace Go.Grp
end Go.Grp
namespace Go.Proofs
open Go.Ab Go.Lie Go.Grp
variable {σ : PHeap} {K : PV → PHeap → Prop} {O : List Int} {P : List (List Int)} {C : List (List (List Int))} {vO vP vC vx : PV} {s : Nat} {x : List Int} {rP rC : List PV}
theorem pisAt {i : Nat} (h : i < x.length) : (pis x)[i]? = some (.int .i64 (at_ x i)) := by rw [pis_get, gi h, at_eq h]; rfl
end Go.Proofs
namespace Go.Proofs
open Go.Ab
def if3 : IFn := ⟨[0], [(.tmp 2)], (.seq (.region [0] [qI 2 (.mv (.c (.bool false)))])
  (.seq (.seq (.region [0, 19] [qI 18 (.mv (.t 0)), eI 19 (.call 6 [(.t 18)])])
  (.cond (.t 19) (.seq (.region [2] [qI 2 (.mv (.c (.bool true)))])
  .ret) .skip))
  (.seq (.region [3, 4, 5] [qI 21 (.mv (.t 0)), eI 22 (.call 7 [(.t 21)]), qI 20 (.mv (.t 22)), qI 23 (.extract (.t 20) 0), qI 24 (.extract (.t 20) 1), qI 25 (.extract (.t 20) 2), eI 3 (.alloc [(.int .i64 0), .nils, .nils]), nI (.store 3 (.t 3) (.t 23)), qI 4 (.mv (.t 24)), qI 5 (.mv (.t 25))])
  (.seq (.region [3, 4, 5, 6, 7] [qI 27 (.load true 3 (.t 3)), qI 28 (.mv (.t 4)), qI 29 (.mv (.t 5)), eI 30 (.call 8 [(.t 27), (.t 28), (.t 29)]), qI 26 (.mv (.t 30)), qI 31 (.extract (.t 26) 0), qI 32 (.extract (.t 26) 1), qI 6 (.mv (.t 31)), qI 7 (.mv (.t 32))])
  (.seq (.region [3, 4, 5, 6, 7, 8, 9] [qI 34 (.load true 3 (.t 3)), qI 35 (.mv (.t 4)), qI 36 (.mv (.t 5)), eI 37 (.call 9 [(.t 34), (.t 35), (.t 36)]), qI 33 (.mv (.t 37)), qI 38 (.extract (.t 33) 0), qI 39 (.extract (.t 33) 1), qI 8 (.mv (.t 38)), qI 9 (.mv (.t 39))])
  (.seq (.seq (.region [3, 4, 5, 7, 8, 48] [qI 40 (.mv (.t 7)), qI 41 (.mv (.t 9)), qI 42 (.bin .neq .other (.t 40) (.t 41)), qI 43 (.mv (.t 42)), ⟨(some 44), .mv (.t 6), true, (some (43, false))⟩, ⟨(some 45), .mv (.t 8), true, (some (43, false))⟩, ⟨(some 46), .call 10 [(.t 44), (.t 45)], false, (some (43, false))⟩, ⟨(some 47), .un .not (.t 46), true, (some (43, false))⟩, qI 48 (.pick (.t 43) (.c (.bool true)) (.t 47))])
  (.cond (.t 48) (.seq (.region [2] [qI 2 (.mv (.c (.bool false)))])
  .ret) .skip))
  (.seq (.seq (.region [3, 4, 5, 8, 50] [qI 49 (.mv (.t 7)), qI 50 (.bin .neq .other (.t 49) (.c (.int .i64 0)))])
  (.cond (.t 50) (.seq (.region [2] [qI 2 (.mv (.c (.bool true)))])
  .ret) .skip))
  (.seq (.region [3, 4, 5, 10, 11] [qI 52 (.load true 3 (.t 3)), qI 53 (.mv (.t 4)), qI 54 (.mv (.t 8)), eI 55 (.call 11 [(.t 52), (.t 53), (.t 54)]), qI 51 (.mv (.t 55)), qI 56 (.extract (.t 51) 0), qI 57 (.extract (.t 51) 1), qI 10 (.mv (.t 56)), qI 11 (.mv (.t 57))])
  (.seq (.region [3, 4, 5, 10, 11, 12, 13] [qI 59 (.load true 3 (.t 3)), qI 60 (.mv (.t 4)), qI 61 (.mv (.t 5)), eI 62 (.call 11 [(.t 59), (.t 60), (.t 61)]), qI 58 (.mv (.t 62)), qI 63 (.extract (.t 58) 0), qI 64 (.extract (.t 58) 1), qI 12 (.mv (.t 63)), qI 13 (.mv (.t 64))])
  (.seq (.region [3, 4, 5, 10, 11, 12, 13, 14] [qI 66 (.load true 3 (.t 3)), qI 67 (.mv (.t 4)), qI 68 (.mv (.t 5)), eI 69 (.call 12 [(.t 66), (.t 67), (.t 68)]), qI 65 (.mv (.t 69)), qI 70 (.extract (.t 65) 0), qI 71 (.extract (.t 65) 1), qI 14 (.mv (.t 70)), qI 15 (.mv (.t 71))])
  (.seq (.region [5, 10, 11, 12, 13, 14, 16, 17] [qI 73 (.load true 3 (.t 3)), qI 74 (.mv (.t 4)), qI 75 (.mv (.t 14)), eI 76 (.call 8 [(.t 73), (.t 74), (.t 75)]), qI 72 (.mv (.t 76)), qI 77 (.extract (.t 72) 0), qI 78 (.extract (.t 72) 1), qI 16 (.mv (.t 77)), qI 17 (.mv (.t 78))])
  (.seq (.region [2] [qI 79 (.mv (.t 11)), qI 80 (.bin .eql .other (.t 79) (.c (.int .i64 0))), qI 81 (.mv (.t 80)), ⟨(some 82), .mv (.t 10), true, (some (81, true))⟩, ⟨(some 83), .mv (.t 5), true, (some (81, true))⟩, ⟨(some 84), .call 10 [(.t 82), (.t 83)], false, (some (81, true))⟩, qI 85 (.pick (.t 81) (.t 84) (.c (.bool false))), qI 86 (.mv (.t 85)), ⟨(some 87), .mv (.t 13), true, (some (86, true))⟩, ⟨(some 88), .bin .eql .other (.t 87) (.c (.int .i64 0)), true, (some (86, true))⟩, qI 89 (.pick (.t 86) (.t 88) (.c (.bool false))), qI 90 (.mv (.t 89)), ⟨(some 91), .mv (.t 12), true, (some (90, true))⟩, ⟨(some 92), .mv (.t 14), true, (some (90, true))⟩, ⟨(some 93), .call 10 [(.t 91), (.t 92)], false, (some (90, true))⟩, qI 94 (.pick (.t 90) (.t 93) (.c (.bool false))), qI 95 (.mv (.t 94)), ⟨(some 96), .mv (.t 17), true, (some (95, true))⟩, ⟨(some 97), .bin .eql .other (.t 96) (.c (.int .i64 0)), true, (some (95, true))⟩, qI 98 (.pick (.t 95) (.t 97) (.c (.bool false))), qI 99 (.mv (.t 98)), ⟨(some 100), .mv (.t 16), true, (some (99, true))⟩, ⟨(some 101), .mv (.t 5), true, (some (99, true))⟩, ⟨(some 102), .call 10 [(.t 100), (.t 101)], false, (some (99, true))⟩, qI 103 (.pick (.t 99) (.t 102) (.c (.bool false))), qI 2 (.mv (.t 103))])
  .ret))))))))))))⟩
theorem cf3 : cF Try.prog Try.f3 = some if3 := by kernel_rfl
end Go.Proofs
namespace Go.Proofs.Ytpcjbkbcaiphmaa
open Go.ChangeShapes Go.WideShapes Go.ChangeAt Go.RowKit Go.Ab Go.Joins Go.Lie Go.Proofs
theorem own : ownKnob Try.prog.godebug = none := by kernel_rfl
theorem laidOut : laidOutB Try.prog = true := by kernel_rfl
variable {H : Type} {enc : TypeId × Value → H} {W w0 : World} {j : Inj} {h : AHeap}
end Go.Proofs.Ytpcjbkbcaiphmaa
