/- What a law is handed, laid as frozen values: Lie rings, lists of elements. -/
import Derived.Test.YtngdcibjjomfjaaGreatBP32
import Derived.Test.YtngdcibjjomfjaaGreatBP29
import Derived.Test.YtngdcibjjomfjaaGreatBP28
import Derived.Test.YtngdcibjjomfjaaGreatBP27
import Derived.Test.YtngdcibjjomfjaaGreatBAbPt
import Derived.Test.YtngdcibjjomfjaaGreatChecked
import Derived.Test.YtngdcibjjomfjaaGreatRows
import Derived.Lib.SmallJoins
import Derived.WalkKit
import Derived.ProofKit
set_option linter.unusedSimpArgs false
set_option linter.unusedVariables false
namespace Go.Proofs
open Go.Ab Go.Lie
variable {σ : PHeap} {K : PV → PHeap → Prop} {p p' : Int} {n : Nat} {W : List (List Int)} {B : List (List (List Int))} {vP vB vL vU vV : PV} {s : Nat}
theorem ipow_pw : ∀ n : Nat, ipow p n = pw_ p n
  | 0 => rfl
  | n + 1 => by rw [ipow, pw_, ipow_pw n, Int.mul_comm]
def Cop (p k : Int) : Prop := ∃ e t : Int, k * e = 1 + p * t
structure DivL (p : Int) (n : Nat) (W : List (List Int)) (k : Int) (x z : List Int) : Prop where
  el : El p n z
  nil : isZ x → z = x
  eqv : Cop p k → Eqv p n W (fun j => k * at_ z j) (at_ x)
theorem cop_inv {k : Int} (h : Cop p k) (hn : 0 < n) : ∃ z w : Int, k * z = 1 + w * pw_ p n := by
  obtain ⟨e, t, h⟩ := h
  obtain ⟨f, s, g⟩ := inv_one (p := p) t n hn
  exact ⟨e * f, s, by grind⟩
theorem DivL.unique (o : OkW p n W) {k : Int} {x z z' : List Int} (hx : El p n x) (h : DivL p n W k x z) (h' : DivL p n W k x z') (hk : isZ x ∨ Cop p k) : z = z' := by
  rcases hk with hk | hk
  · rw [h.nil hk, h'.nil hk]
  · rcases Nat.eq_zero_or_pos n with hn | hn
    · have e1 := h.el.1
      have e2 := h'.el.1
      rw [List.eq_nil_of_length_eq_zero (e1.trans hn), List.eq_nil_of_length_eq_zero (e2.trans hn)]
    · obtain ⟨a, w, ha⟩ := cop_inv (p := p) hk hn
      have e : Eqv p n W (fun j => k * at_ z j) (fun j => k * at_ z' j) := (h.eqv hk).trans (h'.eqv hk).symm
      have e2 := e.mul a
      have one : ∀ {v : List Int}, El p n v → Eqv p n W (fun j => a * (k * at_ v j)) (at_ v) := fun {v} hv => by
        have k1 := (kill_all o (f := at_ v) (fun j hj => hv.beyond hj)).mul w
        have k2 := (Eqv.refl (p := p) (n := n) (W := W) (at_ v)).add k1
        exact ((Eqv.of_eq fun j => by grind).trans k2).trans (Eqv.of_eq fun j => by omega)
      exact eqv_unique o h.el.1 h'.el.1 h.el.2 h'.el.2 (((one h.el).symm.trans e2).trans (one h'.el))
theorem DivL.mk' (o : OkW p n W) {k y m : Int} {x : List Int} (hx : El p n x) (hz : ¬ isZ x) (hm : Eqv p n W (fun j => m * at_ x j) fun _ => 0) (hy : Cop p k → ∃ t, k * y = 1 + t * m) : DivL p n W k x (lmul p W y x) where
  el := (mul_eqv o hx y).1
  nil := fun h => absurd h hz
  eqv := fun hk => by
    obtain ⟨t, ht⟩ := hy hk
    have k1 := (mul_eqv o hx y).2.mul k
    have k2 := (Eqv.refl (p := p) (n := n) (W := W) (at_ x)).add (hm.mul t)
    exact (k1.trans (Eqv.of_eq fun j => by grind)).trans (k2.trans (Eqv.of_eq fun j => by omega))
end Go.Proofs
namespace Go.Proofs
open Go.Ab Go.Lie
variable {σ : PHeap} {K : PV → PHeap → Prop} {p p' : Int} {n : Nat} {W : List (List Int)} {B : List (List (List Int))} {vP vB vL vU vV : PV} {s : Nat}
theorem pw_pos (hp : okp p) : ∀ k : Nat, 1 ≤ pw_ p k
  | 0 => by simp [pw_]
  | k + 1 => by
    have h := pw_pos hp k
    have := Int.mul_le_mul_of_nonneg_right (show (1 : Int) ≤ p by have := hp.1; omega) (show 0 ≤ pw_ p k by omega)
    rw [pw_]; omega
theorem pw_mono (hp : okp p) {j : Nat} : ∀ {k : Nat}, j ≤ k → pw_ p j ≤ pw_ p k
  | 0, h => by have : j = 0 := by omega
               subst this; exact Int.le_refl _
  | k + 1, h => by
    by_cases e : j = k + 1
    · subst e; exact Int.le_refl _
    · have h1 := pw_mono hp (j := j) (k := k) (by omega)
      have h2 := pw_pos hp k
      have := Int.mul_le_mul_of_nonneg_right (show (1 : Int) ≤ p by have := hp.1; omega) (show 0 ≤ pw_ p k by omega)
      have e2 : pw_ p (k + 1) = p * pw_ p k := rfl
      omega
theorem l31Order_ok {l : Nat} {w : Bool} {av : AV} {x : List Int} (hR : IsR vP vB W B) (o : OkW p n W) (hpow : ipow p n ≤ 729) (hx : El p n x) (hl : l = x.length)
    (hk : ∀ j, j ≤ n → Eqv p n W (fun i => pw_ p j * at_ x i) (fun _ => 0) → K (.int .i64 (pw_ p j)) σ) : PCalls Tryz.prog 206 [.agg [.int .i64 p, vP, vB], .fz w av l (pis x)] σ K := by
  have h1 := hR.P.one
  have h2 := hR.B.one
  have hn6 := o.le
  have hpr := o.pr
  have hpb := hpr
  unfold okp at hpb
  have hxl := hx.1
  subst hl
  refine PCalls.gh ?_
  refine pcalls_of_vp mix Tryz.func206 cf206 rfl ?_
  dsimp only [if206, qI, eI, nI, qD, eD]
  simp only [pwA, if_true, if_false, eq_self, nm_eq, reduceCtorEq, ↓reduceIte, Nat.reduceEqDiff, Nat.reduceLeDiff, Nat.reduceBEq, Nat.reduceAdd, Nat.reduceLT, Nat.reduceSub, Nat.reduceMul, Int.reduceEq, Int.reduceLT, Int.reduceLE, Int.reduceNeg, Int.reduceToNat, List.reduceReplicate, Int.ofNat_le, List.getElem?_drop, h1, h2]
  generalize hH : σ.new [.int .i64 p, vP, vB] = H
  have hHk : Keep σ H := by rw [← hH]; exact keep_new σ _
  have hb3 : H.rd σ.next 0 3 = some [.int .i64 p, vP, vB] := by rw [← hH]; simp only [pwA, if_true, if_false, eq_self, nm_eq, reduceCtorEq, ↓reduceIte, Nat.reduceEqDiff, Nat.reduceLeDiff, Nat.reduceBEq, Nat.reduceAdd, Nat.reduceLT, Nat.reduceSub, Nat.reduceMul, Int.reduceEq, Int.reduceLT, Int.reduceLE, Int.reduceNeg, Int.reduceToNat, List.reduceReplicate, Int.ofNat_le, List.getElem?_drop]
  have hb1 : H.rd1 σ.next 0 = some (.int .i64 p) := by rw [← hH]; simp only [pwA, if_true, if_false, eq_self, nm_eq, reduceCtorEq, ↓reduceIte, Nat.reduceEqDiff, Nat.reduceLeDiff, Nat.reduceBEq, Nat.reduceAdd, Nat.reduceLT, Nat.reduceSub, Nat.reduceMul, Int.reduceEq, Int.reduceLT, Int.reduceLE, Int.reduceNeg, Int.reduceToNat, List.reduceReplicate, Int.ofNat_le, List.getElem?_drop]
  refine vp_loop (fun m vs h' => ∃ (j : Nat) (y : List Int) (wy : Bool) (vy : AV), m = n - dep y ∧ j ≤ dep y ∧ vs = [.fz wy vy n (pis y), .ptr σ.next 0, .int .i64 (pw_ p j)] ∧ H = h' ∧ El p n y ∧ Eqv p n W (at_ y) fun i => pw_ p j * at_ x i) (n - dep x) ?_ ?_
  · exact ⟨0, x, w, av, rfl, by omega, by rw [hxl]; rfl, rfl, hx, Eqv.of_eq fun i => by simp [pw_]⟩
  rintro m vs h' ⟨j, y, wy, vy, rfl, hj, rfl, rfl, hy, he⟩
  have hyl := hy.1
  have hdl := dep_le y
  simp only [pwA, if_true, if_false, eq_self, nm_eq, reduceCtorEq, ↓reduceIte, Nat.reduceEqDiff, Nat.reduceLeDiff, Nat.reduceBEq, Nat.reduceAdd, Nat.reduceLT, Nat.reduceSub, Nat.reduceMul, Int.reduceEq, Int.reduceLT, Int.reduceLE, Int.reduceNeg, Int.reduceToNat, List.reduceReplicate, Int.ofNat_le, List.getElem?_drop]
  refine l01Zero_ok hyl.symm (by omega) ?_
  by_cases hz : isZ y
  · simp only [pwA, if_true, if_false, eq_self, nm_eq, reduceCtorEq, ↓reduceIte, Nat.reduceEqDiff, Nat.reduceLeDiff, Nat.reduceBEq, Nat.reduceAdd, Nat.reduceLT, Nat.reduceSub, Nat.reduceMul, Int.reduceEq, Int.reduceLT, Int.reduceLE, Int.reduceNeg, Int.reduceToNat, List.reduceReplicate, Int.ofNat_le, List.getElem?_drop, hz, decide_true]
    refine Gh.fin0 hHk trivial (hk j (by omega) (he.symm.trans (Eqv.of_eq fun i => isZ_at hz i)))
  · have hd : dep y < n := by have := not_isZ_dep hz; omega
    have hj1 : pw_ p (j + 1) ≤ pw_ p n := pw_mono hpr (by omega)
    have hj0 := pw_pos hpr (j + 1)
    rw [ipow_pw] at hpow
    have hc : pw_ p j * p = pw_ p (j + 1) := by rw [pw_, Int.mul_comm]
    have hw : IntKind.i64.wrap (pw_ p j * p) = pw_ p (j + 1) := by rw [hc]; exact wrap64 (by omega) (by omega)
    simp only [pwA, if_true, if_false, eq_self, nm_eq, reduceCtorEq, ↓reduceIte, Nat.reduceEqDiff, Nat.reduceLeDiff, Nat.reduceBEq, Nat.reduceAdd, Nat.reduceLT, Nat.reduceSub, Nat.reduceMul, Int.reduceEq, Int.reduceLT, Int.reduceLE, Int.reduceNeg, Int.reduceToNat, List.reduceReplicate, Int.ofNat_le, List.getElem?_drop, hz, decide_false, hb3, hb1]
    refine l31Mix_el hR o hy hy hyl.symm hyl.symm (by omega) (by decide) fun v1 => ?_
    have hdep := pmul_dep o hy hd
    obtain ⟨z1, z2⟩ := mul_eqv o hy p
    simp only [pwA, if_true, if_false, eq_self, nm_eq, reduceCtorEq, ↓reduceIte, Nat.reduceEqDiff, Nat.reduceLeDiff, Nat.reduceBEq, Nat.reduceAdd, Nat.reduceLT, Nat.reduceSub, Nat.reduceMul, Int.reduceEq, Int.reduceLT, Int.reduceLE, Int.reduceNeg, Int.reduceToNat, List.reduceReplicate, Int.ofNat_le, List.getElem?_drop, hb1, hw]
    refine ⟨_, ?_, j + 1, _, true, v1, rfl, by omega, rfl, z1, (z2.trans (he.mul p)).trans (Eqv.of_eq fun i => by rw [← hc]; grind)⟩
    omega
end Go.Proofs
namespace Go.Proofs
open Go.Ab Go.Lie
variable {σ : PHeap} {K : PV → PHeap → Prop} {p p' : Int} {n : Nat} {W : List (List Int)} {B : List (List (List Int))} {vP vB vL vU vV : PV} {s : Nat}
theorem l33Part_ok {l : Nat} {w : Bool} {av : AV} {k : Int} {x : List Int} (hR : IsR vP vB W B) (o : OkW p n W) (hpow : ipow p n ≤ 729) (hx : El p n x) (hl : l = x.length)
    (hk : ∀ w v z, DivL p n W k x z → K (.fz w v n (pis z)) σ) : PCalls Tryz.prog 193 [.agg [.int .i64 p, vP, vB], .fz w av l (pis x), .int .i64 k] σ K := by
  have h1 := hR.P.one
  have h2 := hR.B.one
  have hn6 := o.le
  have hpr := o.pr
  have hxl := hx.1
  subst hl
  refine PCalls.gh ?_
  refine pcalls_of_vp mix Tryz.func193 cf193 rfl ?_
  dsimp only [if193, qI, eI, nI, qD, eD]
  simp only [pwA, if_true, if_false, eq_self, nm_eq, reduceCtorEq, ↓reduceIte, Nat.reduceEqDiff, Nat.reduceLeDiff, Nat.reduceBEq, Nat.reduceAdd, Nat.reduceLT, Nat.reduceSub, Nat.reduceMul, Int.reduceEq, Int.reduceLT, Int.reduceLE, Int.reduceNeg, Int.reduceToNat, List.reduceReplicate, Int.ofNat_le, List.getElem?_drop, h1, h2]
  generalize hH : σ.new [.int .i64 p, vP, vB] = H
  have hHk : Keep σ H := by rw [← hH]; exact keep_new σ _
  have hb3 : H.rd σ.next 0 3 = some [.int .i64 p, vP, vB] := by rw [← hH]; simp only [pwA, if_true, if_false, eq_self, nm_eq, reduceCtorEq, ↓reduceIte, Nat.reduceEqDiff, Nat.reduceLeDiff, Nat.reduceBEq, Nat.reduceAdd, Nat.reduceLT, Nat.reduceSub, Nat.reduceMul, Int.reduceEq, Int.reduceLT, Int.reduceLE, Int.reduceNeg, Int.reduceToNat, List.reduceReplicate, Int.ofNat_le, List.getElem?_drop]
  refine l01Zero_ok rfl (by omega) ?_
  by_cases hz : isZ x
  · simp only [pwA, if_true, if_false, eq_self, nm_eq, reduceCtorEq, ↓reduceIte, Nat.reduceEqDiff, Nat.reduceLeDiff, Nat.reduceBEq, Nat.reduceAdd, Nat.reduceLT, Nat.reduceSub, Nat.reduceMul, Int.reduceEq, Int.reduceLT, Int.reduceLE, Int.reduceNeg, Int.reduceToNat, List.reduceReplicate, Int.ofNat_le, List.getElem?_drop, hz, decide_true]
    refine Gh.fin0 hHk trivial ?_
    rw [hxl]
    exact hk _ _ x ⟨hx, fun _ => rfl, fun _ => Eqv.of_eq fun j => by rw [isZ_at hz, Int.mul_zero]⟩
  · have hdx : dep x < n := by have := not_isZ_dep hz; omega
    simp only [pwA, if_true, if_false, eq_self, nm_eq, reduceCtorEq, ↓reduceIte, Nat.reduceEqDiff, Nat.reduceLeDiff, Nat.reduceBEq, Nat.reduceAdd, Nat.reduceLT, Nat.reduceSub, Nat.reduceMul, Int.reduceEq, Int.reduceLT, Int.reduceLE, Int.reduceNeg, Int.reduceToNat, List.reduceReplicate, Int.ofNat_le, List.getElem?_drop, hz, decide_false, hb3]
    refine l31Order_ok hR o hpow hx rfl fun j hj he => ?_
    have hj0 : j ≠ 0 := fun e => by
      subst e
      have e0 : Eqv p n W (at_ x) fun _ => 0 := (Eqv.of_eq fun i => by simp [pw_]).trans he
      have := eqv_zero o hx e0 (Nat.le_refl n) (fun _ _ => rfl) (dep x) hdx
      exact dep_ne (by omega) this
    have hm1 : pw_ p j ≤ pw_ p n := pw_mono hpr hj
    have hm2 : pw_ p 1 ≤ pw_ p j := pw_mono hpr (by omega)
    have hm3 : pw_ p 1 = p := by simp [pw_]
    rw [ipow_pw] at hpow
    have hp2 := hpr.1
    generalize hm : pw_ p j = m at *
    simp only [pwA, if_true, if_false, eq_self, nm_eq, reduceCtorEq, ↓reduceIte, Nat.reduceEqDiff, Nat.reduceLeDiff, Nat.reduceBEq, Nat.reduceAdd, Nat.reduceLT, Nat.reduceSub, Nat.reduceMul, Int.reduceEq, Int.reduceLT, Int.reduceLE, Int.reduceNeg, Int.reduceToNat, List.reduceReplicate, Int.ofNat_le, List.getElem?_drop]
    refine vp_loop (fun q vs h' => ∃ y : Int, q = (m - y).toNat ∧ 1 ≤ y ∧ y ≤ m ∧ vs = [.fz w av x.length (pis x), .int .i64 k, .ptr σ.next 0, .int .i64 m, .int .i64 y] ∧ H = h' ∧ ∀ y', 1 ≤ y' → y' < y → k % m * y' % m ≠ 1) (m - 1).toNat ?_ ?_
    · exact ⟨1, rfl, by omega, by omega, rfl, rfl, fun y' _ _ => by omega⟩
    rintro q vs h' ⟨y, rfl, hy1, hym, rfl, rfl, hall⟩
    have em1 := Int.emod_nonneg k (show m ≠ 0 by omega)
    have em2 := Int.emod_lt_of_pos k (show 0 < m by omega)
    have em := Int.mul_ediv_add_emod k m
    have fin : (Cop p k → ∃ t, k * y = 1 + t * m) → ∀ v, Gh σ K (.fz true v n (pis (lmul p W y x))) H := fun h v => Gh.fin0 hHk trivial (hk _ v _ (DivL.mk' o hx hz he h))
    by_cases hlt : y < m
    · have hb : 0 ≤ k % m * y ∧ k % m * y ≤ 531441 := by
        have a1 := Int.mul_le_mul (show k % m ≤ 729 by omega) (show y ≤ 729 by omega) (by omega) (by omega)
        have a2 := Int.mul_nonneg em1 (show 0 ≤ y by omega)
        omega
      simp only [pwA, if_true, if_false, eq_self, nm_eq, reduceCtorEq, ↓reduceIte, Nat.reduceEqDiff, Nat.reduceLeDiff, Nat.reduceBEq, Nat.reduceAdd, Nat.reduceLT, Nat.reduceSub, Nat.reduceMul, Int.reduceEq, Int.reduceLT, Int.reduceLE, Int.reduceNeg, Int.reduceToNat, List.reduceReplicate, Int.ofNat_le, List.getElem?_drop, hlt, decide_true]
      refine l01Mod_ok (by omega) (by omega) ?_
      have hmne : m ≠ 0 := by omega
      have ht : (k % m * y).tmod m = k % m * y % m := Int.tmod_eq_emod_of_nonneg hb.1
      by_cases h1 : k % m * y % m = 1
      · simp only [pwA, if_true, if_false, eq_self, nm_eq, reduceCtorEq, ↓reduceIte, Nat.reduceEqDiff, Nat.reduceLeDiff, Nat.reduceBEq, Nat.reduceAdd, Nat.reduceLT, Nat.reduceSub, Nat.reduceMul, Int.reduceEq, Int.reduceLT, Int.reduceLE, Int.reduceNeg, Int.reduceToNat, List.reduceReplicate, Int.ofNat_le, List.getElem?_drop, hlt, hmne, wrap64 (n := k % m * y) (by omega) (by omega), ht, h1, hb3]
        refine l31Mix_el hR o hx hx rfl rfl (by omega) (by decide) fun v1 => ?_
        simp only [pwA, if_true, if_false, eq_self, nm_eq, reduceCtorEq, ↓reduceIte, Nat.reduceEqDiff, Nat.reduceLeDiff, Nat.reduceBEq, Nat.reduceAdd, Nat.reduceLT, Nat.reduceSub, Nat.reduceMul, Int.reduceEq, Int.reduceLT, Int.reduceLE, Int.reduceNeg, Int.reduceToNat, List.reduceReplicate, Int.ofNat_le, List.getElem?_drop]
        refine fin (fun _ => ?_) v1
        have e := Int.mul_ediv_add_emod (k % m * y) m
        exact ⟨k % m * y / m + k / m * y, by grind⟩
      · simp only [pwA, if_true, if_false, eq_self, nm_eq, reduceCtorEq, ↓reduceIte, Nat.reduceEqDiff, Nat.reduceLeDiff, Nat.reduceBEq, Nat.reduceAdd, Nat.reduceLT, Nat.reduceSub, Nat.reduceMul, Int.reduceEq, Int.reduceLT, Int.reduceLE, Int.reduceNeg, Int.reduceToNat, List.reduceReplicate, Int.ofNat_le, List.getElem?_drop, hlt, hmne, wrap64 (n := k % m * y) (by omega) (by omega), ht, h1, wrap64 (n := y + 1) (by omega) (by omega)]
        refine ⟨_, ?_, y + 1, rfl, by omega, by omega, rfl, fun y' h2 h3 => ?_⟩
        · omega
        · by_cases e : y' = y
          · subst e; exact h1
          · exact hall y' h2 (by omega)
    · have hye : y = m := by omega
      simp only [pwA, if_true, if_false, eq_self, nm_eq, reduceCtorEq, ↓reduceIte, Nat.reduceEqDiff, Nat.reduceLeDiff, Nat.reduceBEq, Nat.reduceAdd, Nat.reduceLT, Nat.reduceSub, Nat.reduceMul, Int.reduceEq, Int.reduceLT, Int.reduceLE, Int.reduceNeg, Int.reduceToNat, List.reduceReplicate, Int.ofNat_le, List.getElem?_drop, hlt, decide_false, hb3]
      refine l31Mix_el hR o hx hx rfl rfl (by omega) (by decide) fun v1 => ?_
      simp only [pwA, if_true, if_false, eq_self, nm_eq, reduceCtorEq, ↓reduceIte, Nat.reduceEqDiff, Nat.reduceLeDiff, Nat.reduceBEq, Nat.reduceAdd, Nat.reduceLT, Nat.reduceSub, Nat.reduceMul, Int.reduceEq, Int.reduceLT, Int.reduceLE, Int.reduceNeg, Int.reduceToNat, List.reduceReplicate, Int.ofNat_le, List.getElem?_drop]
      refine fin (fun hc => ?_) v1
      exfalso
      obtain ⟨z, w', hzw⟩ := cop_inv (p := p) hc (show 0 < j by omega)
      rw [hm] at hzw
      have f1 := Int.emod_nonneg z (show m ≠ 0 by omega)
      have f2 := Int.emod_lt_of_pos z (show 0 < m by omega)
      have f3 := Int.mul_ediv_add_emod z m
      have hone : k % m * (z % m) % m = 1 := by
        have e1 : k % m * (z % m) = 1 + (w' - k / m * z - k % m * (z / m)) * m := by grind
        rw [e1, Int.add_mul_emod_self_right]
        exact Int.emod_eq_of_lt (by omega) (by omega)
      have hz0 : z % m ≠ 0 := fun e => by
        rw [e, Int.mul_zero, Int.zero_emod] at hone
        omega
      exact hall (z % m) (by omega) (by omega) hone
end Go.Proofs
namespace Go.Proofs
open Go.Ab Go.Lie
variable {σ : PHeap} {K : PV → PHeap → Prop} {p p' : Int} {n : Nat} {W : List (List Int)} {B : List (List (List Int))} {vP vB vL vU vV : PV} {s : Nat}
def CodeL (p : Int) (W : List (List Int)) (B : List (List (List Int))) (xs : List (List Int)) (c : Int) : Prop :=
  (¬ (isLie p W B ∧ Els p W.length xs) ∧ c = 1) ∨ ((isLie p W B ∧ Els p W.length xs) ∧ ¬ isLz p W.length W B ∧ c = 5) ∨ ((isLie p W B ∧ Els p W.length xs) ∧ isLz p W.length W B ∧ c = 0)
theorem CodeL.unique {xs : List (List Int)} {c d : Int} (h : CodeL p W B xs c) (g : CodeL p W B xs d) : c = d := by
  rcases h with ⟨h1, h2⟩ | ⟨h1, h2, h3⟩ | ⟨h1, h2, h3⟩ <;> rcases g with ⟨g1, g2⟩ | ⟨g1, g2, g3⟩ | ⟨g1, g2, g3⟩ <;> first | omega | exact absurd g1 h1 | exact absurd h1 g1 | exact absurd g2 h2 | exact absurd h2 g2
theorem lazardCode_ok {xs : List (List Int)} (hs : PtrR σ s p vP vB) (hR : IsR vP vB W B) (szr : SzR W B) (hL : FII vL xs) (sz : SzL xs) (hk : ∀ c : Int, CodeL p W B xs c → K (.int .i64 c) σ) : PCalls Tryz.prog 34 [.ptr s 0, vL] σ K := by
  have hLL := hL
  obtain ⟨wl, al, rl, rfl, hrl⟩ := hL
  refine pcalls_of_vp mix Tryz.func34 cf34 rfl ?_
  dsimp only [if34, qI, eI, nI, qD, eD]
  simp only [pwA, if_true, if_false, eq_self, nm_eq, reduceCtorEq, ↓reduceIte, Nat.reduceEqDiff, Nat.reduceLeDiff, Nat.reduceBEq, Nat.reduceAdd, Nat.reduceLT, Nat.reduceSub, Nat.reduceMul, Int.reduceEq, Int.reduceLT, Int.reduceLE, Int.reduceNeg, Int.reduceToNat, List.reduceReplicate, Int.ofNat_le, List.getElem?_drop]
  refine lieElements_ok hs hR szr hLL sz fun t ht => ?_
  cases t
  · simp only [pwA, if_true, if_false, eq_self, nm_eq, reduceCtorEq, ↓reduceIte, Nat.reduceEqDiff, Nat.reduceLeDiff, Nat.reduceBEq, Nat.reduceAdd, Nat.reduceLT, Nat.reduceSub, Nat.reduceMul, Int.reduceEq, Int.reduceLT, Int.reduceLE, Int.reduceNeg, Int.reduceToNat, List.reduceReplicate, Int.ofNat_le, List.getElem?_drop]
    exact hk 1 (.inl ⟨fun h => (by have := ht.2 h; simp at this), rfl⟩)
  · have hl := ht.1 rfl
    simp only [pwA, if_true, if_false, eq_self, nm_eq, reduceCtorEq, ↓reduceIte, Nat.reduceEqDiff, Nat.reduceLeDiff, Nat.reduceBEq, Nat.reduceAdd, Nat.reduceLT, Nat.reduceSub, Nat.reduceMul, Int.reduceEq, Int.reduceLT, Int.reduceLE, Int.reduceNeg, Int.reduceToNat, List.reduceReplicate, Int.ofNat_le, List.getElem?_drop]
    refine isLazard_ok hs hR hl.1.1.w hl.1.1.b hl.1.1.1 fun t ht => ?_
    cases t
    · simp only [pwA, if_true, if_false, eq_self, nm_eq, reduceCtorEq, ↓reduceIte, Nat.reduceEqDiff, Nat.reduceLeDiff, Nat.reduceBEq, Nat.reduceAdd, Nat.reduceLT, Nat.reduceSub, Nat.reduceMul, Int.reduceEq, Int.reduceLT, Int.reduceLE, Int.reduceNeg, Int.reduceToNat, List.reduceReplicate, Int.ofNat_le, List.getElem?_drop]
      exact hk 5 (.inr (.inl ⟨hl, fun h => (by have := ht.2 h; simp at this), rfl⟩))
    · simp only [pwA, if_true, if_false, eq_self, nm_eq, reduceCtorEq, ↓reduceIte, Nat.reduceEqDiff, Nat.reduceLeDiff, Nat.reduceBEq, Nat.reduceAdd, Nat.reduceLT, Nat.reduceSub, Nat.reduceMul, Int.reduceEq, Int.reduceLT, Int.reduceLE, Int.reduceNeg, Int.reduceToNat, List.reduceReplicate, Int.ofNat_le, List.getElem?_drop]
      exact hk 0 (.inr (.inr ⟨hl, ht.1 rfl, rfl⟩))
theorem l33Code_ok {xs : List (List Int)} (hR : IsR vP vB W B) (szr : SzR W B) (hL : FII vL xs) (sz : SzL xs) (hk : ∀ c : Int, CodeL p W B xs c → K (.int .i64 c) σ) : PCalls Tryz.prog 31 [.agg [.int .i64 p, vP, vB], vL] σ K := by
  have h1 := hR.P.one
  have h2 := hR.B.one
  have hLL := hL
  obtain ⟨wl, al, rl, rfl, hrl⟩ := hL
  refine PCalls.gh ?_
  refine pcalls_of_vp mix Tryz.func31 cf31 rfl ?_
  dsimp only [if31, qI, eI, nI, qD, eD]
  simp only [pwA, if_true, if_false, eq_self, nm_eq, reduceCtorEq, ↓reduceIte, Nat.reduceEqDiff, Nat.reduceLeDiff, Nat.reduceBEq, Nat.reduceAdd, Nat.reduceLT, Nat.reduceSub, Nat.reduceMul, Int.reduceEq, Int.reduceLT, Int.reduceLE, Int.reduceNeg, Int.reduceToNat, List.reduceReplicate, Int.ofNat_le, List.getElem?_drop, h1, h2]
  refine l31Ring_ok hR szr fun t ht => ?_
  cases t
  · simp only [pwA, if_true, if_false, eq_self, nm_eq, reduceCtorEq, ↓reduceIte, Nat.reduceEqDiff, Nat.reduceLeDiff, Nat.reduceBEq, Nat.reduceAdd, Nat.reduceLT, Nat.reduceSub, Nat.reduceMul, Int.reduceEq, Int.reduceLT, Int.reduceLE, Int.reduceNeg, Int.reduceToNat, List.reduceReplicate, Int.ofNat_le, List.getElem?_drop]
    exact Gh.fin0 (keep_new σ _) trivial (hk 1 (.inl ⟨fun h => (by have := ht.2 h.1; simp at this), rfl⟩))
  · have hl := ht.1 rfl
    simp only [pwA, if_true, if_false, eq_self, nm_eq, reduceCtorEq, ↓reduceIte, Nat.reduceEqDiff, Nat.reduceLeDiff, Nat.reduceBEq, Nat.reduceAdd, Nat.reduceLT, Nat.reduceSub, Nat.reduceMul, Int.reduceEq, Int.reduceLT, Int.reduceLE, Int.reduceNeg, Int.reduceToNat, List.reduceReplicate, Int.ofNat_le, List.getElem?_drop, h1, h2]
    refine l32Elements_ok hR hLL sz hl.1.1.bd fun t ht => ?_
    cases t
    · simp only [pwA, if_true, if_false, eq_self, nm_eq, reduceCtorEq, ↓reduceIte, Nat.reduceEqDiff, Nat.reduceLeDiff, Nat.reduceBEq, Nat.reduceAdd, Nat.reduceLT, Nat.reduceSub, Nat.reduceMul, Int.reduceEq, Int.reduceLT, Int.reduceLE, Int.reduceNeg, Int.reduceToNat, List.reduceReplicate, Int.ofNat_le, List.getElem?_drop]
      exact Gh.fin0 (keep_new σ _) trivial (hk 1 (.inl ⟨fun h => (by have := ht.2 h.2; simp at this), rfl⟩))
    · have he := ht.1 rfl
      simp only [pwA, if_true, if_false, eq_self, nm_eq, reduceCtorEq, ↓reduceIte, Nat.reduceEqDiff, Nat.reduceLeDiff, Nat.reduceBEq, Nat.reduceAdd, Nat.reduceLT, Nat.reduceSub, Nat.reduceMul, Int.reduceEq, Int.reduceLT, Int.reduceLE, Int.reduceNeg, Int.reduceToNat, List.reduceReplicate, Int.ofNat_le, List.getElem?_drop, h1, h2]
      refine l33Is_ok hR hl.1.w hl.1.b hl.1.1 fun t ht => ?_
      cases t
      · simp only [pwA, if_true, if_false, eq_self, nm_eq, reduceCtorEq, ↓reduceIte, Nat.reduceEqDiff, Nat.reduceLeDiff, Nat.reduceBEq, Nat.reduceAdd, Nat.reduceLT, Nat.reduceSub, Nat.reduceMul, Int.reduceEq, Int.reduceLT, Int.reduceLE, Int.reduceNeg, Int.reduceToNat, List.reduceReplicate, Int.ofNat_le, List.getElem?_drop]
        exact Gh.fin0 (keep_new σ _) trivial (hk 5 (.inr (.inl ⟨⟨hl, he⟩, fun h => (by have := ht.2 h; simp at this), rfl⟩)))
      · simp only [pwA, if_true, if_false, eq_self, nm_eq, reduceCtorEq, ↓reduceIte, Nat.reduceEqDiff, Nat.reduceLeDiff, Nat.reduceBEq, Nat.reduceAdd, Nat.reduceLT, Nat.reduceSub, Nat.reduceMul, Int.reduceEq, Int.reduceLT, Int.reduceLE, Int.reduceNeg, Int.reduceToNat, List.reduceReplicate, Int.ofNat_le, List.getElem?_drop]
        exact Gh.fin0 (keep_new σ _) trivial (hk 0 (.inr (.inr ⟨⟨hl, he⟩, ht.1 rfl, rfl⟩)))
end Go.Proofs
namespace Go.Proofs
open Go.Ab Go.Lie
variable {p : Int} {n : Nat} {W : List (List Int)} {B : List (List (List Int))}
def brv (B : List (List (List Int))) (n : Nat) (f g : Vec) : Vec := fun t => sumN n fun i => sumN (n - 1 - i) fun j => (f i * g (i + 1 + j) - f (i + 1 + j) * g i) * at_ ((B.getD i []).getD j []) t
theorem bsum_brv (q : OkB p n B) (a b : List Int) (t : Nat) : at_ (bsum B a b n) t = brv B n (at_ a) (at_ b) t := bi_at q t (Nat.le_refl _)
theorem brv_add (f f' g : Vec) (t : Nat) : brv B n (fun j => f j + f' j) g t = brv B n f g t + brv B n f' g t := by
  simp only [brv]
  rw [← sumN_add]
  refine sumN_congr fun i _ => ?_
  rw [← sumN_add]
  refine sumN_congr fun j _ => ?_
  grind
theorem brv_mul (k : Int) (f g : Vec) (t : Nat) : brv B n (fun j => k * f j) g t = k * brv B n f g t := by
  simp only [brv]
  rw [← sumN_mul]
  refine sumN_congr fun i _ => ?_
  rw [← sumN_mul]
  refine sumN_congr fun j _ => ?_
  grind
theorem brv_anti (f g : Vec) (t : Nat) : brv B n f g t = -1 * brv B n g f t := by
  simp only [brv]
  rw [← sumN_mul]
  refine sumN_congr fun i _ => ?_
  rw [← sumN_mul]
  refine sumN_congr fun j _ => ?_
  grind
theorem brv_congr {f f' g g' : Vec} (h : ∀ j, j < n → f j = f' j) (h' : ∀ j, j < n → g j = g' j) (t : Nat) : brv B n f g t = brv B n f' g' t := by
  simp only [brv]
  refine sumN_congr fun i hi => sumN_congr fun j hj => ?_
  rw [h i hi, h _ (by omega : i + 1 + j < n), h' i hi, h' _ (by omega : i + 1 + j < n)]
theorem brv_sum (g : Vec) (t : Nat) : ∀ (m : Nat) (F : Nat → Vec), brv B n (fun j => sumN m fun k => F k j) g t = sumN m fun k => brv B n (F k) g t
  | 0, F => by
    simp only [sumN]
    have := brv_mul (B := B) (n := n) 0 (fun _ => 0) g t
    simpa using this
  | m + 1, F => by
    simp only [sumN]
    rw [brv_add, brv_sum g t m F]
end Go.Proofs
namespace Go.Proofs
open Go.Ab Go.Lie
variable {p : Int} {n : Nat} {W : List (List Int)} {B : List (List (List Int))}
theorem eqv_sum0 : ∀ (m : Nat) (F : Nat → Vec), (∀ k, k < m → Eqv p n W (F k) fun _ => 0) → Eqv p n W (fun j => sumN m fun k => F k j) fun _ => 0
  | 0, F, _ => Eqv.of_eq fun j => rfl
  | m + 1, F, h => ((eqv_sum0 m F fun k hk => h k (by omega)).add (h m (by omega))).trans (Eqv.of_eq fun j => rfl)
theorem unit_at {j i : Nat} (hj : j < n) : at_ (unitL n j) i = if i = j then 1 else 0 := by
  rw [unitL, at_set (by simpa using hj), at_rep]
theorem vec_sum (g : Vec) {i : Nat} (hi : i < n) : g i = sumN n fun k => g k * at_ (unitL n k) i := by
  rw [sumN_one hi fun k hk hne => by rw [unit_at hk, if_neg (fun e => hne e.symm), Int.mul_zero]]
  rw [unit_at hi, if_pos rfl, Int.mul_one]
theorem brv_rel (o : OkW p n W) (q : OkB p n B) (nf : NoFault p W B n) {i : Nat} (hi : i < n) (g : Vec) : Eqv p n W (brv B n (rel p W i) g) fun _ => 0 := by
  have one : ∀ j, j < n → Eqv p n W (brv B n (rel p W i) (at_ (unitL n j))) fun _ => 0 := fun j hj => by
    have hF := nf.1 i j hi hj
    unfold F1 at hF
    have ha := (mul_eqv o (br_el o q (a := unitL n i) (b := unitL n j)) p).2
    have hb : Eqv p n W (at_ (br p W B n (unitL n i) (unitL n j))) (at_ (bsum B (unitL n i) (unitL n j) n)) := norm_eqv o (bsum_length q)
    have hc : Eqv p n W (at_ (br p W B n (W.getD i []) (unitL n j))) (at_ (bsum B (W.getD i []) (unitL n j) n)) := norm_eqv o (bsum_length q)
    rw [← hF] at hc
    have hd : Eqv p n W (fun t => p * at_ (bsum B (unitL n i) (unitL n j) n) t) (at_ (bsum B (W.getD i []) (unitL n j) n)) := ((hb.mul p).symm.trans ha.symm).trans hc
    have he := hd.symm.add (Eqv.refl (p := p) (n := n) (W := W) fun t => -1 * (p * at_ (bsum B (unitL n i) (unitL n j) n) t))
    refine (Eqv.of_eq fun t => ?_).trans (he.trans (Eqv.of_eq fun t => by grind))
    rw [bsum_brv q, bsum_brv q, ← brv_mul, ← brv_mul, ← brv_add]
    refine brv_congr (fun k hk => ?_) (fun _ _ => rfl) t
    rw [unit_at hi, rel]
    by_cases e : k = i
    · rw [if_pos e, if_pos e]; grind
    · rw [if_neg e, if_neg e]; grind
  refine (Eqv.of_eq fun t => ?_).trans (eqv_sum0 n (fun k t => g k * brv B n (rel p W i) (at_ (unitL n k)) t) fun k hk => ((one k hk).mul (g k)).trans (Eqv.of_eq fun t => by grind))
  rw [brv_anti, brv_congr (f' := fun j => sumN n fun k => g k * at_ (unitL n k) j) (g' := rel p W i) (fun j hj => vec_sum g hj) (fun _ _ => rfl), brv_sum (t := t) (g := rel p W i) n (fun k j => g k * at_ (unitL n k) j), ← sumN_mul]
  refine sumN_congr fun k hk => ?_
  rw [brv_mul, brv_anti (f := at_ (unitL n k))]
  grind
theorem brv_eqv (o : OkW p n W) (q : OkB p n B) (nf : NoFault p W B n) {f f' : Vec} (g : Vec) (h : Eqv p n W f f') : Eqv p n W (brv B n f g) (brv B n f' g) := by
  obtain ⟨c, hc⟩ := h
  have h0 := eqv_sum0 n (fun i t => c i * brv B n (rel p W i) g t) fun k hk => ((brv_rel o q nf hk g).mul (c k)).trans (Eqv.of_eq fun t => by grind)
  refine (Eqv.of_eq fun t => ?_).trans (((Eqv.refl (brv B n f' g)).add h0).trans (Eqv.of_eq fun t => by grind))
  rw [brv_congr (f' := fun j => f' j + sumN n fun i => c i * rel p W i j) (g' := g) (fun j _ => hc j) (fun _ _ => rfl), brv_add, brv_sum (t := t) (g := g) n (fun i j => c i * rel p W i j)]
  congr 1
  exact sumN_congr fun k hk => by rw [brv_mul]
theorem brv_eqv2 (o : OkW p n W) (q : OkB p n B) (nf : NoFault p W B n) {g g' : Vec} (f : Vec) (h : Eqv p n W g g') : Eqv p n W (brv B n f g) (brv B n f g') :=
  ((Eqv.of_eq fun t => brv_anti f g t).trans ((brv_eqv o q nf f h).mul (-1))).trans (Eqv.of_eq fun t => (brv_anti f g' t).symm)
end Go.Proofs
namespace Go.Proofs
open Go.Ab Go.Lie
variable {p : Int} {n : Nat} {W : List (List Int)} {B : List (List (List Int))}
theorem br_eqv (o : OkW p n W) (q : OkB p n B) (a b : List Int) : Eqv p n W (at_ (br p W B n a b)) (brv B n (at_ a) (at_ b)) :=
  (norm_eqv o (bsum_length q)).trans (Eqv.of_eq fun t => bsum_brv q a b t)
theorem lmul_eqv (o : OkW p n W) {x : List Int} (hx : El p n x) (k : Int) : Eqv p n W (at_ (lmul p W k x)) fun j => k * at_ x j := (mul_eqv o hx k).2
theorem ladd_eqv (o : OkW p n W) {x y : List Int} (hx : El p n x) (hy : El p n y) : Eqv p n W (at_ (ladd p W x y)) fun j => at_ x j + at_ y j :=
  (norm_eqv o (by rw [lmix_length (hx.1.trans hy.1.symm)]; exact hx.1)).trans (Eqv.of_eq fun j => by rw [lmix_at (hx.1.trans hy.1.symm)]; omega)
theorem brv_mul2 (k : Int) (f g : Vec) (t : Nat) : brv B n f (fun j => k * g j) t = k * brv B n f g t := by
  rw [brv_anti, brv_mul, brv_anti g f]; grind
theorem third (o : OkW p n W) (q : OkB p n B) (nf : NoFault p W B n) {x y b : List Int} (hb : El p n b) :
    ladd p W (br p W B n x b) (br p W B n y (lmul p W (-1) b)) = norm p W (lmix 1 (br p W B n x b) (-1) (br p W B n y b)) := by
  have e1 : El p n (br p W B n x b) := br_el o q
  have e2 : El p n (br p W B n y b) := br_el o q
  have e3 : El p n (br p W B n y (lmul p W (-1) b)) := br_el o q
  have k1 : Eqv p n W (at_ (br p W B n y (lmul p W (-1) b))) fun j => -1 * at_ (br p W B n y b) j :=
    (br_eqv o q _ _).trans (((brv_eqv2 o q nf (at_ y) (lmul_eqv o hb (-1))).trans (Eqv.of_eq fun t => brv_mul2 (-1) _ _ t)).trans ((br_eqv o q y b).symm.mul (-1)))
  refine norm_congr o (by rw [lmix_length (e1.1.trans e3.1.symm)]; exact e1.1) (by rw [lmix_length (e1.1.trans e2.1.symm)]; exact e1.1) ?_
  refine (Eqv.of_eq fun j => ?_).trans (((Eqv.refl (at_ (br p W B n x b))).add k1).trans (Eqv.of_eq fun j => ?_))
  · rw [lmix_at (e1.1.trans e3.1.symm)]; omega
  · rw [lmix_at (e1.1.trans e2.1.symm)]; omega
end Go.Proofs
namespace Go.Proofs
open Go.Ab Go.Lie
variable {p : Int} {n : Nat} {W : List (List Int)} {B : List (List (List Int))}
theorem brv_units (g f : Vec) (t : Nat) : brv B n f g t = sumN n fun k => g k * brv B n f (at_ (unitL n k)) t := by
  rw [brv_anti, brv_congr (f' := fun j => sumN n fun k => g k * at_ (unitL n k) j) (g' := f) (fun j hj => vec_sum g hj) (fun _ _ => rfl), brv_sum (t := t) (g := f) n (fun k j => g k * at_ (unitL n k) j), ← sumN_mul]
  refine sumN_congr fun k hk => ?_
  rw [brv_mul, brv_anti (f := at_ (unitL n k))]
  grind
theorem gen_br (o : OkW p n W) (q : OkB p n B) (nf : NoFault p W B n) {u : List (List Int)} {f : Vec} (hf : Gen p n W u f) : ∀ g : Vec, Gen p n W (brL p W B n u (units n)) (brv B n f g) := by
  have hS := gen_sub (p := p) (n := n) (W := W) (brL p W B n u (units n))
  refine gen_le (S := fun f => ∀ g : Vec, Gen p n W (brL p W B n u (units n)) (brv B n f g)) ⟨fun g => ?_, fun f f' h h' g => ?_, fun k f h g => ?_, fun f f' h h' g => ?_⟩ (fun v hv g => ?_) hf
  · refine hS.eqv _ _ (Eqv.of_eq fun t => ?_) hS.zero
    have := brv_mul (B := B) (n := n) 0 (fun _ => 0) g t
    simpa using this
  · exact hS.eqv _ _ (Eqv.of_eq fun t => brv_add f f' g t) (hS.add _ _ (h g) (h' g))
  · exact hS.eqv _ _ (Eqv.of_eq fun t => brv_mul k f g t) (hS.mul k _ (h g))
  · exact hS.eqv _ _ (brv_eqv o q nf g h) (h' g)
  · refine hS.eqv _ _ (Eqv.of_eq fun t => brv_units g (at_ v) t) (hS.sum fun k hk => hS.mul (g k) _ ?_)
    refine hS.eqv _ _ (br_eqv o q v (unitL n k)).symm (gen_mem (List.mem_flatMap.2 ⟨v, hv, List.mem_map.2 ⟨unitL n k, ?_, rfl⟩⟩))
    exact List.mem_map.2 ⟨k, List.mem_range.2 hk, rfl⟩
theorem gen_units (o : OkW p n W) {x : List Int} (hx : El p n x) : Gen p n W (units n) (at_ x) := by
  have hS := gen_sub (p := p) (n := n) (W := W) (units n)
  refine hS.eqv _ _ (Eqv.of_eq fun t => ?_) (hS.sum (m := n) (F := fun k j => at_ x k * at_ (unitL n k) j) fun k hk => hS.mul (at_ x k) _ (gen_mem (List.mem_map.2 ⟨k, List.mem_range.2 hk, rfl⟩)))
  rcases Nat.lt_or_ge t n with h | h
  · exact vec_sum (at_ x) h
  · rw [hx.beyond h, sumN_zero]
    intro k hk
    rw [unit_at hk, if_neg (by omega), Int.mul_zero]
end Go.Proofs
namespace Go.Proofs
open Go.Ab Go.Lie
variable {p : Int} {n : Nat} {W : List (List Int)} {B : List (List (List Int))}
theorem low_gen (o : OkW p n W) (q : OkB p n B) (nf : NoFault p W B n) {u out : List (List Int)} (hc : Canon p n W (brL p W B n u (units n)) out) {f : Vec} (hf : Gen p n W u f) (g : Vec) : Gen p n W out (brv B n f g) :=
  (hc.gen _).1 (gen_br o q nf hf g)
theorem cls_low (o : OkW p n W) (q : OkB p n B) {c : Nat} (h : Cls p n W B c) : ∀ k, ∃ u, Low p n W B k u ∧ (c ≤ k → u = []) ∨ k < c := fun k => by
  rcases Nat.lt_or_ge k c with x | x
  · exact ⟨[], .inr x⟩
  · obtain ⟨d, rfl⟩ : ∃ d, k = c + d := ⟨k - c, by omega⟩
    have : Low p n W B (c + d) [] := by
      clear x
      induction d with
      | zero => exact h.1
      | succ d ih =>
        refine .succ ih ?_
        have hb : brL p W B n [] (units n) = [] := rfl
        rw [hb]
        exact ⟨.nil, List.Pairwise.nil, fun f => Iff.rfl⟩
    exact ⟨[], .inl ⟨this, fun _ => rfl⟩⟩
theorem zero_of_eqv (o : OkW p n W) {z : List Int} (hz : El p n z) (h : Eqv p n W (at_ z) fun _ => 0) : isZ z := by
  have h1 := eqv_zero o hz h (Nat.le_refl n) fun _ _ => rfl
  intro x hx
  obtain ⟨j, hj, rfl⟩ := List.mem_iff_getElem.1 hx
  rw [← at_eq hj]
  exact h1 j (by rw [← hz.1]; exact hj)
end Go.Proofs
namespace Go.Grp
end Go.Grp
namespace Go.Proofs
open Go.Ab Go.Lie Go.Grp
variable {σ : PHeap} {K : PV → PHeap → Prop} {O : List Int} {P : List (List Int)} {C : List (List (List Int))} {vO vP vC vx : PV} {s : Nat} {x : List Int}
structure IsPr (vO vP vC : PV) (O : List Int) (P : List (List Int)) (C : List (List (List Int))) : Prop where
  O : FI vO O
  P : FII vP P
  C : FIII vC C
structure SzP (O : List Int) (P : List (List Int)) (C : List (List (List Int))) : Prop where
  O : O.length ≤ 1048576
  P : SzL P
  C : SzM C
end Go.Proofs
namespace Go.Grp
end Go.Grp
namespace Go.Proofs
open Go.Ab Go.Lie Go.Grp
variable {σ : PHeap} {K : PV → PHeap → Prop} {O O' : List Int} {P P' : List (List Int)} {C C' : List (List (List Int))} {vO vP vC vO' vP' vC' : PV}
theorem eqPresentation_ok (hR : IsPr vO vP vC O P C) (hR' : IsPr vO' vP' vC' O' P' C') (sz : SzP O P C) (hk : ∀ t : Bool, (t = true ↔ O = O' ∧ P = P' ∧ C = C') → K (.bool t) σ) : PCalls Tryz.prog 11 [.agg [vO, vP, vC], .agg [vO', vP', vC']] σ K := by
  have h0 := hR.O.one
  have h1 := hR.P.one
  have h2 := hR.C.one
  have h0' := hR'.O.one
  have h1' := hR'.P.one
  have h2' := hR'.C.one
  refine PCalls.gh ?_
  have hkp : Keep σ ((σ.new [vO, vP, vC]).new [vO', vP', vC']) := (keep_new σ _).new _
  have fin : ∀ {t : Bool}, (t = true ↔ O = O' ∧ P = P' ∧ C = C') → Gh σ K (.bool t) ((σ.new [vO, vP, vC]).new [vO', vP', vC']) := fun h => Gh.fin0 hkp trivial (hk _ h)
  have fl : ∀ {A : Prop}, ¬ A → ((false = true) ↔ A) := fun h => ⟨fun x => (by cases x), fun x => absurd x h⟩
  refine pcalls_of_vp mix Tryz.func11 cf11 rfl ?_
  dsimp only [if11, qI, eI, nI, qD, eD]
  simp only [pwA, if_true, if_false, eq_self, nm_eq, reduceCtorEq, ↓reduceIte, Nat.reduceEqDiff, Nat.reduceLeDiff, Nat.reduceBEq, Nat.reduceAdd, Nat.reduceLT, Nat.reduceSub, Nat.reduceMul, Int.reduceEq, Int.reduceLT, Int.reduceLE, Int.reduceNeg, Int.reduceToNat, List.reduceReplicate, Int.ofNat_le, List.getElem?_drop, h0, h1, h2, h0', h1', h2']
  refine eqInt64S_ok hR.O hR'.O (by have := sz.O; omega) ?_
  by_cases ho : O = O'
  rotate_left
  · simp only [pwA, if_true, if_false, eq_self, nm_eq, reduceCtorEq, ↓reduceIte, Nat.reduceEqDiff, Nat.reduceLeDiff, Nat.reduceBEq, Nat.reduceAdd, Nat.reduceLT, Nat.reduceSub, Nat.reduceMul, Int.reduceEq, Int.reduceLT, Int.reduceLE, Int.reduceNeg, Int.reduceToNat, List.reduceReplicate, Int.ofNat_le, List.getElem?_drop, ho]
    exact fin (fl fun h => ho h.1)
  simp only [pwA, if_true, if_false, eq_self, nm_eq, reduceCtorEq, ↓reduceIte, Nat.reduceEqDiff, Nat.reduceLeDiff, Nat.reduceBEq, Nat.reduceAdd, Nat.reduceLT, Nat.reduceSub, Nat.reduceMul, Int.reduceEq, Int.reduceLT, Int.reduceLE, Int.reduceNeg, Int.reduceToNat, List.reduceReplicate, Int.ofNat_le, List.getElem?_drop, eq_true ho, h0, h1, h2, h0', h1', h2']
  refine eqInt64SS_ok hR.P hR'.P sz.P fun t ht => ?_
  cases t with
  | false =>
    simp only [pwA, if_true, if_false, eq_self, nm_eq, reduceCtorEq, ↓reduceIte, Nat.reduceEqDiff, Nat.reduceLeDiff, Nat.reduceBEq, Nat.reduceAdd, Nat.reduceLT, Nat.reduceSub, Nat.reduceMul, Int.reduceEq, Int.reduceLT, Int.reduceLE, Int.reduceNeg, Int.reduceToNat, List.reduceReplicate, Int.ofNat_le, List.getElem?_drop]
    exact fin (fl fun h => by cases ht.2 h.2.1)
  | true =>
  simp only [pwA, if_true, if_false, eq_self, nm_eq, reduceCtorEq, ↓reduceIte, Nat.reduceEqDiff, Nat.reduceLeDiff, Nat.reduceBEq, Nat.reduceAdd, Nat.reduceLT, Nat.reduceSub, Nat.reduceMul, Int.reduceEq, Int.reduceLT, Int.reduceLE, Int.reduceNeg, Int.reduceToNat, List.reduceReplicate, Int.ofNat_le, List.getElem?_drop, h0, h1, h2, h0', h1', h2']
  refine eqInt64SSS_ok hR.C hR'.C sz.C fun t ht' => ?_
  have := fin (t := t) ⟨fun h => ⟨ho, ht.1 rfl, ht'.1 h⟩, fun h => ht'.2 h.2.2⟩
  cases t with
  | false =>
    simp only [pwA, if_true, if_false, eq_self, nm_eq, reduceCtorEq, ↓reduceIte, Nat.reduceEqDiff, Nat.reduceLeDiff, Nat.reduceBEq, Nat.reduceAdd, Nat.reduceLT, Nat.reduceSub, Nat.reduceMul, Int.reduceEq, Int.reduceLT, Int.reduceLE, Int.reduceNeg, Int.reduceToNat, List.reduceReplicate, Int.ofNat_le, List.getElem?_drop]
    exact this
  | true =>
    simp only [pwA, if_true, if_false, eq_self, nm_eq, reduceCtorEq, ↓reduceIte, Nat.reduceEqDiff, Nat.reduceLeDiff, Nat.reduceBEq, Nat.reduceAdd, Nat.reduceLT, Nat.reduceSub, Nat.reduceMul, Int.reduceEq, Int.reduceLT, Int.reduceLE, Int.reduceNeg, Int.reduceToNat, List.reduceReplicate, Int.ofNat_le, List.getElem?_drop]
    exact this
end Go.Proofs
namespace Go.Proofs
open Go.Ab
def if3 : IFn := ⟨[0], [(.tmp 2)], (.seq (.region [1] [eI 1 (.box (.t 0)), qI 2 (.mv (.c (.bool false)))])
  (.seq (.region [1, 3] [qI 3 (.mv (.c (.int .i64 1048576)))])
  (.seq (.region [1, 3] [qI 14 (.load true 3 (.t 1)), qI 15 (.mv (.t 3)), eI 16 (.call 7 [(.t 14), (.t 15)]), qI 3 (.mv (.t 16))])
  (.seq (.seq (.region [1, 18] [qI 17 (.mv (.t 3)), qI 18 (.bin .lss .other (.t 17) (.c (.int .i64 0)))])
  (.cond (.t 18) (.seq (.region [2] [qI 2 (.mv (.c (.bool true)))])
  .ret) .skip))
  (.seq (.region [1, 4, 5] [qI 20 (.load true 3 (.t 1)), eI 21 (.call 9 [(.t 20)]), eI 22 (.call 8 [(.t 21)]), qI 19 (.mv (.t 22)), qI 23 (.extract (.t 19) 0), qI 24 (.extract (.t 19) 1), eI 4 (.alloc [.nils, .nils, .nils]), nI (.store 3 (.t 4) (.t 23)), qI 5 (.mv (.t 24))])
  (.seq (.region [1, 4, 5, 6] [qI 25 (.load true 3 (.t 1)), eI 26 (.call 9 [(.t 25)]), eI 6 (.alloc [(.int .i64 0), .nils, .nils]), nI (.store 3 (.t 6) (.t 26))])
  (.seq (.region [1, 4, 5, 6, 7, 8] [qI 28 (.load true 3 (.t 6)), eI 29 (.call 10 [(.t 28)]), qI 27 (.mv (.t 29)), qI 30 (.extract (.t 27) 0), qI 31 (.extract (.t 27) 1), eI 7 (.alloc [.nils, .nils, .nils]), nI (.store 3 (.t 7) (.t 30)), qI 8 (.mv (.t 31))])
  (.seq (.seq (.region [1, 4, 5, 6, 7, 8, 40] [qI 32 (.load true 3 (.t 7)), qI 33 (.load true 3 (.t 4)), eI 34 (.call 11 [(.t 32), (.t 33)]), qI 35 (.un .not (.t 34)), qI 36 (.mv (.t 35)), ⟨(some 37), .mv (.t 8), true, (some (36, false))⟩, ⟨(some 38), .mv (.t 5), true, (some (36, false))⟩, ⟨(some 39), .bin .neq .other (.t 37) (.t 38), true, (some (36, false))⟩, qI 40 (.pick (.t 36) (.c (.bool true)) (.t 39))])
  (.cond (.t 40) (.seq (.region [2] [qI 2 (.mv (.c (.bool false)))])
  .ret) .skip))
  (.seq (.seq (.draw [1, 4, 5, 6, 7, 8, 45] [] [qD 41 (.load true 3 (.t 6)) 0, qD 42 (.load true 3 (.t 1)) 1, eD 43 (.call 9 [(.t 42)]) 2 [0], eD 44 (.call 12 [(.t 41), (.t 43)]) 3 [], qD 45 (.un .not (.t 44)) 4])
  (.cond (.t 45) (.seq (.region [2] [qI 2 (.mv (.c (.bool false)))])
  .ret) .skip))
  (.seq (.region [1, 4, 5, 6, 7, 8, 9] [qI 9 (.mv (.c (.int .i64 1)))])
  (.seq (.region [1, 4, 5, 7, 8, 9] [qI 46 (.load true 3 (.t 6)), qI 47 (.mv (.t 9)), eI 48 (.call 13 [(.t 46), (.t 47)]), qI 9 (.mv (.t 48))])
  (.seq (.seq (.region [1, 4, 5, 7, 61] [qI 49 (.mv (.t 9)), qI 50 (.bin .lss .other (.t 49) (.c (.int .i64 0))), qI 51 (.mv (.t 50)), ⟨(some 52), .load true 3 (.t 7), true, (some (51, false))⟩, ⟨(some 53), .load true 3 (.t 4), true, (some (51, false))⟩, ⟨(some 54), .call 11 [(.t 52), (.t 53)], false, (some (51, false))⟩, ⟨(some 55), .un .not (.t 54), true, (some (51, false))⟩, qI 56 (.pick (.t 51) (.c (.bool true)) (.t 55)), qI 57 (.mv (.t 56)), ⟨(some 58), .mv (.t 8), true, (some (57, false))⟩, ⟨(some 59), .mv (.t 5), true, (some (57, false))⟩, ⟨(some 60), .bin .neq .other (.t 58) (.t 59), true, (some (57, false))⟩, qI 61 (.pick (.t 57) (.c (.bool true)) (.t 60))])
  (.cond (.t 61) (.seq (.region [2] [qI 2 (.mv (.c (.bool false)))])
  .ret) .skip))
  (.seq (.region [1, 4, 5, 7, 10] [qI 10 (.mv (.c (.int .i64 1)))])
  (.seq (.region [1, 4, 5, 7, 10] [qI 62 (.load true 3 (.t 7)), qI 63 (.mv (.t 10)), eI 64 (.call 14 [(.t 62), (.t 63)]), qI 10 (.mv (.t 64))])
  (.seq (.region [1, 4, 5, 7, 10, 11] [qI 11 (.mv (.c (.int .i64 1)))])
  (.seq (.region [1, 4, 5, 7, 10, 11] [qI 65 (.load true 3 (.t 7)), qI 66 (.mv (.t 11)), eI 67 (.call 15 [(.t 65), (.t 66)]), qI 11 (.mv (.t 67))])
  (.seq (.seq (.region [1, 4, 5, 7, 10, 11, 69] [qI 68 (.mv (.t 11)), qI 69 (.bin .lss .other (.t 68) (.c (.int .i64 0)))])
  (.cond (.t 69) (.seq (.region [2] [qI 2 (.mv (.c (.bool false)))])
  .ret) .skip))
  (.seq (.seq (.region [1, 4, 5, 7, 10, 72] [qI 70 (.mv (.t 11)), qI 71 (.mv (.t 10)), qI 72 (.bin .neq .other (.t 70) (.t 71))])
  (.cond (.t 72) (.seq (.region [2] [qI 2 (.mv (.c (.bool false)))])
  .ret) .skip))
  (.seq (.region [4, 5, 7, 10, 12, 13] [qI 74 (.load true 3 (.t 1)), eI 75 (.call 9 [(.t 74)]), eI 76 (.call 10 [(.t 75)]), qI 73 (.mv (.t 76)), qI 77 (.extract (.t 73) 0), qI 78 (.extract (.t 73) 1), eI 12 (.alloc [.nils, .nils, .nils]), nI (.store 3 (.t 12) (.t 77)), qI 13 (.mv (.t 78))])
  (.seq (.seq (.region [7, 10, 87] [qI 79 (.load true 3 (.t 12)), qI 80 (.load true 3 (.t 4)), eI 81 (.call 11 [(.t 79), (.t 80)]), qI 82 (.un .not (.t 81)), qI 83 (.mv (.t 82)), ⟨(some 84), .mv (.t 13), true, (some (83, false))⟩, ⟨(some 85), .mv (.t 5), true, (some (83, false))⟩, ⟨(some 86), .bin .neq .other (.t 84) (.t 85), true, (some (83, false))⟩, qI 87 (.pick (.t 83) (.c (.bool true)) (.t 86))])
  (.cond (.t 87) (.seq (.region [2] [qI 2 (.mv (.c (.bool false)))])
  .ret) .skip))
  (.seq (.region [7, 10, 11] [qI 11 (.mv (.c (.int .i64 1)))])
  (.seq (.region [10, 11] [qI 88 (.load true 3 (.t 7)), qI 89 (.mv (.t 11)), eI 90 (.call 15 [(.t 88), (.t 89)]), qI 11 (.mv (.t 90))])
  (.seq (.seq (.region [10, 11, 92] [qI 91 (.mv (.t 11)), qI 92 (.bin .lss .other (.t 91) (.c (.int .i64 0)))])
  (.cond (.t 92) (.seq (.region [2] [qI 2 (.mv (.c (.bool false)))])
  .ret) .skip))
  (.seq (.seq (.region [95] [qI 93 (.mv (.t 11)), qI 94 (.mv (.t 10)), qI 95 (.bin .neq .other (.t 93) (.t 94))])
  (.cond (.t 95) (.seq (.region [2] [qI 2 (.mv (.c (.bool false)))])
  .ret) .skip))
  (.seq (.region [2] [qI 2 (.mv (.c (.bool true)))])
  .ret)))))))))))))))))))))))))⟩
theorem cf3 : cF Tryz.prog Tryz.f3 = some if3 := by kernel_rfl
end Go.Proofs
namespace Go.Proofs.YtngdcibjjomfjaaGreat
open Go.ChangeShapes Go.WideShapes Go.ChangeAt Go.RowKit Go.Ab Go.Joins Go.Lie Go.Proofs
theorem own : ownKnob Tryz.prog.godebug = none := by kernel_rfl
theorem laidOut : laidOutB Tryz.prog = true := by kernel_rfl
theorem cell22 : Tryz.prog.cellsOf 22 = 1 := by kernel_rfl
theorem cell2 : Tryz.prog.cellsOf 2 = 1 := by kernel_rfl
theorem cell27 : Tryz.prog.cellsOf 27 = 1 := by kernel_rfl
theorem cell25 : Tryz.prog.cellsOf 25 = 3 := by kernel_rfl
variable {H : Type} {enc : TypeId × Value → H} {W w0 : World} {j : Inj} {h : AHeap}
def LII (v : PV) (xs : List (List Int)) : Prop := FII v xs ∧ xs.length ≤ 9223372036854775807 ∧ ∀ x ∈ xs, x.length ≤ 9223372036854775807
def LIII (v : PV) (xs : List (List (List Int))) : Prop := FIII v xs ∧ xs.length ≤ 9223372036854775807 ∧ ∀ q ∈ xs, q.length ≤ 9223372036854775807 ∧ ∀ x ∈ q, x.length ≤ 9223372036854775807
theorem layI : Lay1 enc Tryz.prog W 27 (fun v (xs : List Int) => FI v xs ∧ xs.length ≤ 9223372036854775807) := lay_ints (e := 2) Tryz.underlying27 cell2 Tryz.underlying2
theorem layII : Lay1 enc Tryz.prog W 22 LII := by
  intro w0 j h held fuel v x m hx
  obtain ⟨j', h', pv, a, g1, g2, g3, g4, g5, g6, g7, g8⟩ := lay_slice Tryz.underlying22 cell27 layI w0 j h held fuel v x m hx
  exact ⟨j', h', pv, a, g1, g2, g3, g4, g5, g6, g7.imp fun _ _ k => k.1, g8, g7.all fun _ _ k => k.2⟩
theorem layIII : Lay1 enc Tryz.prog W 23 LIII := by
  intro w0 j h held fuel v x m hx
  obtain ⟨j', h', pv, a, g1, g2, g3, g4, g5, g6, g7, g8⟩ := lay_slice Tryz.underlying23 cell22 layII w0 j h held fuel v x m hx
  exact ⟨j', h', pv, a, g1, g2, g3, g4, g5, g6, g7.imp fun _ _ k => k.1, g8, g7.all fun _ _ k => k.2⟩
set_option maxRecDepth 100000 in
theorem layLie {b0 : Nat} {v : Value} {d : DataW H} {q : List MemPlace} (m : MR W.heap.size w0 j h W) (hv : Value.okWide Tryz.prog W .any b0 25 v) (ht : DataW.Trod enc Tryz.prog W 0 (fun _ => true) true 25 v d q) :
    ∃ (j' : Inj) (h' : AHeap) (p : Int) (vP vB : PV) (Ws : List (List Int)) (Bs : List (List (List Int))), MR W.heap.size w0 j' h' W ∧ j.le j' ∧ Ext h h' ∧ VI j' (er idz (.agg [.int .i64 p, vP, vB])) v ∧ VOK (zlt h') h' 0 (.agg [.int .i64 p, vP, vB]) ∧ IsR vP vB Ws Bs ∧ MxR Ws Bs := by
  obtain ⟨v0, v1, v2, y0, y1, y2, n, rfl, rfl, rfl, t0, t1, t2⟩ := open_agg3 Tryz.underlying25 (by kernel_rfl) cell25 hv ht
  obtain ⟨a, ha, _, _⟩ := DataW.trod_int Tryz.underlying2 t0
  simp only [List.cons.injEq, and_true] at ha
  subst ha
  obtain ⟨j1, h1, vP, Ws, m1, l1, e1, i1, o1, _, p1, p2, p3⟩ := layII w0 j h true n v1 _ m t1
  obtain ⟨j2, h2, vB, Bs, m2, l2, e2, i2, o2, _, q1, q2, q3⟩ := layIII w0 j1 h1 true n v2 _ m1 t2
  exact ⟨j2, h2, a, vP, vB, Ws, Bs, m2, l1.trans l2, e1.trans e2, ⟨_, ⟨_, _, rfl, rfl, _, _, rfl, VI.mono l2 _ _ i1, _, _, rfl, i2, rfl⟩, rfl⟩, ⟨trivial, e2.vok o1, o2, trivial⟩, ⟨p1, q1⟩, ⟨p2, p3, q2, q3⟩⟩
end Go.Proofs.YtngdcibjjomfjaaGreat
