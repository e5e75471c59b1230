/- What a law is handed, laid as frozen values: Lie rings, lists of elements. -/
import Derived.Test.YtpcjbkbcaiphmaaGreatBP29
import Derived.Test.YtpcjbkbcaiphmaaGreatBP28
import Derived.Test.YtpcjbkbcaiphmaaGreatBAbPz
import Derived.Test.YtpcjbkbcaiphmaaGreatBP27
import Derived.Test.YtpcjbkbcaiphmaaGreatBAbPt
import Derived.Test.YtpcjbkbcaiphmaaGreatChecked
import Derived.Test.YtpcjbkbcaiphmaaGreatRows
import Derived.Lib.SmallJoins
import Derived.WalkKit
import Derived.ProofKit
open Nat renaming reduceLeDiff → nQ7, reduceEqDiff → nQ10, reduceBEq → nQ11, reduceAdd → nQ12, reduceLT → nQ16, reduceSub → nQ17, reduceMul → nQ18
open Int renaming reduceEq → iQ2, reduceLT → iQ3, reduceLE → iQ4, reduceNeg → iQ5, reduceToNat → iQ6, ofNat_le → iQ7
open List renaming reduceReplicate → lQ19, getElem?_drop → lQ20
set_option linter.unusedSimpArgs false
set_option linter.unusedVariables false
namespace Go.Proofs
open Go.Ab Go.Lie
variable {p : Int} {n : Nat} {W : List (List Int)} {B : List (List (List Int))}
def brv (B : List (List (List Int))) (n : Nat) (f g : Vec) : Vec := fun t => sumN n fun i => sumN (n - 1 - i) fun j => (f i * g (i + 1 + j) - f (i + 1 + j) * g i) * at_ ((B.getD i []).getD j []) t
theorem bsum_brv (q : OkB p n B) (a b : List Int) (t : Nat) : at_ (bsum B a b n) t = brv B n (at_ a) (at_ b) t := bi_at q t (Nat.le_refl _)
theorem brv_add (f f' g : Vec) (t : Nat) : brv B n (fun j => f j + f' j) g t = brv B n f g t + brv B n f' g t := by
  simp only [brv]
  rw [← sumN_add]
  refine sumN_congr fun i _ => ?_
  rw [← sumN_add]
  refine sumN_congr fun j _ => ?_
  grind
theorem brv_mul (k : Int) (f g : Vec) (t : Nat) : brv B n (fun j => k * f j) g t = k * brv B n f g t := by
  simp only [brv]
  rw [← sumN_mul]
  refine sumN_congr fun i _ => ?_
  rw [← sumN_mul]
  refine sumN_congr fun j _ => ?_
  grind
theorem brv_anti (f g : Vec) (t : Nat) : brv B n f g t = -1 * brv B n g f t := by
  simp only [brv]
  rw [← sumN_mul]
  refine sumN_congr fun i _ => ?_
  rw [← sumN_mul]
  refine sumN_congr fun j _ => ?_
  grind
theorem brv_congr {f f' g g' : Vec} (h : ∀ j, j < n → f j = f' j) (h' : ∀ j, j < n → g j = g' j) (t : Nat) : brv B n f g t = brv B n f' g' t := by
  simp only [brv]
  refine sumN_congr fun i hi => sumN_congr fun j hj => ?_
  rw [h i hi, h _ (by omega : i + 1 + j < n), h' i hi, h' _ (by omega : i + 1 + j < n)]
theorem brv_sum (g : Vec) (t : Nat) : ∀ (m : Nat) (F : Nat → Vec), brv B n (fun j => sumN m fun k => F k j) g t = sumN m fun k => brv B n (F k) g t
  | 0, F => by
    simp only [sumN]
    have := brv_mul (B := B) (n := n) 0 (fun _ => 0) g t
    simpa using this
  | m + 1, F => by
    simp only [sumN]
    rw [brv_add, brv_sum g t m F]
end Go.Proofs
namespace Go.Proofs
open Go.Ab Go.Lie
variable {p : Int} {n : Nat} {W : List (List Int)} {B : List (List (List Int))}
theorem eqv_sum0 : ∀ (m : Nat) (F : Nat → Vec), (∀ k, k < m → Eqv p n W (F k) fun _ => 0) → Eqv p n W (fun j => sumN m fun k => F k j) fun _ => 0
  | 0, F, _ => Eqv.of_eq fun j => rfl
  | m + 1, F, h => ((eqv_sum0 m F fun k hk => h k (by omega)).add (h m (by omega))).trans (Eqv.of_eq fun j => rfl)
theorem unit_at {j i : Nat} (hj : j < n) : at_ (unitL n j) i = if i = j then 1 else 0 := by
  rw [unitL, at_set (by simpa using hj), at_rep]
theorem vec_sum (g : Vec) {i : Nat} (hi : i < n) : g i = sumN n fun k => g k * at_ (unitL n k) i := by
  rw [sumN_one hi fun k hk hne => by rw [unit_at hk, if_neg (fun e => hne e.symm), Int.mul_zero]]
  rw [unit_at hi, if_pos rfl, Int.mul_one]
theorem brv_rel (o : OkW p n W) (q : OkB p n B) (nf : NoFault p W B n) {i : Nat} (hi : i < n) (g : Vec) : Eqv p n W (brv B n (rel p W i) g) fun _ => 0 := by
  have one : ∀ j, j < n → Eqv p n W (brv B n (rel p W i) (at_ (unitL n j))) fun _ => 0 := fun j hj => by
    have hF := nf.1 i j hi hj
    unfold F1 at hF
    have ha := (mul_eqv o (br_el o q (a := unitL n i) (b := unitL n j)) p).2
    have hb : Eqv p n W (at_ (br p W B n (unitL n i) (unitL n j))) (at_ (bsum B (unitL n i) (unitL n j) n)) := norm_eqv o (bsum_length q)
    have hc : Eqv p n W (at_ (br p W B n (W.getD i []) (unitL n j))) (at_ (bsum B (W.getD i []) (unitL n j) n)) := norm_eqv o (bsum_length q)
    rw [← hF] at hc
    have hd : Eqv p n W (fun t => p * at_ (bsum B (unitL n i) (unitL n j) n) t) (at_ (bsum B (W.getD i []) (unitL n j) n)) := ((hb.mul p).symm.trans ha.symm).trans hc
    have he := hd.symm.add (Eqv.refl (p := p) (n := n) (W := W) fun t => -1 * (p * at_ (bsum B (unitL n i) (unitL n j) n) t))
    refine (Eqv.of_eq fun t => ?_).trans (he.trans (Eqv.of_eq fun t => by grind))
    rw [bsum_brv q, bsum_brv q, ← brv_mul, ← brv_mul, ← brv_add]
    refine brv_congr (fun k hk => ?_) (fun _ _ => rfl) t
    rw [unit_at hi, rel]
    by_cases e : k = i
    · rw [if_pos e, if_pos e]; grind
    · rw [if_neg e, if_neg e]; grind
  refine (Eqv.of_eq fun t => ?_).trans (eqv_sum0 n (fun k t => g k * brv B n (rel p W i) (at_ (unitL n k)) t) fun k hk => ((one k hk).mul (g k)).trans (Eqv.of_eq fun t => by grind))
  rw [brv_anti, brv_congr (f' := fun j => sumN n fun k => g k * at_ (unitL n k) j) (g' := rel p W i) (fun j hj => vec_sum g hj) (fun _ _ => rfl), brv_sum (t := t) (g := rel p W i) n (fun k j => g k * at_ (unitL n k) j), ← sumN_mul]
  refine sumN_congr fun k hk => ?_
  rw [brv_mul, brv_anti (f := at_ (unitL n k))]
  grind
theorem brv_eqv (o : OkW p n W) (q : OkB p n B) (nf : NoFault p W B n) {f f' : Vec} (g : Vec) (h : Eqv p n W f f') : Eqv p n W (brv B n f g) (brv B n f' g) := by
  obtain ⟨c, hc⟩ := h
  have h0 := eqv_sum0 n (fun i t => c i * brv B n (rel p W i) g t) fun k hk => ((brv_rel o q nf hk g).mul (c k)).trans (Eqv.of_eq fun t => by grind)
  refine (Eqv.of_eq fun t => ?_).trans (((Eqv.refl (brv B n f' g)).add h0).trans (Eqv.of_eq fun t => by grind))
  rw [brv_congr (f' := fun j => f' j + sumN n fun i => c i * rel p W i j) (g' := g) (fun j _ => hc j) (fun _ _ => rfl), brv_add, brv_sum (t := t) (g := g) n (fun i j => c i * rel p W i j)]
  congr 1
  exact sumN_congr fun k hk => by rw [brv_mul]
theorem brv_eqv2 (o : OkW p n W) (q : OkB p n B) (nf : NoFault p W B n) {g g' : Vec} (f : Vec) (h : Eqv p n W g g') : Eqv p n W (brv B n f g) (brv B n f g') :=
  ((Eqv.of_eq fun t => brv_anti f g t).trans ((brv_eqv o q nf f h).mul (-1))).trans (Eqv.of_eq fun t => (brv_anti f g' t).symm)
end Go.Proofs
namespace Go.Proofs
open Go.Ab Go.Lie
variable {p : Int} {n : Nat} {W : List (List Int)} {B : List (List (List Int))}
theorem br_eqv (o : OkW p n W) (q : OkB p n B) (a b : List Int) : Eqv p n W (at_ (br p W B n a b)) (brv B n (at_ a) (at_ b)) :=
  (norm_eqv o (bsum_length q)).trans (Eqv.of_eq fun t => bsum_brv q a b t)
theorem ladd_eqv (o : OkW p n W) {x y : List Int} (hx : El p n x) (hy : El p n y) : Eqv p n W (at_ (ladd p W x y)) fun j => at_ x j + at_ y j :=
  (norm_eqv o (by rw [lmix_length (hx.1.trans hy.1.symm)]; exact hx.1)).trans (Eqv.of_eq fun j => by rw [lmix_at (hx.1.trans hy.1.symm)]; omega)
theorem brv_mul2 (k : Int) (f g : Vec) (t : Nat) : brv B n f (fun j => k * g j) t = k * brv B n f g t := by
  rw [brv_anti, brv_mul, brv_anti g f]; grind
end Go.Proofs
namespace Go.Proofs
open Go.Ab Go.Lie
variable {p : Int} {n : Nat} {W : List (List Int)} {B : List (List (List Int))}
theorem brv_units (g f : Vec) (t : Nat) : brv B n f g t = sumN n fun k => g k * brv B n f (at_ (unitL n k)) t := by
  rw [brv_anti, brv_congr (f' := fun j => sumN n fun k => g k * at_ (unitL n k) j) (g' := f) (fun j hj => vec_sum g hj) (fun _ _ => rfl), brv_sum (t := t) (g := f) n (fun k j => g k * at_ (unitL n k) j), ← sumN_mul]
  refine sumN_congr fun k hk => ?_
  rw [brv_mul, brv_anti (f := at_ (unitL n k))]
  grind
theorem gen_br (o : OkW p n W) (q : OkB p n B) (nf : NoFault p W B n) {u : List (List Int)} {f : Vec} (hf : Gen p n W u f) : ∀ g : Vec, Gen p n W (brL p W B n u (units n)) (brv B n f g) := by
  have hS := gen_sub (p := p) (n := n) (W := W) (brL p W B n u (units n))
  refine gen_le (S := fun f => ∀ g : Vec, Gen p n W (brL p W B n u (units n)) (brv B n f g)) ⟨fun g => ?_, fun f f' h h' g => ?_, fun k f h g => ?_, fun f f' h h' g => ?_⟩ (fun v hv g => ?_) hf
  · refine hS.eqv _ _ (Eqv.of_eq fun t => ?_) hS.zero
    have := brv_mul (B := B) (n := n) 0 (fun _ => 0) g t
    simpa using this
  · exact hS.eqv _ _ (Eqv.of_eq fun t => brv_add f f' g t) (hS.add _ _ (h g) (h' g))
  · exact hS.eqv _ _ (Eqv.of_eq fun t => brv_mul k f g t) (hS.mul k _ (h g))
  · exact hS.eqv _ _ (brv_eqv o q nf g h) (h' g)
  · refine hS.eqv _ _ (Eqv.of_eq fun t => brv_units g (at_ v) t) (hS.sum fun k hk => hS.mul (g k) _ ?_)
    refine hS.eqv _ _ (br_eqv o q v (unitL n k)).symm (gen_mem (List.mem_flatMap.2 ⟨v, hv, List.mem_map.2 ⟨unitL n k, ?_, rfl⟩⟩))
    exact List.mem_map.2 ⟨k, List.mem_range.2 hk, rfl⟩
end Go.Proofs
namespace Go.Grp
open Go.Ab Go.Lie
section
variable {α : Type} {S : α → Prop} {m : α → α → α} {e : α}
end
variable {O : List Int} {P : List (List Int)} {C : List (List (List Int))}
abbrev nx (x : List Int) (j : Nat) : Nat := (at_ x j).toNat
end Go.Grp
namespace Go.Grp
end Go.Grp
namespace Go.Proofs
open Go.Ab Go.Lie Go.Grp
variable {σ : PHeap} {K : PV → PHeap → Prop} {O : List Int} {P : List (List Int)} {C : List (List (List Int))} {vO vP vC vx : PV} {s : Nat} {x : List Int} {rP rC : List PV}
theorem pisAt {i : Nat} (h : i < x.length) : (pis x)[i]? = some (.int .i64 (at_ x i)) := by rw [pis_get, gi h, at_eq h]; rfl
end Go.Proofs
namespace Go.Grp
end Go.Grp
namespace Go.Proofs
open Go.Ab Go.Lie Go.Grp
variable {σ : PHeap} {K : PV → PHeap → Prop} {M : List (List PV)} {vM : PV}
def FC (v : PV) (cs : List PV) : Prop := ∃ w a, v = .fz w a cs.length cs
def RoomC (σ h : PHeap) (v : PV) : Prop := ∃ s cs, v = .sl s 0 0 (.grown 1) ∧ h.obj s = some cs ∧ σ.next ≤ s ∧ s < h.next
theorem GrowC_ok {c : Nat} (hc : c ≤ 1048576) (h0 : ∀ v h, Keep σ h → (PAcc σ.next 1 h v 0 [] ∨ (0 < c ∧ RoomC σ h v)) → K v h) : PCalls Tryz.prog 215 [.fz true .nils 0 [], .int .i64 c] σ K := by
  have hcn : ¬ (c : Int) < 0 := by omega
  have z0 : IntKind.i64.wrap ((0 : Int) - ((0 : Nat) : Int)) = 0 := rfl
  have z1 : IntKind.i64.wrap ((c : Int) - 0) = (c : Int) := by rw [wrap64 (by omega) (by omega)]; omega
  have z2 : pslA 1 .nils 0 0 = .nils := rfl
  refine pcalls_of_vp mix Tryz.func215 cf215 rfl ?_
  dsimp only [if215, qI, eI, nI, qD, eD]
  simp only [pwA, if_true, if_false, eq_self, nm_eq, reduceCtorEq, ↓reduceIte, nQ10, nQ7, nQ11, nQ12, nQ16, nQ17, nQ18, iQ2, iQ3, iQ4, iQ5, iQ6, lQ19, iQ7, lQ20, hcn, z0, z1]
  by_cases hz : c = 0
  · subst hz
    simp only [pwA, if_true, if_false, eq_self, nm_eq, reduceCtorEq, ↓reduceIte, nQ10, nQ7, nQ11, nQ12, nQ16, nQ17, nQ18, iQ2, iQ3, iQ4, iQ5, iQ6, lQ19, iQ7, lQ20]
    exact h0 _ _ (Keep.refl σ) (.inl (PAcc.nil _ _ _))
  · have hpos : (0 : Int) < (c : Int) := by omega
    have hb : (c : Int) * ((24 : Nat) : Int) ≤ 140737488355328 := by omega
    have hb2 : (c : Int) ≤ 4611686018427387904 := by omega
    simp only [pwA, if_true, if_false, eq_self, nm_eq, reduceCtorEq, ↓reduceIte, nQ10, nQ7, nQ11, nQ12, nQ16, nQ17, nQ18, iQ2, iQ3, iQ4, iQ5, iQ6, lQ19, iQ7, lQ20, hpos, hb, hb2, z2, pis_rep, Nat.zero_le]
    exact h0 _ _ (keep_new σ _) (.inr ⟨by omega, _, _, rfl, by rw [pobj_new, if_pos rfl], Nat.le_refl _, Nat.lt_succ_self _⟩)
theorem flatC_take {i : Nat} (hi : i < M.length) : (M.take (i + 1)).flatten = (M.take i).flatten ++ M[i] := by
  rw [List.take_succ_eq_append_getElem hi, List.flatten_append]; simp
theorem flatC_le (M : List (List PV)) (i : Nat) : (M.take i).flatten.length ≤ M.flatten.length := by
  have : M.flatten.length = (M.take i).flatten.length + (M.drop i).flatten.length := by
    rw [← List.length_append, ← List.flatten_append, List.take_append_drop]
  omega
theorem ConcatC_ok {wM : Bool} {aM : AV} {rM : List PV} (hrM : All2 FC rM M) (hbM : ∀ c ∈ M, Bels 0 c) (hml : M.length ≤ 1048576) (hb : M.flatten.length ≤ 1048576) (hk : ∀ a, K (.fz true a M.flatten.length M.flatten) σ) : PCalls Tryz.prog 132 [.fz wM aM M.length rM] σ K := by
  have hbf : Bels 0 M.flatten := Bels_iff.2 fun c hc => by
    obtain ⟨l, hl, hc⟩ := List.mem_flatten.1 hc
    exact Bels_iff.1 (hbM l hl) c hc
  refine PCalls.gh ?_
  refine pcalls_of_vp mix Tryz.func132 cf132 rfl ?_
  dsimp only [if132, qI, eI, nI, qD, eD]
  simp only [pwA, if_true, if_false, eq_self, nm_eq, reduceCtorEq, ↓reduceIte, nQ10, nQ7, nQ11, nQ12, nQ16, nQ17, nQ18, iQ2, iQ3, iQ4, iQ5, iQ6, lQ19, iQ7, lQ20]
  refine vp_loop (fun m us h' => ∃ i : Nat, i ≤ M.length ∧ m = M.length - i ∧ us = [.fz wM aM M.length rM, .int .i64 (M.take i).flatten.length, .fz wM aM M.length rM, .int .i64 M.length, .int .i64 i] ∧ σ = h') M.length ?_ ?_
  · exact ⟨0, by omega, by omega, rfl, rfl⟩
  rintro m us h' ⟨i, hi, rfl, rfl, rfl⟩
  have hfl := flatC_le M i
  simp only [pwA, if_true, if_false, eq_self, nm_eq, reduceCtorEq, ↓reduceIte, nQ10, nQ7, nQ11, nQ12, nQ16, nQ17, nQ18, iQ2, iQ3, iQ4, iQ5, iQ6, lQ19, iQ7, lQ20]
  refine iteI (fun hlt => ?_) fun hge => ?_
  · obtain ⟨_, hr, w4, a4, rfl⟩ := hrM.get hlt
    have hfl2 := flatC_le M (i + 1)
    have e := congrArg List.length (flatC_take hlt)
    rw [List.length_append] at e
    have ew : IntKind.i64.wrap (((M.take i).flatten.length : Int) + (M[i].length : Int)) = (((M.take i).flatten.length + M[i].length : Nat) : Int) := by rw [wrap64 (by omega) (by omega)]; omega
    have hnn : ¬ (((M.take i).flatten.length + M[i].length : Nat) : Int) < 0 := by omega
    simp only [pwA, if_true, if_false, eq_self, nm_eq, reduceCtorEq, ↓reduceIte, nQ10, nQ7, nQ11, nQ12, nQ16, nQ17, nQ18, iQ2, iQ3, iQ4, iQ5, iQ6, lQ19, iQ7, lQ20, hlt, hr, ew, hnn, wrapS hlt (by omega : M.length ≤ 4611686018427387904)]
    refine ⟨_, by omega, i + 1, by omega, rfl, ?_⟩
    rw [e]
  have hie : i = M.length := by omega
  subst hie
  rw [List.take_length]
  simp only [pwA, if_true, if_false, eq_self, nm_eq, reduceCtorEq, ↓reduceIte, nQ10, nQ7, nQ11, nQ12, nQ16, nQ17, nQ18, iQ2, iQ3, iQ4, iQ5, iQ6, lQ19, iQ7, lQ20]
  refine GrowC_ok (by omega) fun v0 h0 hk0 hv0 => ?_
  simp only [pwA, if_true, if_false, eq_self, nm_eq, reduceCtorEq, ↓reduceIte, nQ10, nQ7, nQ11, nQ12, nQ16, nQ17, nQ18, iQ2, iQ3, iQ4, iQ5, iQ6, lQ19, iQ7, lQ20]
  refine vp_loop (fun m us h' => ∃ (i : Nat) (vX : PV), i ≤ M.length ∧ m = M.length - i ∧ us = [vX, .fz wM aM M.length rM, .int .i64 M.length, .int .i64 i] ∧ Keep σ h' ∧ (PAcc σ.next 1 h' vX (M.take i).flatten.length (M.take i).flatten ∨ ((M.take i).flatten = [] ∧ 0 < M.flatten.length ∧ RoomC σ h' vX))) M.length ?_ ?_
  · exact ⟨0, v0, by omega, by omega, rfl, hk0, hv0.imp (fun h => h) fun h => ⟨rfl, h⟩⟩
  clear hi hge hfl hk0 hv0 v0 h0
  rintro m us h' ⟨i, vX, hi, rfl, rfl, hkp, ha⟩
  have hfl := flatC_le M i
  simp only [pwA, if_true, if_false, eq_self, nm_eq, reduceCtorEq, ↓reduceIte, nQ10, nQ7, nQ11, nQ12, nQ16, nQ17, nQ18, iQ2, iQ3, iQ4, iQ5, iQ6, lQ19, iQ7, lQ20]
  refine iteI (fun hlt => ?_) fun hge => ?_
  rotate_left
  · have hie : i = M.length := by omega
    subst hie
    rw [List.take_length] at ha
    rcases ha with ha | ⟨h1, h2, _⟩
    · exact ha.fin hkp hbf fun a => hk _
    · rw [h1] at h2; cases h2
  obtain ⟨_, hr, w4, a4, rfl⟩ := hrM.get hlt
  have hfl2 := flatC_le M (i + 1)
  have e := congrArg List.length (flatC_take hlt)
  rw [List.length_append] at e
  simp only [pwA, if_true, if_false, eq_self, nm_eq, reduceCtorEq, ↓reduceIte, nQ10, nQ7, nQ11, nQ12, nQ16, nQ17, nQ18, iQ2, iQ3, iQ4, iQ5, iQ6, lQ19, iQ7, lQ20, hlt, hr]
  have hnx : ∀ v' h2, Keep σ h2 → (PAcc σ.next 1 h2 v' ((M.take i).flatten.length + M[i].length) ((M.take i).flatten ++ M[i]) ∨ ((M.take (i + 1)).flatten = [] ∧ 0 < M.flatten.length ∧ RoomC σ h2 v')) → (PAcc σ.next 1 h2 v' (M.take (i + 1)).flatten.length (M.take (i + 1)).flatten ∨ ((M.take (i + 1)).flatten = [] ∧ 0 < M.flatten.length ∧ RoomC σ h2 v')) := fun v' h2 k h => h.imp (fun h => by rwa [e, flatC_take hlt]) fun h => h
  rcases ha with ha | ⟨h1, h2, s, cs, rfl, ho, hs1, hs2⟩
  · refine PAcc.cat (σb := σ) (bytes := 24) hkp ha rfl (by omega) (by omega) fun v' h2 k2 a2 => ?_
    simp only [pwA, if_true, if_false, eq_self, nm_eq, reduceCtorEq, ↓reduceIte, nQ10, nQ7, nQ11, nQ12, nQ16, nQ17, nQ18, iQ2, iQ3, iQ4, iQ5, iQ6, lQ19, iQ7, lQ20, wrapS hlt (by omega : M.length ≤ 4611686018427387904)]
    exact ⟨_, by omega, i + 1, v', by omega, rfl, rfl, k2, hnx _ _ k2 (.inl a2)⟩
  · by_cases hz : M[i].length = 0
    · have hnil : M[i] = [] := List.eq_nil_of_length_eq_zero hz
      have hap : pappend 1 24 h' (.sl s 0 0 (.grown 1)) (.fz w4 a4 M[i].length M[i]) = some (.sl s 0 0 (.grown 1), h') := by
        rw [pappend_eq, plen_fz, Option.bind_some, if_pos hz]; rfl
      simp only [pwA, if_true, if_false, eq_self, nm_eq, reduceCtorEq, ↓reduceIte, nQ10, nQ7, nQ11, nQ12, nQ16, nQ17, nQ18, iQ2, iQ3, iQ4, iQ5, iQ6, lQ19, iQ7, lQ20, hap, wrapS hlt (by omega : M.length ≤ 4611686018427387904)]
      refine ⟨_, by omega, i + 1, _, by omega, rfl, rfl, hkp, .inr ⟨by rw [flatC_take hlt, h1, hnil]; rfl, h2, s, cs, rfl, ho, hs1, hs2⟩⟩
    · have hap : pappend 1 24 h' (.sl s 0 0 (.grown 1)) (.fz w4 a4 M[i].length M[i]) = some (.sl h'.next 0 M[i].length (.grown 1), (h'.kill s).new M[i]) := by
        rw [pappend_eq, plen_fz, Option.bind_some, if_neg hz, pfirst_fz, if_neg hz, if_pos ⟨Nat.le_refl _, by omega, by omega⟩, Option.bind_some, pgrow_grown, if_pos ⟨by omega, by omega, rfl⟩, ho, Option.bind_some, if_pos (by omega)]
        rw [List.drop_zero, Nat.zero_mul, List.take_zero, List.nil_append, Nat.mul_one, List.take_of_length_le (Nat.le_refl _), Nat.zero_add]
      simp only [pwA, if_true, if_false, eq_self, nm_eq, reduceCtorEq, ↓reduceIte, nQ10, nQ7, nQ11, nQ12, nQ16, nQ17, nQ18, iQ2, iQ3, iQ4, iQ5, iQ6, lQ19, iQ7, lQ20, hap, wrapS hlt (by omega : M.length ≤ 4611686018427387904)]
      refine ⟨_, by omega, i + 1, _, by omega, rfl, rfl, (hkp.kill hs1).new _, .inl ?_⟩
      rw [flatC_take hlt, h1, List.nil_append]
      exact (PSl.own (.inl rfl) (by rw [pobj_new]; exact if_pos rfl) (by omega) hkp.next (Nat.lt_succ_self _)).acc
end Go.Proofs
namespace Go.Lie
open Go.Ab
variable {p : Int} {n : Nat} {W : List (List Int)}
theorem redL_in (o : OkW p n W) {u : List (List Int)} {x : List Int} (hu : Base p n W u) (hx : El p n x) : (∀ j, at_ (redL p W u x) j = 0) ↔ Gen p n W u (at_ x) := by
  have h1 := redL_gen o hu.els hx
  have hel := redL_el o hu.els hx
  constructor
  · intro h
    refine (gen_sub _).eqv _ _ (Eqv.of_eq fun j => ?_) h1
    rw [h j]; omega
  · intro h
    have h2 : Gen p n W u (at_ (redL p W u x)) := (gen_sub _).eqv _ _ (Eqv.of_eq fun j => by omega) ((gen_sub _).sub h h1)
    rcases Nat.lt_or_ge (dep (redL p W u x)) n with hd | hd
    · obtain ⟨v, hv, e⟩ := gen_dep o hu hel h2 hd
      have := (redL_at o hu.led hu.asc hx).1 v hv
      rw [e] at this
      exact absurd this (dep_ne (by rw [hel.1]; exact hd))
    · intro j
      rcases Nat.lt_or_ge j n with g | g
      · exact dep_zero (by omega)
      · exact hel.beyond g
end Go.Lie
namespace Go.Lie
open Go.Ab
def digs (P : Nat) : Nat → Nat → List Int
  | 0, _ => []
  | m + 1, k => digs P m (k / P) ++ [((k % P : Nat) : Int)]
theorem digs_length (P : Nat) : ∀ (m k : Nat), (digs P m k).length = m
  | 0, k => rfl
  | m + 1, k => by rw [digs, List.length_append, digs_length P m]; rfl
theorem digs_el {P : Nat} (hP : 0 < P) : ∀ (m k : Nat), El (P : Int) m (digs P m k)
  | 0, k => ⟨rfl, fun x hx => by cases hx⟩
  | m + 1, k => by
    refine ⟨digs_length P _ k, fun x hx => ?_⟩
    rw [digs, List.mem_append, List.mem_singleton] at hx
    rcases hx with hx | rfl
    · exact (digs_el hP m (k / P)).2 x hx
    · have := Nat.mod_lt k hP
      omega
theorem digs_push {P q r : Nat} (hr : r < P) (m : Nat) : digs P (m + 1) (q * P + r) = digs P m q ++ [(r : Int)] := by
  have h1 : (q * P + r) / P = q := by rw [Nat.mul_comm, Nat.mul_add_div (by omega), Nat.div_eq_of_lt hr, Nat.add_zero]
  have h2 : (q * P + r) % P = r := by rw [Nat.mul_comm, Nat.mul_add_mod, Nat.mod_eq_of_lt hr]
  rw [digs, h1, h2]
def allE (P m : Nat) : List (List Int) := (List.range (P ^ m)).map (digs P m)
theorem allE_length (P m : Nat) : (allE P m).length = P ^ m := by simp [allE]
theorem allE_get {P m k : Nat} (h : k < (allE P m).length) : (allE P m)[k] = digs P m k := by simp [allE]
end Go.Lie
namespace Go.Lie
open Go.Ab
variable {p : Int} {n : Nat} {W : List (List Int)}
theorem asc_sub : ∀ {b a : List Nat}, a.Pairwise (· < ·) → b.Pairwise (· < ·) → (∀ x ∈ a, x ∈ b) → a.length ≤ b.length ∧ (b.length ≤ a.length → a = b)
  | [], [], _, _, _ => ⟨Nat.le_refl _, fun _ => rfl⟩
  | [], x :: a, _, _, h => by cases h x (by simp)
  | y :: b, [], _, _, _ => ⟨by simp, fun h => by simp at h⟩
  | y :: b, x :: a, ha, hb, h => by
    have ha' := List.pairwise_cons.1 ha
    have hb' := List.pairwise_cons.1 hb
    by_cases e : x = y
    · subst e
      have ih := asc_sub (b := b) (a := a) ha'.2 hb'.2 fun z hz => by
        rcases List.mem_cons.1 (h z (by simp [hz])) with e | e
        · have := ha'.1 z hz; omega
        · exact e
      refine ⟨by simp only [List.length_cons]; omega, fun hl => ?_⟩
      rw [ih.2 (by simp only [List.length_cons] at hl; omega)]
    · have hx : x ∈ b := by
        rcases List.mem_cons.1 (h x (by simp)) with e2 | e2
        · exact absurd e2 e
        · exact e2
      have hyx := hb'.1 x hx
      have ih := asc_sub (b := b) (a := x :: a) ha hb'.2 fun z hz => by
        rcases List.mem_cons.1 (h z hz) with e2 | e2
        · rcases List.mem_cons.1 hz with e3 | e3
          · omega
          · have := ha'.1 z e3; omega
        · exact e2
      exact ⟨by have := ih.1; simp only [List.length_cons] at this ⊢; omega, fun hl => by have := ih.1; simp only [List.length_cons] at this hl; omega⟩
theorem Base.deps {u : List (List Int)} (h : Base p n W u) : (u.map dep).Pairwise (· < ·) := by
  have := h.asc
  unfold Asc at this
  rw [List.pairwise_map]
  exact this
theorem base_le (o : OkW p n W) {u v : List (List Int)} (hu : Base p n W u) (hv : Base p n W v) (h : ∀ f, Gen p n W u f → Gen p n W v f) : u.length ≤ v.length ∧ (v.length ≤ u.length → ∀ f, Gen p n W v f → Gen p n W u f) := by
  have hd : ∀ x ∈ u.map dep, x ∈ v.map dep := fun x hx => by
    obtain ⟨y, hy, rfl⟩ := List.mem_map.1 hx
    have ly := hu.led y hy
    obtain ⟨z, hz, e⟩ := gen_dep o hv ly.1 (h _ (gen_mem hy)) ly.2.1
    exact List.mem_map.2 ⟨z, hz, e⟩
  have hs := asc_sub hu.deps hv.deps hd
  simp only [List.length_map] at hs
  refine ⟨hs.1, fun hl f hf => ?_⟩
  have he := hs.2 hl
  obtain ⟨z, hz, e, hg⟩ := gen_rep o hv.els hf
  refine (gen_sub u).eqv _ _ e ((redL_in o hu hz).1 ?_)
  have h1 := redL_gen o hu.els hz
  have hel := redL_el o hu.els hz
  have h2 : Gen p n W v (at_ (redL p W u z)) := (gen_sub v).eqv _ _ (Eqv.of_eq fun j => by omega) ((gen_sub v).sub hg (h _ h1))
  rcases Nat.lt_or_ge (dep (redL p W u z)) n with hd | hd
  · obtain ⟨x, hx, ex⟩ := gen_dep o hv hel h2 hd
    have hm : dep x ∈ u.map dep := by rw [he]; exact List.mem_map_of_mem hx
    obtain ⟨y, hy, ey⟩ := List.mem_map.1 hm
    have := (redL_at o hu.led hu.asc hz).1 y hy
    rw [ey, ex] at this
    exact absurd this (dep_ne (by rw [hel.1]; exact hd))
  · intro j
    rcases Nat.lt_or_ge j n with g | g
    · exact dep_zero (by omega)
    · exact hel.beyond g
theorem canon_nil (o : OkW p n W) {L out : List (List Int)} (h : Canon p n W L out) (h0 : ∀ v ∈ L, ∀ j, at_ v j = 0) : out = [] := by
  have := canon_unique o h.base h.red .nil List.Pairwise.nil (fun f hf => ?_) (fun f hf => (gen_sub out).eqv _ _ (gen_nil hf) (gen_sub out).zero)
  · exact this
  · refine gen_le (gen_sub []) (fun v hv => ?_) ((h.gen f).2 hf)
    exact (gen_sub []).eqv _ _ (Eqv.of_eq (h0 v hv)) (gen_sub []).zero
theorem el_digs {P : Nat} (hP : 0 < P) : ∀ {m : Nat} {x : List Int}, El (P : Int) m x → ∃ k, k < P ^ m ∧ x = digs P m k
  | 0, x, h => ⟨0, by simp, by rw [List.length_eq_zero_iff.1 h.1]; rfl⟩
  | m + 1, x, h => by
    have hl := h.1
    have hne : x ≠ [] := fun e => by rw [e] at hl; simp at hl
    have hx := List.dropLast_concat_getLast hne
    have hd : El (P : Int) m x.dropLast := ⟨by rw [List.length_dropLast, hl]; rfl, fun y hy => h.2 y ((List.dropLast_sublist x).subset hy)⟩
    obtain ⟨q, hq, e⟩ := el_digs hP hd
    have hb := h.2 _ (List.getLast_mem hne)
    obtain ⟨r, hr⟩ := Int.eq_ofNat_of_zero_le hb.1
    have hrP : r < P := by omega
    refine ⟨q * P + r, ?_, ?_⟩
    · rw [Nat.pow_succ]
      have := Nat.mul_le_mul_right P (show q + 1 ≤ P ^ m by omega)
      rw [Nat.add_mul] at this; omega
    · rw [digs_push hrP, ← e, ← hr, hx]
theorem el_all {P n : Nat} (hP : 0 < P) {x : List Int} (h : El (P : Int) n x) : x ∈ allE P n := by
  obtain ⟨k, hk, e⟩ := el_digs hP h
  exact List.mem_map.2 ⟨k, List.mem_range.2 hk, e.symm⟩
theorem all_el {P n : Nat} (hP : 0 < P) {x : List Int} (h : x ∈ allE P n) : El (P : Int) n x := by
  obtain ⟨k, hk, rfl⟩ := List.mem_map.1 h
  exact digs_el hP _ _
theorem Canon.self {L u : List (List Int)} (c : Canon p n W L u) : Canon p n W u u := ⟨c.base, c.red, fun f => Iff.rfl⟩
theorem Canon.els {L u : List (List Int)} (c : Canon p n W L u) : ∀ v ∈ u, El p n v := c.base.els
theorem Canon.len {L u : List (List Int)} (c : Canon p n W L u) : u.length ≤ n := asc_length (fun v hv => (c.base.led v hv).2.1) c.base.asc
end Go.Lie
namespace Go.Proofs
open Go.Ab Go.Lie
variable {σ : PHeap} {K : PV → PHeap → Prop} {p p' : Int} {n : Nat} {W W' : List (List Int)} {B B' : List (List (List Int))} {vP vB vP' vB' vL : PV} {s s' j0 : Nat} {im : List (List Int)}
theorem take_allE {P m q r : Nat} (hr : r < P) (h : q < P ^ m) : ((List.range (q * P + r + 1)).map (digs P (m + 1))) = ((List.range (q * P + r)).map (digs P (m + 1))) ++ [digs P m q ++ [(r : Int)]] := by
  rw [List.range_succ, List.map_append, List.map_cons, List.map_nil, digs_push hr]
theorem CloneA_ok {w : Bool} {a : AV} {xs : List Int} {l : Nat} (hl : l = xs.length) (hb : xs.length ≤ 4294967296) (hk : ∀ v h', Keep σ h' → PAcc σ.next 1 h' v l (pis xs) → K v h') : PCalls Tryz.prog 198 [.fz w a l (pis xs)] σ K := by
  subst hl
  exact Clone_ok rfl hb ⟨fun h0 => hk _ _ (Keep.refl _) (.inl ⟨rfl, by rw [h0]; rfl, by rw [h0]; rfl⟩), fun cap hc => hk _ _ (keep_new _ _) (PSl.own hc (by simp [PHeap.new]) (by simp [pis]) (Nat.le_refl _) (by simp [PHeap.new])).acc⟩
theorem allLie_ok {P : Nat} (hs : PtrR σ s p vP vB) (hP : FII vP W) (hW : W.length = n) (hn : n ≤ 6) (hp : p = (P : Int)) (hP2 : 2 ≤ P ∧ P ≤ 7) (hb : P ^ n ≤ 729) (hk : ∀ v, FII v (allE P n) → K v σ) : PCalls Tryz.prog 151 [.ptr s 0] σ K := by
  subst hp
  obtain ⟨wp, ap, rp, rfl, hrp⟩ := hP
  have pb : ∀ m, m ≤ n → P ^ m ≤ 729 := fun m hm => Nat.le_trans (Nat.pow_le_pow_right (by omega) hm) hb
  refine PCalls.pwf fun w => PCalls.gh ?_
  have e1 : σ.rd1 s 1 = some (.fz wp ap W.length rp) := by rw [obj_rd1 hs.obj]; rfl
  have e0 : σ.rd1 s 0 = some (.int .i64 P) := by rw [obj_rd1 hs.obj]; rfl
  have hsl := hs.lt
  refine pcalls_of_vp mix Tryz.func151 cf151 rfl ?_
  dsimp only [if151, qI, eI, nI, qD, eD]
  have hn1 : ¬ s = σ.next := by omega
  have hn2 : ¬ s = σ.next + 1 := by omega
  simp only [pwA, if_true, if_false, eq_self, nm_eq, reduceCtorEq, ↓reduceIte, nQ10, nQ7, nQ11, nQ12, nQ16, nQ17, nQ18, iQ2, iQ3, iQ4, iQ5, iQ6, lQ19, iQ7, lQ20, e1, hn1, hn2]
  have w0 : (allE P 0) = [[]] := by simp [allE, digs]
  refine vp_loopG (fun m vs h' => ∃ (i : Nat) (v : PV), i ≤ n ∧ m = n - i ∧ vs = [.ptr s 0, v, .int .i64 W.length, .int .i64 i] ∧ Keep σ h' ∧ FII v (allE P i)) n ?_ ?_
  · simp only [pwA, if_true, if_false, eq_self, nm_eq, reduceCtorEq, ↓reduceIte, nQ10, nQ7, nQ11, nQ12, nQ16, nQ17, nQ18, iQ2, iQ3, iQ4, iQ5, iQ6, lQ19, iQ7, lQ20]
    refine .fzh σ.next [] (by simp only [pwA, if_true, if_false, eq_self, nm_eq, reduceCtorEq, ↓reduceIte, nQ10, nQ7, nQ11, nQ12, nQ16, nQ17, nQ18, iQ2, iQ3, iQ4, iQ5, iQ6, lQ19, iQ7, lQ20]) trivial fun o1 => ?_
    refine .fz (σ.next + 1) [.fz true (.sl o1 0 0 (.known 0)) 0 []] ?_ ⟨trivial, trivial⟩ fun o2 => .here ⟨0, .fz true (.sl o2 0 1 (.known 1)) 1 [.fz true (.sl o1 0 0 (.known 0)) 0 []], by omega, by omega, ?_, ?_, ?_⟩
    · simp [PHeap.sub, PHeap.kill, PHeap.new, sbs, sb, capOK]
    · simp [sbs, sb, capOK]
    · exact ((((keep_new σ _).new _).kill (by omega)).sub w (by omega)).kill (by omega)
    · rw [w0]
      exact ⟨_, _, _, rfl, (All2.nil FI).snoc ⟨_, _, rfl⟩⟩
  rintro m vs h' ⟨i, v, hi, rfl, rfl, hkp, hv⟩
  have hvv := hv
  obtain ⟨wv, av, rv, rfl, hrv⟩ := hv
  simp only [pwA, if_true, if_false, eq_self, nm_eq, reduceCtorEq, ↓reduceIte, nQ10, nQ7, nQ11, nQ12, nQ16, nQ17, nQ18, iQ2, iQ3, iQ4, iQ5, iQ6, lQ19, iQ7, lQ20]
  refine iteI (fun hlt => ?_) fun hge => ?_
  rotate_left
  · have hie : i = n := by omega
    subst hie
    exact Gh.fin0 hkp trivial (hk _ hvv)
  have hlt' : i < n := by omega
  have hpi := pb i (by omega)
  have hpi1 := pb (i + 1) (by omega)
  rw [Nat.pow_succ] at hpi1
  have hel := allE_length P i
  refine vp_loop (fun m vs h2 => ∃ (q : Nat) (vA : PV) (rows : List PV), q ≤ P ^ i ∧ m = P ^ i - q ∧ vs = [.ptr s 0, vA, .int .i64 W.length, .int .i64 i, .fz wv av (allE P i).length rv, .int .i64 (allE P i).length, .int .i64 q] ∧ Keep σ h2 ∧ PAcc σ.next 1 h2 vA (q * P) rows ∧ All2 FI rows ((List.range (q * P)).map (digs P (i + 1)))) (P ^ i) ?_ ?_
  · exact ⟨0, _, [], by omega, by omega, rfl, hkp, by rw [Nat.zero_mul]; exact PAcc.nil _ _ _, by rw [Nat.zero_mul]; exact All2.nil _⟩
  rintro m vs h2 ⟨q, vA, rows, hq, rfl, rfl, hk2, ha, hrows⟩
  have hs2 := hs.keep hk2
  have e02 : h2.rd1 s 0 = some (.int .i64 P) := by rw [obj_rd1 hs2.obj]; rfl
  simp only [pwA, if_true, if_false, eq_self, nm_eq, reduceCtorEq, ↓reduceIte, nQ10, nQ7, nQ11, nQ12, nQ16, nQ17, nQ18, iQ2, iQ3, iQ4, iQ5, iQ6, lQ19, iQ7, lQ20]
  refine iteI (fun hltq => ?_) fun hgeq => ?_
  rotate_left
  · have hqe : q = P ^ i := by omega
    subst hqe
    have hpos : 0 < P ^ i * P := Nat.mul_pos (Nat.pow_pos (by omega)) (by omega)
    obtain ⟨t, cap, rfl, hc, q2, q3, q4, q5⟩ := ha.pos hpos
    simp only [pwA, if_true, if_false, eq_self, nm_eq, reduceCtorEq, ↓reduceIte, nQ10, nQ7, nQ11, nQ12, nQ16, nQ17, nQ18, iQ2, iQ3, iQ4, iQ5, iQ6, lQ19, iQ7, lQ20, wrapS hlt (by omega : W.length ≤ 4611686018427387904)]
    refine ⟨n - (i + 1), by omega, .fz t rows q2 (hrows.bI 0) fun o1 => .here ⟨i + 1, .fz true (.sl o1 0 (P ^ i * P) cap) (P ^ i * P) rows, by omega, rfl, ?_, hk2.kill q4, _, _, rows, by rw [allE_length, Nat.pow_succ], ?_⟩⟩
    · simp [sbs, sb, hc.ok]
    · unfold allE
      rw [Nat.pow_succ]; exact hrows
  have hql : q < (allE P i).length := hltq
  rw [hel] at hltq
  have hqP : q * P + P ≤ P ^ i * P := by
    have := Nat.mul_le_mul_right P (show q + 1 ≤ P ^ i by omega)
    rw [Nat.add_mul] at this; omega
  obtain ⟨w4, a4, hr⟩ := hrv.rowI hql
  rw [allE_get hql, digs_length] at hr
  simp only [pwA, if_true, if_false, eq_self, nm_eq, reduceCtorEq, ↓reduceIte, nQ10, nQ7, nQ11, nQ12, nQ16, nQ17, nQ18, iQ2, iQ3, iQ4, iQ5, iQ6, lQ19, iQ7, lQ20, hql, hr, e02]
  refine vp_loopG (fun m vs h3 => ∃ (r : Nat) (vA : PV) (rows : List PV), r ≤ P ∧ m = P - r ∧ vs = [.ptr s 0, vA, .fz w4 a4 i (pis (digs P i q)), .int .i64 W.length, .int .i64 i, .fz wv av (allE P i).length rv, .int .i64 (allE P i).length, .int .i64 q, .int .i64 P, .int .i64 r] ∧ Keep σ h3 ∧ PAcc σ.next 1 h3 vA (q * P + r) rows ∧ All2 FI rows ((List.range (q * P + r)).map (digs P (i + 1)))) P ?_ ?_
  · exact .here ⟨0, vA, rows, by omega, by omega, rfl, hk2, ha, hrows⟩
  clear ha hrows rows vA
  rintro m vs h3 ⟨r, vA, rows, hr', rfl, rfl, hk3, ha, hrows⟩
  simp only [pwA, if_true, if_false, eq_self, nm_eq, reduceCtorEq, ↓reduceIte, nQ10, nQ7, nQ11, nQ12, nQ16, nQ17, nQ18, iQ2, iQ3, iQ4, iQ5, iQ6, lQ19, iQ7, lQ20]
  refine iteI (fun hltr => ?_) fun hger => ?_
  rotate_left
  · have hre : r = P := by omega
    subst hre
    simp only [pwA, if_true, if_false, eq_self, nm_eq, reduceCtorEq, ↓reduceIte, nQ10, nQ7, nQ11, nQ12, nQ16, nQ17, nQ18, iQ2, iQ3, iQ4, iQ5, iQ6, lQ19, iQ7, lQ20, wrapS hql (by omega : (allE r i).length ≤ 4611686018427387904)]
    refine ⟨_, by omega, q + 1, vA, rows, by omega, rfl, rfl, hk3, by rw [Nat.add_mul, Nat.one_mul]; exact ha, by rw [Nat.add_mul, Nat.one_mul]; exact hrows⟩
  have hltr' : r < P := by omega
  simp only [pwA, if_true, if_false, eq_self, nm_eq, reduceCtorEq, ↓reduceIte, nQ10, nQ7, nQ11, nQ12, nQ16, nQ17, nQ18, iQ2, iQ3, iQ4, iQ5, iQ6, lQ19, iQ7, lQ20]
  refine CloneA_ok (digs_length _ _ _).symm (by rw [digs_length]; omega) fun vC h4 k4 a4' => ?_
  simp only [pwA, if_true, if_false, eq_self, nm_eq, reduceCtorEq, ↓reduceIte, nQ10, nQ7, nQ11, nQ12, nQ16, nQ17, nQ18, iQ2, iQ3, iQ4, iQ5, iQ6, lQ19, iQ7, lQ20]
  refine PAcc.push (bytes := 8) (σb := h3) k4 a4' (by omega) (by omega) fun vR h5 k5 a5 => ?_
  obtain ⟨sR, cR, rfl, hcR, g2, g3, g4, g5⟩ := a5
  simp only [pwA, if_true, if_false, eq_self, nm_eq, reduceCtorEq, ↓reduceIte, nQ10, nQ7, nQ11, nQ12, nQ16, nQ17, nQ18, iQ2, iQ3, iQ4, iQ5, iQ6, lQ19, iQ7, lQ20]
  refine PAcc.pushS (bytes := 24) (σb := σ) (hk3.trans k5) (ha.keep k5) rfl (by omega) (by omega) fun v6 h6 k6 a6 o6 n6 l6 => ?_
  simp only [pwA, if_true, if_false, eq_self, nm_eq, reduceCtorEq, ↓reduceIte, nQ10, nQ7, nQ11, nQ12, nQ16, nQ17, nQ18, iQ2, iQ3, iQ4, iQ5, iQ6, lQ19, iQ7, lQ20, wrapS hltr' (by omega : P ≤ 4611686018427387904)]
  have hb6 : Bels 0 (pis (digs P i q) ++ [.int .i64 r]) := by
    have := pis_bel 0 (digs P i q ++ [(r : Int)])
    simpa [pis] using this
  refine ⟨P - (r + 1), by omega, .fzh sR _ (by rw [o6 sR g5 (ha.ne g4)]; exact g2) hb6 fun o1 => .here ⟨r + 1, v6, rows ++ [.fz true (.sl o1 0 (i + 1) cR) (i + 1) (pis (digs P i q) ++ [.int .i64 r])], by omega, rfl, ?_, ?_, ?_, ?_⟩⟩
  · have := (PSl.fzr w k6 a6 (s := sR) (cs := pis (digs P i q) ++ [.int .i64 r]) (by have := hk3.next; omega) (n6 sR g5) o1).2.2
    simp only [sbs, sb, this]
  · exact (PSl.fzr w k6 a6 (by have := hk3.next; omega) (n6 sR g5) o1).1
  · have := (PSl.fzr w k6 a6 (s := sR) (cs := pis (digs P i q) ++ [.int .i64 r]) (by have := hk3.next; omega) (n6 sR g5) o1).2.1
    rw [sbs_row (hrows.bI 0) hcR.ok] at this
    exact this.acc
  · rw [← Nat.add_assoc, take_allE hltr' hltq]
    refine hrows.snoc ⟨true, .sl o1 0 (i + 1) cR, ?_⟩
    rw [List.length_append, digs_length]
    simp [pis]
end Go.Proofs
namespace Go.Proofs
open Go.Ab Go.Lie
variable {σ : PHeap} {K : PV → PHeap → Prop} {p p' : Int} {n : Nat} {W W' : List (List Int)} {B B' : List (List (List Int))} {vP vB vP' vB' vL : PV} {s s' j0 : Nat} {im : List (List Int)}
theorem l31At_ok {P k0 : Nat} (hR : IsR vP vB W B) (hW : W.length = n) (hn : n ≤ 6) (hp : p = (P : Int)) (hP2 : 2 ≤ P ∧ P ≤ 7) (hk0 : k0 ≤ 1000000) (hk : ∀ v, FI v (digs P n k0) → K v σ) : PCalls Tryz.prog 220 [.agg [.int .i64 p, vP, vB], .int .i64 k0] σ K := by
  subst hp
  have h1 := hR.P.one
  have h2 := hR.B.one
  refine PCalls.gh ?_
  refine pcalls_of_vp mix Tryz.func220 cf220 rfl ?_
  dsimp only [if220, qI, eI, nI, qD, eD]
  simp only [pwA, if_true, if_false, eq_self, nm_eq, reduceCtorEq, ↓reduceIte, nQ10, nQ7, nQ11, nQ12, nQ16, nQ17, nQ18, iQ2, iQ3, iQ4, iQ5, iQ6, lQ19, iQ7, lQ20, h1, h2]
  refine l31Zero_own hR hW (by omega) fun cap hc => ?_
  have ew : IntKind.i64.wrap ((n : Int) - 1) = (n : Int) - 1 := wrap64 (by omega) (by omega)
  simp only [pwA, if_true, if_false, eq_self, nm_eq, reduceCtorEq, ↓reduceIte, nQ10, nQ7, nQ11, nQ12, nQ16, nQ17, nQ18, iQ2, iQ3, iQ4, iQ5, iQ6, lQ19, iQ7, lQ20, ew]
  refine vp_loop (fun m vs h' => ∃ (c kk : Nat) (out : List Int), c ≤ n ∧ m = c ∧ vs = [.int .i64 kk, .ptr σ.next 0, .sl (σ.next + 1) 0 n cap, .int .i64 ((c : Int) - 1)] ∧ h' = (σ.new [.int .i64 P, vP, vB]).new (pis out) ∧ out.length = n ∧ kk ≤ k0 ∧ digs P c kk ++ out.drop c = digs P n k0) n ?_ ?_
  · refine ⟨n, k0, List.replicate n 0, Nat.le_refl _, rfl, rfl, rfl, by simp, Nat.le_refl _, ?_⟩
    rw [List.drop_of_length_le (by simp), List.append_nil]
  rintro m vs h' ⟨c, kk, out, hcn, rfl, rfl, rfl, hol, hkk, hd⟩
  rcases Nat.eq_zero_or_pos m with rfl | hpos
  · simp only [pwA, if_true, if_false, eq_self, nm_eq, reduceCtorEq, ↓reduceIte, nQ10, nQ7, nQ11, nQ12, nQ16, nQ17, nQ18, iQ2, iQ3, iQ4, iQ5, iQ6, lQ19, iQ7, lQ20, show ¬ ((0 : Int) ≤ ((0 : Nat) : Int) - 1) by omega]
    have he : out = digs P n k0 := by simpa [digs] using hd
    rw [← he] at hk
    clear he hd
    rw [← hol] at hc ⊢
    exact Gh.finF (s := σ.next + 1) ((keep_new σ _).new _) (by simp only [pwA, if_true, if_false, eq_self, nm_eq, reduceCtorEq, ↓reduceIte, nQ10, nQ7, nQ11, nQ12, nQ16, nQ17, nQ18, iQ2, iQ3, iQ4, iQ5, iQ6, lQ19, iQ7, lQ20]) (by omega) (pis_bel _ _) hc.ok fun o1 => hk _ ⟨_, _, rfl⟩
  · obtain ⟨c, rfl⟩ : ∃ c, m = c + 1 := ⟨m - 1, by omega⟩
    have e : ((c + 1 : Nat) : Int) - 1 = (c : Int) := by omega
    have hco : c < out.length := by omega
    have hcn' : c < n := by omega
    have ew2 : IntKind.i64.wrap ((c : Int) - 1) = (c : Int) - 1 := wrap64 (by omega) (by omega)
    rw [e]
    have hP0 : ¬ (P : Int) = 0 := by omega
    have et : (kk : Int).tmod (P : Int) = ((kk % P : Nat) : Int) := rfl
    have ed : (kk : Int).tdiv (P : Int) = ((kk / P : Nat) : Int) := rfl
    have hdl : kk / P ≤ kk := Nat.div_le_self _ _
    have ewq : ∀ q : Nat, q ≤ kk → IntKind.i64.wrap (q : Int) = (q : Int) := fun q hq => wrap64 (by omega) (by omega)
    have ewq := ewq _ hdl
    have hco1 : c + 1 ≤ out.length := hco
    have hset := pis_set_at hco (x := ((kk % P : Nat) : Int))
    simp only [pwA, if_true, if_false, eq_self, nm_eq, reduceCtorEq, ↓reduceIte, nQ10, nQ7, nQ11, nQ12, nQ16, nQ17, nQ18, iQ2, iQ3, iQ4, iQ5, iQ6, lQ19, iQ7, lQ20, hP0, et, ed, ewq, hcn', hco1, pis_length, hset, ew2]
    refine ⟨c, Nat.lt_succ_self c, c, kk / P, out.set c ((kk % P : Nat) : Int), by omega, rfl, rfl, rfl, by rw [List.length_set]; exact hol, Nat.le_trans hdl hkk, ?_⟩
    rw [← hd, digs, List.append_assoc]
    congr 1
    rw [List.drop_eq_getElem_cons (by rw [List.length_set]; exact hco), List.getElem_set_self, List.drop_set_of_lt (by omega)]
    rfl
end Go.Proofs
namespace Go.Proofs
open Go.Ab
def if6 : IFn := ⟨[0], [(.tmp 2)], (.seq (.region [0] [qI 2 (.mv (.c (.bool false)))])
  (.seq (.seq (.region [0, 26] [qI 25 (.mv (.t 0)), eI 26 (.call 12 [(.t 25)])])
  (.cond (.t 26) (.seq (.region [2] [qI 2 (.mv (.c (.bool true)))])
  .ret) .skip))
  (.seq (.region [3, 4] [qI 28 (.mv (.t 0)), eI 29 (.call 42 [(.t 28)]), qI 27 (.mv (.t 29)), qI 30 (.extract (.t 27) 0), qI 31 (.extract (.t 27) 1), eI 3 (.alloc [(.int .i64 0), .nils, .nils]), nI (.store 3 (.t 3) (.t 30)), qI 4 (.mv (.t 31))])
  (.seq (.region [3, 4, 5, 6] [qI 33 (.load true 3 (.t 3)), qI 34 (.mv (.t 4)), eI 35 (.call 43 [(.t 33), (.t 34)]), qI 32 (.mv (.t 35)), qI 36 (.extract (.t 32) 0), qI 37 (.extract (.t 32) 1), qI 5 (.mv (.t 36)), qI 6 (.mv (.t 37))])
  (.seq (.region [3, 4, 5, 6, 7, 8] [qI 39 (.load true 3 (.t 3)), qI 40 (.mv (.t 4)), eI 41 (.call 44 [(.t 39), (.t 40)]), qI 38 (.mv (.t 41)), qI 42 (.extract (.t 38) 0), qI 43 (.extract (.t 38) 1), qI 7 (.mv (.t 42)), qI 8 (.mv (.t 43))])
  (.seq (.seq (.region [3, 4, 6, 7, 52] [qI 44 (.mv (.t 6)), qI 45 (.mv (.t 8)), qI 46 (.bin .neq .other (.t 44) (.t 45)), qI 47 (.mv (.t 46)), ⟨(some 48), .mv (.t 5), true, (some (47, false))⟩, ⟨(some 49), .mv (.t 7), true, (some (47, false))⟩, ⟨(some 50), .call 30 [(.t 48), (.t 49)], false, (some (47, false))⟩, ⟨(some 51), .un .not (.t 50), true, (some (47, false))⟩, qI 52 (.pick (.t 47) (.c (.bool true)) (.t 51))])
  (.cond (.t 52) (.seq (.region [2] [qI 2 (.mv (.c (.bool false)))])
  .ret) .skip))
  (.seq (.seq (.region [3, 4, 7, 54] [qI 53 (.mv (.t 6)), qI 54 (.bin .neq .other (.t 53) (.c (.int .i64 0)))])
  (.cond (.t 54) (.seq (.region [2] [qI 2 (.mv (.c (.bool true)))])
  .ret) .skip))
  (.seq (.region [3, 4, 7, 9, 10] [qI 56 (.load true 3 (.t 3)), qI 57 (.mv (.t 7)), eI 58 (.call 45 [(.t 56), (.t 57)]), qI 55 (.mv (.t 58)), qI 59 (.extract (.t 55) 0), qI 60 (.extract (.t 55) 1), qI 9 (.mv (.t 59)), qI 10 (.mv (.t 60))])
  (.seq (.region [3, 4, 7, 9, 10, 11, 12] [qI 62 (.load true 3 (.t 3)), qI 63 (.mv (.t 4)), eI 64 (.call 46 [(.t 62), (.t 63)]), qI 61 (.mv (.t 64)), qI 65 (.extract (.t 61) 0), qI 66 (.extract (.t 61) 1), qI 11 (.mv (.t 65)), qI 12 (.mv (.t 66))])
  (.seq (.region [3, 7, 9, 10, 11, 12, 13] [qI 68 (.load true 3 (.t 3)), qI 69 (.mv (.t 4)), eI 70 (.call 47 [(.t 68), (.t 69)]), qI 67 (.mv (.t 70)), qI 71 (.extract (.t 67) 0), qI 72 (.extract (.t 67) 1), qI 13 (.mv (.t 71)), qI 14 (.mv (.t 72))])
  (.seq (.region [3, 7, 9, 10, 11, 12, 13, 15, 16] [qI 74 (.load true 3 (.t 3)), qI 75 (.mv (.t 7)), qI 76 (.mv (.t 13)), eI 77 (.call 48 [(.t 74), (.t 75), (.t 76)]), qI 73 (.mv (.t 77)), qI 78 (.extract (.t 73) 0), qI 79 (.extract (.t 73) 1), qI 15 (.mv (.t 78)), qI 16 (.mv (.t 79))])
  (.seq (.seq (.region [3, 7, 105] [qI 80 (.mv (.t 10)), qI 81 (.bin .neq .other (.t 80) (.c (.int .i64 0))), qI 82 (.mv (.t 81)), ⟨(some 83), .mv (.t 9), true, (some (82, false))⟩, ⟨(some 84), .un .not (.t 83), true, (some (82, false))⟩, qI 85 (.pick (.t 82) (.c (.bool true)) (.t 84)), qI 86 (.mv (.t 85)), ⟨(some 87), .mv (.t 12), true, (some (86, false))⟩, ⟨(some 88), .bin .neq .other (.t 87) (.c (.int .i64 0)), true, (some (86, false))⟩, qI 89 (.pick (.t 86) (.c (.bool true)) (.t 88)), qI 90 (.mv (.t 89)), ⟨(some 91), .mv (.t 11), true, (some (90, false))⟩, ⟨(some 92), .mv (.t 13), true, (some (90, false))⟩, ⟨(some 93), .call 30 [(.t 91), (.t 92)], false, (some (90, false))⟩, ⟨(some 94), .un .not (.t 93), true, (some (90, false))⟩, qI 95 (.pick (.t 90) (.c (.bool true)) (.t 94)), qI 96 (.mv (.t 95)), ⟨(some 97), .mv (.t 16), true, (some (96, false))⟩, ⟨(some 98), .bin .neq .other (.t 97) (.c (.int .i64 0)), true, (some (96, false))⟩, qI 99 (.pick (.t 96) (.c (.bool true)) (.t 98)), qI 100 (.mv (.t 99)), ⟨(some 101), .mv (.t 15), true, (some (100, false))⟩, ⟨(some 102), .mv (.t 13), true, (some (100, false))⟩, ⟨(some 103), .call 30 [(.t 101), (.t 102)], false, (some (100, false))⟩, ⟨(some 104), .un .not (.t 103), true, (some (100, false))⟩, qI 105 (.pick (.t 100) (.c (.bool true)) (.t 104))])
  (.cond (.t 105) (.seq (.region [2] [qI 2 (.mv (.c (.bool false)))])
  .ret) .skip))
  (.seq (.region [3, 7, 17, 18] [qI 107 (.load true 3 (.t 3)), qI 108 (.mv (.t 7)), eI 109 (.call 49 [(.t 107), (.t 108)]), qI 106 (.mv (.t 109)), qI 110 (.extract (.t 106) 0), qI 111 (.extract (.t 106) 1), qI 17 (.mv (.t 110)), qI 18 (.mv (.t 111))])
  (.seq (.region [3, 7, 17, 18, 19, 20] [qI 113 (.load true 3 (.t 3)), qI 114 (.mv (.t 7)), eI 115 (.call 50 [(.t 113), (.t 114)]), qI 112 (.mv (.t 115)), qI 116 (.extract (.t 112) 0), qI 117 (.extract (.t 112) 1), qI 19 (.mv (.t 116)), qI 20 (.mv (.t 117))])
  (.seq (.seq (.region [3, 7, 19, 126] [qI 118 (.mv (.t 18)), qI 119 (.mv (.t 20)), qI 120 (.bin .neq .other (.t 118) (.t 119)), qI 121 (.mv (.t 120)), ⟨(some 122), .mv (.t 17), true, (some (121, false))⟩, ⟨(some 123), .mv (.t 19), true, (some (121, false))⟩, ⟨(some 124), .call 30 [(.t 122), (.t 123)], false, (some (121, false))⟩, ⟨(some 125), .un .not (.t 124), true, (some (121, false))⟩, qI 126 (.pick (.t 121) (.c (.bool true)) (.t 125))])
  (.cond (.t 126) (.seq (.region [2] [qI 2 (.mv (.c (.bool false)))])
  .ret) .skip))
  (.seq (.region [3, 7, 19, 21, 22] [qI 128 (.load true 3 (.t 3)), qI 129 (.mv (.t 19)), eI 130 (.call 45 [(.t 128), (.t 129)]), qI 127 (.mv (.t 130)), qI 131 (.extract (.t 127) 0), qI 132 (.extract (.t 127) 1), qI 21 (.mv (.t 131)), qI 22 (.mv (.t 132))])
  (.seq (.region [21, 22, 23, 24] [qI 134 (.load true 3 (.t 3)), qI 135 (.mv (.t 7)), qI 136 (.mv (.t 19)), eI 137 (.call 51 [(.t 134), (.t 135), (.t 136)]), qI 133 (.mv (.t 137)), qI 138 (.extract (.t 133) 0), qI 139 (.extract (.t 133) 1), qI 23 (.mv (.t 138)), qI 24 (.mv (.t 139))])
  (.seq (.region [2] [qI 140 (.mv (.t 22)), qI 141 (.bin .eql .other (.t 140) (.c (.int .i64 0))), qI 142 (.mv (.t 141)), ⟨(some 143), .mv (.t 21), true, (some (142, true))⟩, qI 144 (.pick (.t 142) (.t 143) (.c (.bool false))), qI 145 (.mv (.t 144)), ⟨(some 146), .mv (.t 24), true, (some (145, true))⟩, ⟨(some 147), .bin .eql .other (.t 146) (.c (.int .i64 0)), true, (some (145, true))⟩, qI 148 (.pick (.t 145) (.t 147) (.c (.bool false))), qI 149 (.mv (.t 148)), ⟨(some 150), .mv (.t 23), true, (some (149, true))⟩, ⟨(some 151), .len (.t 150), true, (some (149, true))⟩, ⟨(some 152), .bin .eql .other (.t 151) (.c (.int .i64 0)), true, (some (149, true))⟩, qI 153 (.pick (.t 149) (.t 152) (.c (.bool false))), qI 2 (.mv (.t 153))])
  .ret))))))))))))))))))⟩
theorem cf6 : cF Tryz.prog Tryz.f6 = some if6 := by kernel_rfl
end Go.Proofs
namespace Go.Proofs.YtpcjbkbcaiphmaaGreat
open Go.ChangeShapes Go.WideShapes Go.ChangeAt Go.RowKit Go.Ab Go.Joins Go.Lie Go.Proofs
theorem own : ownKnob Tryz.prog.godebug = none := by kernel_rfl
theorem laidOut : laidOutB Tryz.prog = true := by kernel_rfl
variable {H : Type} {enc : TypeId × Value → H} {W w0 : World} {j : Inj} {h : AHeap}
end Go.Proofs.YtpcjbkbcaiphmaaGreat
