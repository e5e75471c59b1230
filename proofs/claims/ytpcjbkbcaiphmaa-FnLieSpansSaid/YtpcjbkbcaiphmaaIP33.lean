/- What a law is handed, laid as frozen values: Lie rings, lists of elements. -/
import Derived.Test.YtpcjbkbcaiphmaaIP31
import Derived.Test.YtpcjbkbcaiphmaaIAbPz
import Derived.Test.YtpcjbkbcaiphmaaIP27
import Derived.Test.YtpcjbkbcaiphmaaIP29
import Derived.Test.YtpcjbkbcaiphmaaIAbPt
import Derived.Test.YtpcjbkbcaiphmaaChecked
import Derived.Test.YtpcjbkbcaiphmaaRows
import Derived.Lib.SmallJoins
import Derived.WalkKit
import Derived.ProofKit
open Nat renaming reduceLeDiff → nQ7, reduceEqDiff → nQ10, reduceBEq → nQ11, reduceAdd → nQ12, reduceLT → nQ16, reduceSub → nQ17, reduceMul → nQ18
open Int renaming reduceEq → iQ2, reduceLT → iQ3, reduceLE → iQ4, reduceNeg → iQ5, reduceToNat → iQ6, ofNat_le → iQ7
open List renaming reduceReplicate → lQ19, getElem?_drop → lQ20
namespace Go.Grp
end Go.Grp
set_option linter.unusedSimpArgs false
set_option linter.unusedVariables false
namespace Go.Proofs
open Go.Ab Go.Lie Go.Grp
variable {σ : PHeap} {K : PV → PHeap → Prop} {M : List (List PV)} {vM : PV}
def FC (v : PV) (cs : List PV) : Prop := ∃ w a, v = .fz w a cs.length cs
def RoomC (σ h : PHeap) (v : PV) : Prop := ∃ s cs, v = .sl s 0 0 (.grown 1) ∧ h.obj s = some cs ∧ σ.next ≤ s ∧ s < h.next
theorem GrowC_ok {c : Nat} (hc : c ≤ 1048576) (h0 : ∀ v h, Keep σ h → (PAcc σ.next 1 h v 0 [] ∨ (0 < c ∧ RoomC σ h v)) → K v h) : PCalls Try.prog 111 [.fz true .nils 0 [], .int .i64 c] σ K := by
  have hcn : ¬ (c : Int) < 0 := by omega
  have z0 : IntKind.i64.wrap ((0 : Int) - ((0 : Nat) : Int)) = 0 := rfl
  have z1 : IntKind.i64.wrap ((c : Int) - 0) = (c : Int) := by rw [wrap64 (by omega) (by omega)]; omega
  have z2 : pslA 1 .nils 0 0 = .nils := rfl
  refine pcalls_of_vp mix Try.func111 cf111 rfl ?_
  dsimp only [if111, qI, eI, nI, qD, eD]
  simp only [pwA, if_true, if_false, eq_self, nm_eq, reduceCtorEq, ↓reduceIte, nQ10, nQ7, nQ11, nQ12, nQ16, nQ17, nQ18, iQ2, iQ3, iQ4, iQ5, iQ6, lQ19, iQ7, lQ20, hcn, z0, z1]
  by_cases hz : c = 0
  · subst hz
    simp only [pwA, if_true, if_false, eq_self, nm_eq, reduceCtorEq, ↓reduceIte, nQ10, nQ7, nQ11, nQ12, nQ16, nQ17, nQ18, iQ2, iQ3, iQ4, iQ5, iQ6, lQ19, iQ7, lQ20]
    exact h0 _ _ (Keep.refl σ) (.inl (PAcc.nil _ _ _))
  · have hpos : (0 : Int) < (c : Int) := by omega
    have hb : (c : Int) * ((24 : Nat) : Int) ≤ 140737488355328 := by omega
    have hb2 : (c : Int) ≤ 4611686018427387904 := by omega
    simp only [pwA, if_true, if_false, eq_self, nm_eq, reduceCtorEq, ↓reduceIte, nQ10, nQ7, nQ11, nQ12, nQ16, nQ17, nQ18, iQ2, iQ3, iQ4, iQ5, iQ6, lQ19, iQ7, lQ20, hpos, hb, hb2, z2, pis_rep, Nat.zero_le]
    exact h0 _ _ (keep_new σ _) (.inr ⟨by omega, _, _, rfl, by rw [pobj_new, if_pos rfl], Nat.le_refl _, Nat.lt_succ_self _⟩)
theorem flatC_take {i : Nat} (hi : i < M.length) : (M.take (i + 1)).flatten = (M.take i).flatten ++ M[i] := by
  rw [List.take_succ_eq_append_getElem hi, List.flatten_append]; simp
theorem flatC_le (M : List (List PV)) (i : Nat) : (M.take i).flatten.length ≤ M.flatten.length := by
  have : M.flatten.length = (M.take i).flatten.length + (M.drop i).flatten.length := by
    rw [← List.length_append, ← List.flatten_append, List.take_append_drop]
  omega
theorem ConcatC_ok {wM : Bool} {aM : AV} {rM : List PV} (hrM : All2 FC rM M) (hbM : ∀ c ∈ M, Bels 0 c) (hml : M.length ≤ 1048576) (hb : M.flatten.length ≤ 1048576) (hk : ∀ a, K (.fz true a M.flatten.length M.flatten) σ) : PCalls Try.prog 50 [.fz wM aM M.length rM] σ K := by
  have hbf : Bels 0 M.flatten := Bels_iff.2 fun c hc => by
    obtain ⟨l, hl, hc⟩ := List.mem_flatten.1 hc
    exact Bels_iff.1 (hbM l hl) c hc
  refine PCalls.gh ?_
  refine pcalls_of_vp mix Try.func50 cf50 rfl ?_
  dsimp only [if50, qI, eI, nI, qD, eD]
  simp only [pwA, if_true, if_false, eq_self, nm_eq, reduceCtorEq, ↓reduceIte, nQ10, nQ7, nQ11, nQ12, nQ16, nQ17, nQ18, iQ2, iQ3, iQ4, iQ5, iQ6, lQ19, iQ7, lQ20]
  refine vp_loop (fun m us h' => ∃ i : Nat, i ≤ M.length ∧ m = M.length - i ∧ us = [.fz wM aM M.length rM, .int .i64 (M.take i).flatten.length, .fz wM aM M.length rM, .int .i64 M.length, .int .i64 i] ∧ σ = h') M.length ?_ ?_
  · exact ⟨0, by omega, by omega, rfl, rfl⟩
  rintro m us h' ⟨i, hi, rfl, rfl, rfl⟩
  have hfl := flatC_le M i
  simp only [pwA, if_true, if_false, eq_self, nm_eq, reduceCtorEq, ↓reduceIte, nQ10, nQ7, nQ11, nQ12, nQ16, nQ17, nQ18, iQ2, iQ3, iQ4, iQ5, iQ6, lQ19, iQ7, lQ20]
  refine iteI (fun hlt => ?_) fun hge => ?_
  · obtain ⟨_, hr, w4, a4, rfl⟩ := hrM.get hlt
    have hfl2 := flatC_le M (i + 1)
    have e := congrArg List.length (flatC_take hlt)
    rw [List.length_append] at e
    have ew : IntKind.i64.wrap (((M.take i).flatten.length : Int) + (M[i].length : Int)) = (((M.take i).flatten.length + M[i].length : Nat) : Int) := by rw [wrap64 (by omega) (by omega)]; omega
    have hnn : ¬ (((M.take i).flatten.length + M[i].length : Nat) : Int) < 0 := by omega
    simp only [pwA, if_true, if_false, eq_self, nm_eq, reduceCtorEq, ↓reduceIte, nQ10, nQ7, nQ11, nQ12, nQ16, nQ17, nQ18, iQ2, iQ3, iQ4, iQ5, iQ6, lQ19, iQ7, lQ20, hlt, hr, ew, hnn, wrapS hlt (by omega : M.length ≤ 4611686018427387904)]
    refine ⟨_, by omega, i + 1, by omega, rfl, ?_⟩
    rw [e]
  have hie : i = M.length := by omega
  subst hie
  rw [List.take_length]
  simp only [pwA, if_true, if_false, eq_self, nm_eq, reduceCtorEq, ↓reduceIte, nQ10, nQ7, nQ11, nQ12, nQ16, nQ17, nQ18, iQ2, iQ3, iQ4, iQ5, iQ6, lQ19, iQ7, lQ20]
  refine GrowC_ok (by omega) fun v0 h0 hk0 hv0 => ?_
  simp only [pwA, if_true, if_false, eq_self, nm_eq, reduceCtorEq, ↓reduceIte, nQ10, nQ7, nQ11, nQ12, nQ16, nQ17, nQ18, iQ2, iQ3, iQ4, iQ5, iQ6, lQ19, iQ7, lQ20]
  refine vp_loop (fun m us h' => ∃ (i : Nat) (vX : PV), i ≤ M.length ∧ m = M.length - i ∧ us = [vX, .fz wM aM M.length rM, .int .i64 M.length, .int .i64 i] ∧ Keep σ h' ∧ (PAcc σ.next 1 h' vX (M.take i).flatten.length (M.take i).flatten ∨ ((M.take i).flatten = [] ∧ 0 < M.flatten.length ∧ RoomC σ h' vX))) M.length ?_ ?_
  · exact ⟨0, v0, by omega, by omega, rfl, hk0, hv0.imp (fun h => h) fun h => ⟨rfl, h⟩⟩
  clear hi hge hfl hk0 hv0 v0 h0
  rintro m us h' ⟨i, vX, hi, rfl, rfl, hkp, ha⟩
  have hfl := flatC_le M i
  simp only [pwA, if_true, if_false, eq_self, nm_eq, reduceCtorEq, ↓reduceIte, nQ10, nQ7, nQ11, nQ12, nQ16, nQ17, nQ18, iQ2, iQ3, iQ4, iQ5, iQ6, lQ19, iQ7, lQ20]
  refine iteI (fun hlt => ?_) fun hge => ?_
  rotate_left
  · have hie : i = M.length := by omega
    subst hie
    rw [List.take_length] at ha
    rcases ha with ha | ⟨h1, h2, _⟩
    · exact ha.fin hkp hbf fun a => hk _
    · rw [h1] at h2; cases h2
  obtain ⟨_, hr, w4, a4, rfl⟩ := hrM.get hlt
  have hfl2 := flatC_le M (i + 1)
  have e := congrArg List.length (flatC_take hlt)
  rw [List.length_append] at e
  simp only [pwA, if_true, if_false, eq_self, nm_eq, reduceCtorEq, ↓reduceIte, nQ10, nQ7, nQ11, nQ12, nQ16, nQ17, nQ18, iQ2, iQ3, iQ4, iQ5, iQ6, lQ19, iQ7, lQ20, hlt, hr]
  have hnx : ∀ v' h2, Keep σ h2 → (PAcc σ.next 1 h2 v' ((M.take i).flatten.length + M[i].length) ((M.take i).flatten ++ M[i]) ∨ ((M.take (i + 1)).flatten = [] ∧ 0 < M.flatten.length ∧ RoomC σ h2 v')) → (PAcc σ.next 1 h2 v' (M.take (i + 1)).flatten.length (M.take (i + 1)).flatten ∨ ((M.take (i + 1)).flatten = [] ∧ 0 < M.flatten.length ∧ RoomC σ h2 v')) := fun v' h2 k h => h.imp (fun h => by rwa [e, flatC_take hlt]) fun h => h
  rcases ha with ha | ⟨h1, h2, s, cs, rfl, ho, hs1, hs2⟩
  · refine PAcc.cat (σb := σ) (bytes := 24) hkp ha rfl (by omega) (by omega) fun v' h2 k2 a2 => ?_
    simp only [pwA, if_true, if_false, eq_self, nm_eq, reduceCtorEq, ↓reduceIte, nQ10, nQ7, nQ11, nQ12, nQ16, nQ17, nQ18, iQ2, iQ3, iQ4, iQ5, iQ6, lQ19, iQ7, lQ20, wrapS hlt (by omega : M.length ≤ 4611686018427387904)]
    exact ⟨_, by omega, i + 1, v', by omega, rfl, rfl, k2, hnx _ _ k2 (.inl a2)⟩
  · by_cases hz : M[i].length = 0
    · have hnil : M[i] = [] := List.eq_nil_of_length_eq_zero hz
      have hap : pappend 1 24 h' (.sl s 0 0 (.grown 1)) (.fz w4 a4 M[i].length M[i]) = some (.sl s 0 0 (.grown 1), h') := by
        rw [pappend_eq, plen_fz, Option.bind_some, if_pos hz]; rfl
      simp only [pwA, if_true, if_false, eq_self, nm_eq, reduceCtorEq, ↓reduceIte, nQ10, nQ7, nQ11, nQ12, nQ16, nQ17, nQ18, iQ2, iQ3, iQ4, iQ5, iQ6, lQ19, iQ7, lQ20, hap, wrapS hlt (by omega : M.length ≤ 4611686018427387904)]
      refine ⟨_, by omega, i + 1, _, by omega, rfl, rfl, hkp, .inr ⟨by rw [flatC_take hlt, h1, hnil]; rfl, h2, s, cs, rfl, ho, hs1, hs2⟩⟩
    · have hap : pappend 1 24 h' (.sl s 0 0 (.grown 1)) (.fz w4 a4 M[i].length M[i]) = some (.sl h'.next 0 M[i].length (.grown 1), (h'.kill s).new M[i]) := by
        rw [pappend_eq, plen_fz, Option.bind_some, if_neg hz, pfirst_fz, if_neg hz, if_pos ⟨Nat.le_refl _, by omega, by omega⟩, Option.bind_some, pgrow_grown, if_pos ⟨by omega, by omega, rfl⟩, ho, Option.bind_some, if_pos (by omega)]
        rw [List.drop_zero, Nat.zero_mul, List.take_zero, List.nil_append, Nat.mul_one, List.take_of_length_le (Nat.le_refl _), Nat.zero_add]
      simp only [pwA, if_true, if_false, eq_self, nm_eq, reduceCtorEq, ↓reduceIte, nQ10, nQ7, nQ11, nQ12, nQ16, nQ17, nQ18, iQ2, iQ3, iQ4, iQ5, iQ6, lQ19, iQ7, lQ20, hap, wrapS hlt (by omega : M.length ≤ 4611686018427387904)]
      refine ⟨_, by omega, i + 1, _, by omega, rfl, rfl, (hkp.kill hs1).new _, .inl ?_⟩
      rw [flatC_take hlt, h1, List.nil_append]
      exact (PSl.own (.inl rfl) (by rw [pobj_new]; exact if_pos rfl) (by omega) hkp.next (Nat.lt_succ_self _)).acc
end Go.Proofs
namespace Go.Proofs
open Go.Ab Go.Lie
variable {σ : PHeap} {K : PV → PHeap → Prop} {p p' : Int} {n : Nat} {W W' : List (List Int)} {B B' : List (List (List Int))} {vP vB vP' vB' vL : PV} {s s' j0 : Nat} {im : List (List Int)}
theorem take_allE {P m q r : Nat} (hr : r < P) (h : q < P ^ m) : ((List.range (q * P + r + 1)).map (digs P (m + 1))) = ((List.range (q * P + r)).map (digs P (m + 1))) ++ [digs P m q ++ [(r : Int)]] := by
  rw [List.range_succ, List.map_append, List.map_cons, List.map_nil, digs_push hr]
theorem CloneA_ok {w : Bool} {a : AV} {xs : List Int} {l : Nat} (hl : l = xs.length) (hb : xs.length ≤ 4294967296) (hk : ∀ v h', Keep σ h' → PAcc σ.next 1 h' v l (pis xs) → K v h') : PCalls Try.prog 90 [.fz w a l (pis xs)] σ K := by
  subst hl
  exact Clone_ok rfl hb ⟨fun h0 => hk _ _ (Keep.refl _) (.inl ⟨rfl, by rw [h0]; rfl, by rw [h0]; rfl⟩), fun cap hc => hk _ _ (keep_new _ _) (PSl.own hc (by simp [PHeap.new]) (by simp [pis]) (Nat.le_refl _) (by simp [PHeap.new])).acc⟩
theorem allLie_ok {P : Nat} (hs : PtrR σ s p vP vB) (hP : FII vP W) (hW : W.length = n) (hn : n ≤ 6) (hp : p = (P : Int)) (hP2 : 2 ≤ P ∧ P ≤ 7) (hb : P ^ n ≤ 729) (hk : ∀ v, FII v (allE P n) → K v σ) : PCalls Try.prog 113 [.ptr s 0] σ K := by
  subst hp
  obtain ⟨wp, ap, rp, rfl, hrp⟩ := hP
  have pb : ∀ m, m ≤ n → P ^ m ≤ 729 := fun m hm => Nat.le_trans (Nat.pow_le_pow_right (by omega) hm) hb
  refine PCalls.pwf fun w => PCalls.gh ?_
  have e1 : σ.rd1 s 1 = some (.fz wp ap W.length rp) := by rw [obj_rd1 hs.obj]; rfl
  have e0 : σ.rd1 s 0 = some (.int .i64 P) := by rw [obj_rd1 hs.obj]; rfl
  have hsl := hs.lt
  refine pcalls_of_vp mix Try.func113 cf113 rfl ?_
  dsimp only [if113, qI, eI, nI, qD, eD]
  have hn1 : ¬ s = σ.next := by omega
  have hn2 : ¬ s = σ.next + 1 := by omega
  simp only [pwA, if_true, if_false, eq_self, nm_eq, reduceCtorEq, ↓reduceIte, nQ10, nQ7, nQ11, nQ12, nQ16, nQ17, nQ18, iQ2, iQ3, iQ4, iQ5, iQ6, lQ19, iQ7, lQ20, e1, hn1, hn2]
  have w0 : (allE P 0) = [[]] := by simp [allE, digs]
  refine vp_loopG (fun m vs h' => ∃ (i : Nat) (v : PV), i ≤ n ∧ m = n - i ∧ vs = [.ptr s 0, v, .int .i64 W.length, .int .i64 i] ∧ Keep σ h' ∧ FII v (allE P i)) n ?_ ?_
  · simp only [pwA, if_true, if_false, eq_self, nm_eq, reduceCtorEq, ↓reduceIte, nQ10, nQ7, nQ11, nQ12, nQ16, nQ17, nQ18, iQ2, iQ3, iQ4, iQ5, iQ6, lQ19, iQ7, lQ20]
    refine .fzh σ.next [] (by simp only [pwA, if_true, if_false, eq_self, nm_eq, reduceCtorEq, ↓reduceIte, nQ10, nQ7, nQ11, nQ12, nQ16, nQ17, nQ18, iQ2, iQ3, iQ4, iQ5, iQ6, lQ19, iQ7, lQ20]) trivial fun o1 => ?_
    refine .fz (σ.next + 1) [.fz true (.sl o1 0 0 (.known 0)) 0 []] ?_ ⟨trivial, trivial⟩ fun o2 => .here ⟨0, .fz true (.sl o2 0 1 (.known 1)) 1 [.fz true (.sl o1 0 0 (.known 0)) 0 []], by omega, by omega, ?_, ?_, ?_⟩
    · simp [PHeap.sub, PHeap.kill, PHeap.new, sbs, sb, capOK]
    · simp [sbs, sb, capOK]
    · exact ((((keep_new σ _).new _).kill (by omega)).sub w (by omega)).kill (by omega)
    · rw [w0]
      exact ⟨_, _, _, rfl, (All2.nil FI).snoc ⟨_, _, rfl⟩⟩
  rintro m vs h' ⟨i, v, hi, rfl, rfl, hkp, hv⟩
  have hvv := hv
  obtain ⟨wv, av, rv, rfl, hrv⟩ := hv
  simp only [pwA, if_true, if_false, eq_self, nm_eq, reduceCtorEq, ↓reduceIte, nQ10, nQ7, nQ11, nQ12, nQ16, nQ17, nQ18, iQ2, iQ3, iQ4, iQ5, iQ6, lQ19, iQ7, lQ20]
  refine iteI (fun hlt => ?_) fun hge => ?_
  rotate_left
  · have hie : i = n := by omega
    subst hie
    exact Gh.fin0 hkp trivial (hk _ hvv)
  have hlt' : i < n := by omega
  have hpi := pb i (by omega)
  have hpi1 := pb (i + 1) (by omega)
  rw [Nat.pow_succ] at hpi1
  have hel := allE_length P i
  refine vp_loop (fun m vs h2 => ∃ (q : Nat) (vA : PV) (rows : List PV), q ≤ P ^ i ∧ m = P ^ i - q ∧ vs = [.ptr s 0, vA, .int .i64 W.length, .int .i64 i, .fz wv av (allE P i).length rv, .int .i64 (allE P i).length, .int .i64 q] ∧ Keep σ h2 ∧ PAcc σ.next 1 h2 vA (q * P) rows ∧ All2 FI rows ((List.range (q * P)).map (digs P (i + 1)))) (P ^ i) ?_ ?_
  · exact ⟨0, _, [], by omega, by omega, rfl, hkp, by rw [Nat.zero_mul]; exact PAcc.nil _ _ _, by rw [Nat.zero_mul]; exact All2.nil _⟩
  rintro m vs h2 ⟨q, vA, rows, hq, rfl, rfl, hk2, ha, hrows⟩
  have hs2 := hs.keep hk2
  have e02 : h2.rd1 s 0 = some (.int .i64 P) := by rw [obj_rd1 hs2.obj]; rfl
  simp only [pwA, if_true, if_false, eq_self, nm_eq, reduceCtorEq, ↓reduceIte, nQ10, nQ7, nQ11, nQ12, nQ16, nQ17, nQ18, iQ2, iQ3, iQ4, iQ5, iQ6, lQ19, iQ7, lQ20]
  refine iteI (fun hltq => ?_) fun hgeq => ?_
  rotate_left
  · have hqe : q = P ^ i := by omega
    subst hqe
    have hpos : 0 < P ^ i * P := Nat.mul_pos (Nat.pow_pos (by omega)) (by omega)
    obtain ⟨t, cap, rfl, hc, q2, q3, q4, q5⟩ := ha.pos hpos
    simp only [pwA, if_true, if_false, eq_self, nm_eq, reduceCtorEq, ↓reduceIte, nQ10, nQ7, nQ11, nQ12, nQ16, nQ17, nQ18, iQ2, iQ3, iQ4, iQ5, iQ6, lQ19, iQ7, lQ20, wrapS hlt (by omega : W.length ≤ 4611686018427387904)]
    refine ⟨n - (i + 1), by omega, .fz t rows q2 (hrows.bI 0) fun o1 => .here ⟨i + 1, .fz true (.sl o1 0 (P ^ i * P) cap) (P ^ i * P) rows, by omega, rfl, ?_, hk2.kill q4, _, _, rows, by rw [allE_length, Nat.pow_succ], ?_⟩⟩
    · simp [sbs, sb, hc.ok]
    · unfold allE
      rw [Nat.pow_succ]; exact hrows
  have hql : q < (allE P i).length := hltq
  rw [hel] at hltq
  have hqP : q * P + P ≤ P ^ i * P := by
    have := Nat.mul_le_mul_right P (show q + 1 ≤ P ^ i by omega)
    rw [Nat.add_mul] at this; omega
  obtain ⟨w4, a4, hr⟩ := hrv.rowI hql
  rw [allE_get hql, digs_length] at hr
  simp only [pwA, if_true, if_false, eq_self, nm_eq, reduceCtorEq, ↓reduceIte, nQ10, nQ7, nQ11, nQ12, nQ16, nQ17, nQ18, iQ2, iQ3, iQ4, iQ5, iQ6, lQ19, iQ7, lQ20, hql, hr, e02]
  refine vp_loopG (fun m vs h3 => ∃ (r : Nat) (vA : PV) (rows : List PV), r ≤ P ∧ m = P - r ∧ vs = [.ptr s 0, vA, .fz w4 a4 i (pis (digs P i q)), .int .i64 W.length, .int .i64 i, .fz wv av (allE P i).length rv, .int .i64 (allE P i).length, .int .i64 q, .int .i64 P, .int .i64 r] ∧ Keep σ h3 ∧ PAcc σ.next 1 h3 vA (q * P + r) rows ∧ All2 FI rows ((List.range (q * P + r)).map (digs P (i + 1)))) P ?_ ?_
  · exact .here ⟨0, vA, rows, by omega, by omega, rfl, hk2, ha, hrows⟩
  clear ha hrows rows vA
  rintro m vs h3 ⟨r, vA, rows, hr', rfl, rfl, hk3, ha, hrows⟩
  simp only [pwA, if_true, if_false, eq_self, nm_eq, reduceCtorEq, ↓reduceIte, nQ10, nQ7, nQ11, nQ12, nQ16, nQ17, nQ18, iQ2, iQ3, iQ4, iQ5, iQ6, lQ19, iQ7, lQ20]
  refine iteI (fun hltr => ?_) fun hger => ?_
  rotate_left
  · have hre : r = P := by omega
    subst hre
    simp only [pwA, if_true, if_false, eq_self, nm_eq, reduceCtorEq, ↓reduceIte, nQ10, nQ7, nQ11, nQ12, nQ16, nQ17, nQ18, iQ2, iQ3, iQ4, iQ5, iQ6, lQ19, iQ7, lQ20, wrapS hql (by omega : (allE r i).length ≤ 4611686018427387904)]
    refine ⟨_, by omega, q + 1, vA, rows, by omega, rfl, rfl, hk3, by rw [Nat.add_mul, Nat.one_mul]; exact ha, by rw [Nat.add_mul, Nat.one_mul]; exact hrows⟩
  have hltr' : r < P := by omega
  simp only [pwA, if_true, if_false, eq_self, nm_eq, reduceCtorEq, ↓reduceIte, nQ10, nQ7, nQ11, nQ12, nQ16, nQ17, nQ18, iQ2, iQ3, iQ4, iQ5, iQ6, lQ19, iQ7, lQ20]
  refine CloneA_ok (digs_length _ _ _).symm (by rw [digs_length]; omega) fun vC h4 k4 a4' => ?_
  simp only [pwA, if_true, if_false, eq_self, nm_eq, reduceCtorEq, ↓reduceIte, nQ10, nQ7, nQ11, nQ12, nQ16, nQ17, nQ18, iQ2, iQ3, iQ4, iQ5, iQ6, lQ19, iQ7, lQ20]
  refine PAcc.push (bytes := 8) (σb := h3) k4 a4' (by omega) (by omega) fun vR h5 k5 a5 => ?_
  obtain ⟨sR, cR, rfl, hcR, g2, g3, g4, g5⟩ := a5
  simp only [pwA, if_true, if_false, eq_self, nm_eq, reduceCtorEq, ↓reduceIte, nQ10, nQ7, nQ11, nQ12, nQ16, nQ17, nQ18, iQ2, iQ3, iQ4, iQ5, iQ6, lQ19, iQ7, lQ20]
  refine PAcc.pushS (bytes := 24) (σb := σ) (hk3.trans k5) (ha.keep k5) rfl (by omega) (by omega) fun v6 h6 k6 a6 o6 n6 l6 => ?_
  simp only [pwA, if_true, if_false, eq_self, nm_eq, reduceCtorEq, ↓reduceIte, nQ10, nQ7, nQ11, nQ12, nQ16, nQ17, nQ18, iQ2, iQ3, iQ4, iQ5, iQ6, lQ19, iQ7, lQ20, wrapS hltr' (by omega : P ≤ 4611686018427387904)]
  have hb6 : Bels 0 (pis (digs P i q) ++ [.int .i64 r]) := by
    have := pis_bel 0 (digs P i q ++ [(r : Int)])
    simpa [pis] using this
  refine ⟨P - (r + 1), by omega, .fzh sR _ (by rw [o6 sR g5 (ha.ne g4)]; exact g2) hb6 fun o1 => .here ⟨r + 1, v6, rows ++ [.fz true (.sl o1 0 (i + 1) cR) (i + 1) (pis (digs P i q) ++ [.int .i64 r])], by omega, rfl, ?_, ?_, ?_, ?_⟩⟩
  · have := (PSl.fzr w k6 a6 (s := sR) (cs := pis (digs P i q) ++ [.int .i64 r]) (by have := hk3.next; omega) (n6 sR g5) o1).2.2
    simp only [sbs, sb, this]
  · exact (PSl.fzr w k6 a6 (by have := hk3.next; omega) (n6 sR g5) o1).1
  · have := (PSl.fzr w k6 a6 (s := sR) (cs := pis (digs P i q) ++ [.int .i64 r]) (by have := hk3.next; omega) (n6 sR g5) o1).2.1
    rw [sbs_row (hrows.bI 0) hcR.ok] at this
    exact this.acc
  · rw [← Nat.add_assoc, take_allE hltr' hltq]
    refine hrows.snoc ⟨true, .sl o1 0 (i + 1) cR, ?_⟩
    rw [List.length_append, digs_length]
    simp [pis]
end Go.Proofs
namespace Go.Proofs
open Go.Ab Go.Lie
variable {σ : PHeap} {K : PV → PHeap → Prop} {p p' : Int} {n : Nat} {W W' : List (List Int)} {B B' : List (List (List Int))} {vP vB vP' vB' vL : PV} {s s' j0 : Nat} {im : List (List Int)}
theorem l31At_ok {P k0 : Nat} (hR : IsR vP vB W B) (hW : W.length = n) (hn : n ≤ 6) (hp : p = (P : Int)) (hP2 : 2 ≤ P ∧ P ≤ 7) (hk0 : k0 ≤ 1000000) (hk : ∀ v, FI v (digs P n k0) → K v σ) : PCalls Try.prog 58 [.agg [.int .i64 p, vP, vB], .int .i64 k0] σ K := by
  subst hp
  have h1 := hR.P.one
  have h2 := hR.B.one
  refine PCalls.gh ?_
  refine pcalls_of_vp mix Try.func58 cf58 rfl ?_
  dsimp only [if58, qI, eI, nI, qD, eD]
  simp only [pwA, if_true, if_false, eq_self, nm_eq, reduceCtorEq, ↓reduceIte, nQ10, nQ7, nQ11, nQ12, nQ16, nQ17, nQ18, iQ2, iQ3, iQ4, iQ5, iQ6, lQ19, iQ7, lQ20, h1, h2]
  refine l31Zero_own hR hW (by omega) fun cap hc => ?_
  have ew : IntKind.i64.wrap ((n : Int) - 1) = (n : Int) - 1 := wrap64 (by omega) (by omega)
  simp only [pwA, if_true, if_false, eq_self, nm_eq, reduceCtorEq, ↓reduceIte, nQ10, nQ7, nQ11, nQ12, nQ16, nQ17, nQ18, iQ2, iQ3, iQ4, iQ5, iQ6, lQ19, iQ7, lQ20, ew]
  refine vp_loop (fun m vs h' => ∃ (c kk : Nat) (out : List Int), c ≤ n ∧ m = c ∧ vs = [.int .i64 kk, .ptr σ.next 0, .sl (σ.next + 1) 0 n cap, .int .i64 ((c : Int) - 1)] ∧ h' = (σ.new [.int .i64 P, vP, vB]).new (pis out) ∧ out.length = n ∧ kk ≤ k0 ∧ digs P c kk ++ out.drop c = digs P n k0) n ?_ ?_
  · refine ⟨n, k0, List.replicate n 0, Nat.le_refl _, rfl, rfl, rfl, by simp, Nat.le_refl _, ?_⟩
    rw [List.drop_of_length_le (by simp), List.append_nil]
  rintro m vs h' ⟨c, kk, out, hcn, rfl, rfl, rfl, hol, hkk, hd⟩
  rcases Nat.eq_zero_or_pos m with rfl | hpos
  · simp only [pwA, if_true, if_false, eq_self, nm_eq, reduceCtorEq, ↓reduceIte, nQ10, nQ7, nQ11, nQ12, nQ16, nQ17, nQ18, iQ2, iQ3, iQ4, iQ5, iQ6, lQ19, iQ7, lQ20, show ¬ ((0 : Int) ≤ ((0 : Nat) : Int) - 1) by omega]
    have he : out = digs P n k0 := by simpa [digs] using hd
    rw [← he] at hk
    clear he hd
    rw [← hol] at hc ⊢
    exact Gh.finF (s := σ.next + 1) ((keep_new σ _).new _) (by simp only [pwA, if_true, if_false, eq_self, nm_eq, reduceCtorEq, ↓reduceIte, nQ10, nQ7, nQ11, nQ12, nQ16, nQ17, nQ18, iQ2, iQ3, iQ4, iQ5, iQ6, lQ19, iQ7, lQ20]) (by omega) (pis_bel _ _) hc.ok fun o1 => hk _ ⟨_, _, rfl⟩
  · obtain ⟨c, rfl⟩ : ∃ c, m = c + 1 := ⟨m - 1, by omega⟩
    have e : ((c + 1 : Nat) : Int) - 1 = (c : Int) := by omega
    have hco : c < out.length := by omega
    have hcn' : c < n := by omega
    have ew2 : IntKind.i64.wrap ((c : Int) - 1) = (c : Int) - 1 := wrap64 (by omega) (by omega)
    rw [e]
    have hP0 : ¬ (P : Int) = 0 := by omega
    have et : (kk : Int).tmod (P : Int) = ((kk % P : Nat) : Int) := rfl
    have ed : (kk : Int).tdiv (P : Int) = ((kk / P : Nat) : Int) := rfl
    have hdl : kk / P ≤ kk := Nat.div_le_self _ _
    have ewq : ∀ q : Nat, q ≤ kk → IntKind.i64.wrap (q : Int) = (q : Int) := fun q hq => wrap64 (by omega) (by omega)
    have ewq := ewq _ hdl
    have hco1 : c + 1 ≤ out.length := hco
    have hset := pis_set_at hco (x := ((kk % P : Nat) : Int))
    simp only [pwA, if_true, if_false, eq_self, nm_eq, reduceCtorEq, ↓reduceIte, nQ10, nQ7, nQ11, nQ12, nQ16, nQ17, nQ18, iQ2, iQ3, iQ4, iQ5, iQ6, lQ19, iQ7, lQ20, hP0, et, ed, ewq, hcn', hco1, pis_length, hset, ew2]
    refine ⟨c, Nat.lt_succ_self c, c, kk / P, out.set c ((kk % P : Nat) : Int), by omega, rfl, rfl, rfl, by rw [List.length_set]; exact hol, Nat.le_trans hdl hkk, ?_⟩
    rw [← hd, digs, List.append_assoc]
    congr 1
    rw [List.drop_eq_getElem_cons (by rw [List.length_set]; exact hco), List.getElem_set_self, List.drop_set_of_lt (by omega)]
    rfl
end Go.Proofs
namespace Go.Lie
open Go.Ab
variable {p : Int} {n : Nat} {W : List (List Int)}
theorem last_not {Q : Nat → Prop} (h0 : ¬ Q 0) : ∀ N, Q N → ∃ k, ¬ Q k ∧ Q (k + 1)
  | 0, h => absurd h h0
  | N + 1, h => by
    by_cases g : Q N
    · exact last_not h0 N g
    · exact ⟨N, g, h⟩
theorem step_ex (o : OkW p n W) {m v : List (List Int)} (hm : Base p n W m) (hv : Base p n W v) (hlt : m.length < v.length) : ∃ x, El p n x ∧ Gen p n W v (at_ x) ∧ ¬ Gen p n W m (at_ x) ∧ Gen p n W m fun j => p * at_ x j := by
  have hw : ∃ w ∈ v, ¬ Gen p n W m (at_ w) := by
    by_cases h : ∃ w ∈ v, ¬ Gen p n W m (at_ w)
    · exact h
    · have h' : ∀ w ∈ v, Gen p n W m (at_ w) := fun w hw => by
        by_cases g : Gen p n W m (at_ w)
        · exact g
        · exact absurd ⟨w, hw, g⟩ h
      have := (base_le o hv hm fun f hf => gen_mono h' hf).1
      omega
  obtain ⟨w, hwv, hwm⟩ := hw
  have hwe := hv.els w hwv
  have hS := gen_sub (p := p) (n := n) (W := W) m
  obtain ⟨k, h1, h2⟩ := last_not (Q := fun k => Gen p n W m fun j => pw_ p k * at_ w j) (fun h => hwm (hS.eqv _ _ (Eqv.of_eq fun j => by simp [pw_]) h)) n (hS.eqv _ _ (kill_all o fun j hj => hwe.beyond hj) hS.zero)
  have hg : Gen p n W v fun j => pw_ p k * at_ w j := (gen_sub v).mul _ _ (gen_mem hwv)
  obtain ⟨x, hx, e, hxv⟩ := gen_rep o hv.els hg
  refine ⟨x, hx, hxv, fun h => h1 (hS.eqv _ _ e h), hS.eqv _ _ ((e.symm.mul p).trans (Eqv.of_eq fun j => ?_)) h2⟩
  rw [pw_]
  grind
theorem sum_step (o : OkW p n W) (hp : p = 2 ∨ p = 3 ∨ p = 5 ∨ p = 7) {u v t : List (List Int)} (hu : Base p n W u) (hv : Base p n W v) (ht : Canon p n W (u ++ v) t) : ∀ (d : Nat) {m s : List (List Int)}, Canon p n W m m → Canon p n W (u ++ m) s → (∀ f, Gen p n W m f → Gen p n W v f) → (∀ f, Gen p n W u f → Gen p n W v f → Gen p n W m f) → v.length - m.length = d → s.length + v.length = t.length + m.length
  | 0, m, s, hm, hs, h1, h2, hd => by
    have hb := base_le o hm.base hv h1
    have he := hb.2 (by omega)
    have : s = t := canon_unique o hs.base hs.red ht.base ht.red (fun f hf => (ht.gen f).1 (gen_mono (fun x hx => ?_) ((hs.gen f).2 hf))) (fun f hf => (hs.gen f).1 (gen_mono (fun x hx => ?_) ((ht.gen f).2 hf)))
    · rw [this]; omega
    · rcases List.mem_append.1 hx with e | e
      · exact gen_mem (List.mem_append_left _ e)
      · exact gen_sublist (fun z hz => List.mem_append_right _ hz) (h1 _ (gen_mem e))
    · rcases List.mem_append.1 hx with e | e
      · exact gen_mem (List.mem_append_left _ e)
      · exact gen_sublist (fun z hz => List.mem_append_right _ hz) (he _ (gen_mem e))
  | d + 1, m, s, hm, hs, h1, h2, hd => by
    obtain ⟨x, hx, hxv, hxm, hpx⟩ := step_ex o hm.base hv (by omega)
    obtain ⟨m', hm', lm⟩ := span_new o hp hm hx hpx fun h => hxm ((redL_in o hm.base hx).1 h)
    have hS := gen_sub (p := p) (n := n) (W := W) m
    have hxs : ¬ Gen p n W s (at_ x) := fun h => by
      have hsum : IsSub p n W fun f => ∃ a b, Gen p n W u a ∧ Gen p n W m b ∧ Eqv p n W f fun j => a j + b j := by
        refine ⟨⟨_, _, (gen_sub u).zero, hS.zero, Eqv.of_eq fun j => by omega⟩, ?_, ?_, ?_⟩
        · rintro f g ⟨a, b, q1, q2, q3⟩ ⟨a', b', q1', q2', q3'⟩
          exact ⟨_, _, (gen_sub u).add _ _ q1 q1', hS.add _ _ q2 q2', (q3.add q3').trans (Eqv.of_eq fun j => by omega)⟩
        · rintro k f ⟨a, b, q1, q2, q3⟩
          exact ⟨_, _, (gen_sub u).mul k _ q1, hS.mul k _ q2, (q3.mul k).trans (Eqv.of_eq fun j => by rw [Int.mul_add])⟩
        · rintro f g e ⟨a, b, q1, q2, q3⟩
          exact ⟨a, b, q1, q2, e.trans q3⟩
      obtain ⟨a, b, q1, q2, q3⟩ := gen_le hsum (fun y hy => by
        rcases List.mem_append.1 hy with e | e
        · exact ⟨_, _, gen_mem e, hS.zero, Eqv.of_eq fun j => by omega⟩
        · exact ⟨_, _, (gen_sub u).zero, gen_mem e, Eqv.of_eq fun j => by omega⟩) ((hs.gen _).2 h)
      have hav : Gen p n W v a := (gen_sub v).eqv _ _ (by
        have := (q3.add (Eqv.refl fun j => -1 * b j)).symm
        exact (Eqv.of_eq fun j => by omega).trans this) ((gen_sub v).add _ _ hxv ((gen_sub v).mul (-1) _ (h1 _ q2)))
      exact hxm (hS.eqv _ _ q3 (hS.add _ _ (h2 a q1 hav) q2))
    have hpx' : Gen p n W (u ++ m) fun j => p * at_ x j := gen_sublist (fun z hz => List.mem_append_right _ hz) hpx
    obtain ⟨s', hs', ls⟩ := span_new o hp hs hx hpx' fun h => hxs ((redL_in o hs.base hx).1 h)
    have hc : Canon p n W (u ++ m') s' := hs'.trans fun f => by
      refine ⟨gen_mono fun y hy => ?_, gen_mono fun y hy => ?_⟩
      · rcases List.mem_append.1 hy with e | e
        · exact gen_mem (by simp [e])
        · refine gen_sublist (fun z hz => ?_) ((hm'.gen _).2 (gen_mem e))
          rcases List.mem_cons.1 hz with e | e <;> simp [e]
      · rcases List.mem_cons.1 hy with e | e
        · rw [e]; exact gen_sublist (fun z hz => List.mem_append_right _ hz) ((hm'.gen _).1 (gen_mem (by simp)))
        · rcases List.mem_append.1 e with e | e
          · exact gen_mem (List.mem_append_left _ e)
          · exact gen_sublist (fun z hz => List.mem_append_right _ hz) ((hm'.gen _).1 (gen_mem (by simp [e])))
    have ih := sum_step o hp hu hv ht d (m := m') (s := s') hm'.self hc (fun f hf => gen_le (gen_sub v) (fun y hy => by
      rcases List.mem_cons.1 hy with e | e
      · rw [e]; exact hxv
      · exact h1 _ (gen_mem e)) ((hm'.gen f).2 hf)) (fun f ha hb => (hm'.gen f).1 (gen_sublist (fun z hz => by simp [hz]) (h2 f ha hb))) (by omega)
    omega
theorem sum_meet (o : OkW p n W) (hp : p = 2 ∨ p = 3 ∨ p = 5 ∨ p = 7) {u v t m : List (List Int)} (hu : Canon p n W u u) (hv : Base p n W v) (ht : Canon p n W (u ++ v) t) (hm : Canon p n W m m) (h1 : ∀ f, Gen p n W m f → Gen p n W u f ∧ Gen p n W v f) (h2 : ∀ x, El p n x → Gen p n W u (at_ x) → Gen p n W v (at_ x) → Gen p n W m (at_ x)) : t.length + m.length = u.length + v.length := by
  have hs : Canon p n W (u ++ m) u := hu.trans fun f => ⟨gen_mono fun y hy => by
    rcases List.mem_append.1 hy with e | e
    · exact gen_mem e
    · exact (h1 _ (gen_mem e)).1, gen_sublist fun y hy => List.mem_append_left _ hy⟩
  have := sum_step o hp hu.base hv ht _ hm hs (fun f hf => (h1 f hf).2) (fun f ha hb => by
    obtain ⟨z, hz, e, hg⟩ := gen_rep o hu.base.els ha
    exact (gen_sub m).eqv _ _ e (h2 z hz hg ((gen_sub v).eqv _ _ e.symm hb))) rfl
  omega
end Go.Lie
namespace Go.Proofs
open Go.Ab
def if4 : IFn := ⟨[0], [(.tmp 2)], (.seq (.region [0] [qI 2 (.mv (.c (.bool false)))])
  (.seq (.seq (.region [0, 24] [qI 23 (.mv (.t 0)), eI 24 (.call 6 [(.t 23)])])
  (.cond (.t 24) (.seq (.region [2] [qI 2 (.mv (.c (.bool true)))])
  .ret) .skip))
  (.seq (.region [3, 4, 5] [qI 26 (.mv (.t 0)), eI 27 (.call 13 [(.t 26)]), qI 25 (.mv (.t 27)), qI 28 (.extract (.t 25) 0), qI 29 (.extract (.t 25) 1), qI 30 (.extract (.t 25) 2), eI 3 (.alloc [(.int .i64 0), .nils, .nils]), nI (.store 3 (.t 3) (.t 28)), qI 4 (.mv (.t 29)), qI 5 (.mv (.t 30))])
  (.seq (.region [3, 4, 5, 6, 7] [qI 32 (.load true 3 (.t 3)), qI 33 (.mv (.t 4)), qI 34 (.mv (.t 5)), eI 35 (.call 14 [(.t 32), (.t 33), (.t 34)]), qI 31 (.mv (.t 35)), qI 36 (.extract (.t 31) 0), qI 37 (.extract (.t 31) 1), qI 6 (.mv (.t 36)), qI 7 (.mv (.t 37))])
  (.seq (.region [3, 4, 5, 6, 7, 8, 9] [qI 39 (.load true 3 (.t 3)), qI 40 (.mv (.t 4)), qI 41 (.mv (.t 5)), eI 42 (.call 15 [(.t 39), (.t 40), (.t 41)]), qI 38 (.mv (.t 42)), qI 43 (.extract (.t 38) 0), qI 44 (.extract (.t 38) 1), qI 8 (.mv (.t 43)), qI 9 (.mv (.t 44))])
  (.seq (.region [3, 4, 5, 6, 7, 8, 9, 10, 11] [qI 46 (.load true 3 (.t 3)), qI 47 (.mv (.t 4)), qI 48 (.mv (.t 5)), eI 49 (.call 16 [(.t 46), (.t 47), (.t 48)]), qI 45 (.mv (.t 49)), qI 50 (.extract (.t 45) 0), qI 51 (.extract (.t 45) 1), qI 10 (.mv (.t 50)), qI 11 (.mv (.t 51))])
  (.seq (.region [3, 4, 5, 6, 7, 8, 9, 10, 11, 12, 13] [qI 53 (.load true 3 (.t 3)), qI 54 (.mv (.t 4)), qI 55 (.mv (.t 5)), eI 56 (.call 17 [(.t 53), (.t 54), (.t 55)]), qI 52 (.mv (.t 56)), qI 57 (.extract (.t 52) 0), qI 58 (.extract (.t 52) 1), qI 12 (.mv (.t 57)), qI 13 (.mv (.t 58))])
  (.seq (.seq (.region [3, 4, 5, 7, 8, 12, 78] [qI 59 (.mv (.t 7)), qI 60 (.mv (.t 9)), qI 61 (.bin .neq .other (.t 59) (.t 60)), qI 62 (.mv (.t 61)), ⟨(some 63), .mv (.t 6), true, (some (62, false))⟩, ⟨(some 64), .mv (.t 8), true, (some (62, false))⟩, ⟨(some 65), .call 18 [(.t 63), (.t 64)], false, (some (62, false))⟩, ⟨(some 66), .un .not (.t 65), true, (some (62, false))⟩, qI 67 (.pick (.t 62) (.c (.bool true)) (.t 66)), qI 68 (.mv (.t 67)), ⟨(some 69), .mv (.t 11), true, (some (68, false))⟩, ⟨(some 70), .mv (.t 13), true, (some (68, false))⟩, ⟨(some 71), .bin .neq .other (.t 69) (.t 70), true, (some (68, false))⟩, qI 72 (.pick (.t 68) (.c (.bool true)) (.t 71)), qI 73 (.mv (.t 72)), ⟨(some 74), .mv (.t 10), true, (some (73, false))⟩, ⟨(some 75), .mv (.t 12), true, (some (73, false))⟩, ⟨(some 76), .call 18 [(.t 74), (.t 75)], false, (some (73, false))⟩, ⟨(some 77), .un .not (.t 76), true, (some (73, false))⟩, qI 78 (.pick (.t 73) (.c (.bool true)) (.t 77))])
  (.cond (.t 78) (.seq (.region [2] [qI 2 (.mv (.c (.bool false)))])
  .ret) .skip))
  (.seq (.seq (.region [3, 4, 5, 8, 12, 80] [qI 79 (.mv (.t 7)), qI 80 (.bin .neq .other (.t 79) (.c (.int .i64 0)))])
  (.cond (.t 80) (.seq (.region [2] [qI 2 (.mv (.c (.bool true)))])
  .ret) .skip))
  (.seq (.seq (.region [3, 4, 5, 8, 12, 103] [qI 81 (.mv (.t 8)), qI 82 (.len (.t 81)), qI 83 (.mv (.t 12)), qI 84 (.len (.t 83)), qI 85 (.bin .add .other (.t 82) (.t 84)), qI 86 (.mv (.t 4)), qI 87 (.len (.t 86)), qI 88 (.mv (.t 5)), qI 89 (.len (.t 88)), qI 90 (.bin .add .other (.t 87) (.t 89)), qI 91 (.bin .neq .other (.t 85) (.t 90)), qI 92 (.mv (.t 91)), ⟨(some 93), .load true 3 (.t 3), true, (some (92, false))⟩, ⟨(some 94), .mv (.t 8), true, (some (92, false))⟩, ⟨(some 95), .call 19 [(.t 93), (.t 94)], false, (some (92, false))⟩, ⟨(some 96), .un .not (.t 95), true, (some (92, false))⟩, qI 97 (.pick (.t 92) (.c (.bool true)) (.t 96)), qI 98 (.mv (.t 97)), ⟨(some 99), .load true 3 (.t 3), true, (some (98, false))⟩, ⟨(some 100), .mv (.t 12), true, (some (98, false))⟩, ⟨(some 101), .call 19 [(.t 99), (.t 100)], false, (some (98, false))⟩, ⟨(some 102), .un .not (.t 101), true, (some (98, false))⟩, qI 103 (.pick (.t 98) (.c (.bool true)) (.t 102))])
  (.cond (.t 103) (.seq (.region [2] [qI 2 (.mv (.c (.bool false)))])
  .ret) .skip))
  (.seq (.region [3, 4, 5, 8, 12, 14] [eI 104 (.buildSl 1 0 [.nils] []), qI 14 (.mv (.t 104))])
  (.seq (.seq (.region [3, 4, 5, 8, 12, 14, 15] [qI 105 (.mv (.t 5)), qI 106 (.len (.t 105)), qI 107 (.bin .sub .other (.t 106) (.c (.int .i64 1))), qI 15 (.mv (.t 107))])
  (.block 0 (.loop [3, 4, 5, 8, 12, 14, 15] (.seq (.seq (.region [3, 4, 5, 8, 12, 14, 15, 109] [qI 108 (.mv (.t 15)), qI 109 (.bin .geq .other (.t 108) (.c (.int .i64 0)))])
  (.cond (.t 109) .skip (.exit 0)))
  (.seq (.block 1 (.region [3, 4, 5, 8, 12, 14, 15] [qI 112 (.mv (.t 14)), qI 113 (.mv (.t 5)), qI 114 (.mv (.t 15)), qI 115 (.indexAddr 1 (.t 113) (.t 114)), qI 116 (.load false 1 (.t 115)), eI 117 (.buildSl 1 1 [.nils] [(0, 1, (.t 116))]), eI 118 (.append 1 24 (.t 112) (.t 117)), qI 14 (.mv (.t 118))]))
  (.region [3, 4, 5, 8, 12, 14, 15] [qI 110 (.mv (.t 15)), qI 111 (.bin .sub .other (.t 110) (.c (.int .i64 1))), qI 15 (.mv (.t 111))]))))))
  (.seq (.region [3, 4, 5, 8, 12, 14] [qI 119 (.mv (.t 14)), qI 120 (.mv (.t 4)), eI 121 (.append 1 24 (.t 119) (.t 120)), qI 14 (.mv (.t 121))])
  (.seq (.region [3, 4, 5, 8, 12, 16, 17] [qI 123 (.load true 3 (.t 3)), qI 124 (.mv (.t 14)), eI 125 (.call 20 [(.t 123), (.t 124)]), qI 122 (.mv (.t 125)), qI 126 (.extract (.t 122) 0), qI 127 (.extract (.t 122) 1), qI 16 (.mv (.t 126)), qI 17 (.mv (.t 127))])
  (.seq (.seq (.region [3, 4, 5, 12, 135] [qI 128 (.mv (.t 17)), qI 129 (.bin .neq .other (.t 128) (.c (.int .i64 0))), qI 130 (.mv (.t 129)), ⟨(some 131), .mv (.t 16), true, (some (130, false))⟩, ⟨(some 132), .mv (.t 8), true, (some (130, false))⟩, ⟨(some 133), .call 18 [(.t 131), (.t 132)], false, (some (130, false))⟩, ⟨(some 134), .un .not (.t 133), true, (some (130, false))⟩, qI 135 (.pick (.t 130) (.c (.bool true)) (.t 134))])
  (.cond (.t 135) (.seq (.region [2] [qI 2 (.mv (.c (.bool false)))])
  .ret) .skip))
  (.seq (.seq (.region [3, 4, 5, 12, 18] [qI 18 (.mv (.c (.int .i64 0)))])
  (.block 2 (.loop [3, 4, 5, 12, 18] (.seq (.seq (.region [3, 4, 5, 12, 18, 139] [qI 136 (.mv (.t 18)), qI 137 (.mv (.t 12)), qI 138 (.len (.t 137)), qI 139 (.bin .lss .other (.t 136) (.t 138))])
  (.cond (.t 139) .skip (.exit 2)))
  (.seq (.block 3 (.seq (.draw [3, 4, 5, 12, 18, 19, 20] [] [qD 143 (.load true 3 (.t 3)) 0, qD 144 (.mv (.t 4)) 1, qD 145 (.mv (.t 12)) 2, qD 146 (.mv (.t 18)) 3, qD 147 (.indexAddr 1 (.t 145) (.t 146)) 4, qD 148 (.load false 1 (.t 147)) 5, eD 149 (.call 21 [(.t 143), (.t 144), (.t 148)]) 6 [], qD 142 (.mv (.t 149)) 7, qD 150 (.extract (.t 142) 0) 8, qD 151 (.extract (.t 142) 1) 9, qD 19 (.mv (.t 150)) 10, qD 20 (.mv (.t 151)) 11])
  (.seq (.draw [3, 4, 5, 12, 18, 19, 20, 21, 22] [] [qD 153 (.load true 3 (.t 3)) 0, qD 154 (.mv (.t 5)) 1, qD 155 (.mv (.t 12)) 2, qD 156 (.mv (.t 18)) 3, qD 157 (.indexAddr 1 (.t 155) (.t 156)) 4, qD 158 (.load false 1 (.t 157)) 5, eD 159 (.call 21 [(.t 153), (.t 154), (.t 158)]) 6 [], qD 152 (.mv (.t 159)) 7, qD 160 (.extract (.t 152) 0) 8, qD 161 (.extract (.t 152) 1) 9, qD 21 (.mv (.t 160)) 10, qD 22 (.mv (.t 161)) 11])
  (.seq (.region [3, 4, 5, 12, 18, 175] [qI 162 (.mv (.t 20)), qI 163 (.bin .neq .other (.t 162) (.c (.int .i64 0))), qI 164 (.mv (.t 163)), ⟨(some 165), .mv (.t 22), true, (some (164, false))⟩, ⟨(some 166), .bin .neq .other (.t 165) (.c (.int .i64 0)), true, (some (164, false))⟩, qI 167 (.pick (.t 164) (.c (.bool true)) (.t 166)), qI 168 (.mv (.t 167)), ⟨(some 169), .mv (.t 19), true, (some (168, false))⟩, ⟨(some 170), .un .not (.t 169), true, (some (168, false))⟩, qI 171 (.pick (.t 168) (.c (.bool true)) (.t 170)), qI 172 (.mv (.t 171)), ⟨(some 173), .mv (.t 21), true, (some (172, false))⟩, ⟨(some 174), .un .not (.t 173), true, (some (172, false))⟩, qI 175 (.pick (.t 172) (.c (.bool true)) (.t 174))])
  (.cond (.t 175) (.seq (.region [2] [qI 2 (.mv (.c (.bool false)))])
  .ret) .skip)))))
  (.region [3, 4, 5, 12, 18] [qI 140 (.mv (.t 18)), qI 141 (.bin .add .other (.t 140) (.c (.int .i64 1))), qI 18 (.mv (.t 141))]))))))
  (.seq (.region [2] [qI 2 (.mv (.c (.bool true)))])
  .ret)))))))))))))))))⟩
theorem cf4 : cF Try.prog Try.f4 = some if4 := by kernel_rfl
end Go.Proofs
namespace Go.Proofs.Ytpcjbkbcaiphmaa
open Go.ChangeShapes Go.WideShapes Go.ChangeAt Go.RowKit Go.Ab Go.Joins Go.Lie Go.Proofs
theorem own : ownKnob Try.prog.godebug = none := by kernel_rfl
theorem laidOut : laidOutB Try.prog = true := by kernel_rfl
variable {H : Type} {enc : TypeId × Value → H} {W w0 : World} {j : Inj} {h : AHeap}
end Go.Proofs.Ytpcjbkbcaiphmaa
