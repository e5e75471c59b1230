/- What a law is handed, laid as frozen values: Lie rings, lists of elements. -/
import Derived.Test.YtpcjbkbcaiphmaaGreatCP28
import Derived.Test.YtpcjbkbcaiphmaaGreatCP29
import Derived.Test.YtpcjbkbcaiphmaaGreatCAbPz
import Derived.Test.YtpcjbkbcaiphmaaGreatCP31
import Derived.Test.YtpcjbkbcaiphmaaGreatCP27
import Derived.Test.YtpcjbkbcaiphmaaGreatCAbPt
import Derived.Test.YtpcjbkbcaiphmaaGreatChecked
import Derived.Test.YtpcjbkbcaiphmaaGreatRows
import Derived.Lib.SmallJoins
import Derived.WalkKit
import Derived.ProofKit
open Nat renaming reduceLeDiff → nQ7, reduceEqDiff → nQ10, reduceBEq → nQ11, reduceAdd → nQ12, reduceLT → nQ16, reduceSub → nQ17, reduceMul → nQ18
open Int renaming reduceEq → iQ2, reduceLT → iQ3, reduceLE → iQ4, reduceNeg → iQ5, reduceToNat → iQ6, ofNat_le → iQ7
open List renaming reduceReplicate → lQ19, getElem?_drop → lQ20
set_option linter.unusedVariables false
set_option linter.unusedSimpArgs false
namespace Go.Grp
open Go.Ab Go.Lie
section
variable {α : Type} {S : α → Prop} {m : α → α → α} {e : α}
end
variable {O : List Int} {P : List (List Int)} {C : List (List (List Int))}
abbrev nx (x : List Int) (j : Nat) : Nat := (at_ x j).toNat
end Go.Grp
namespace Go.Grp
end Go.Grp
namespace Go.Proofs
open Go.Ab Go.Lie Go.Grp
variable {σ : PHeap} {K : PV → PHeap → Prop} {O : List Int} {P : List (List Int)} {C : List (List (List Int))} {vO vP vC vx : PV} {s : Nat} {x : List Int} {rP rC : List PV}
theorem pisAt {i : Nat} (h : i < x.length) : (pis x)[i]? = some (.int .i64 (at_ x i)) := by rw [pis_get, gi h, at_eq h]; rfl
end Go.Proofs
namespace Go.Grp
end Go.Grp
namespace Go.Proofs
open Go.Ab Go.Lie Go.Grp
variable {σ : PHeap} {K : PV → PHeap → Prop} {M : List (List PV)} {vM : PV}
def FC (v : PV) (cs : List PV) : Prop := ∃ w a, v = .fz w a cs.length cs
def RoomC (σ h : PHeap) (v : PV) : Prop := ∃ s cs, v = .sl s 0 0 (.grown 1) ∧ h.obj s = some cs ∧ σ.next ≤ s ∧ s < h.next
theorem GrowC_ok {c : Nat} (hc : c ≤ 1048576) (h0 : ∀ v h, Keep σ h → (PAcc σ.next 1 h v 0 [] ∨ (0 < c ∧ RoomC σ h v)) → K v h) : PCalls Tryz.prog 215 [.fz true .nils 0 [], .int .i64 c] σ K := by
  have hcn : ¬ (c : Int) < 0 := by omega
  have z0 : IntKind.i64.wrap ((0 : Int) - ((0 : Nat) : Int)) = 0 := rfl
  have z1 : IntKind.i64.wrap ((c : Int) - 0) = (c : Int) := by rw [wrap64 (by omega) (by omega)]; omega
  have z2 : pslA 1 .nils 0 0 = .nils := rfl
  refine pcalls_of_vp mix Tryz.func215 cf215 rfl ?_
  dsimp only [if215, qI, eI, nI, qD, eD]
  simp only [pwA, if_true, if_false, eq_self, nm_eq, reduceCtorEq, ↓reduceIte, nQ10, nQ7, nQ11, nQ12, nQ16, nQ17, nQ18, iQ2, iQ3, iQ4, iQ5, iQ6, lQ19, iQ7, lQ20, hcn, z0, z1]
  by_cases hz : c = 0
  · subst hz
    simp only [pwA, if_true, if_false, eq_self, nm_eq, reduceCtorEq, ↓reduceIte, nQ10, nQ7, nQ11, nQ12, nQ16, nQ17, nQ18, iQ2, iQ3, iQ4, iQ5, iQ6, lQ19, iQ7, lQ20]
    exact h0 _ _ (Keep.refl σ) (.inl (PAcc.nil _ _ _))
  · have hpos : (0 : Int) < (c : Int) := by omega
    have hb : (c : Int) * ((24 : Nat) : Int) ≤ 140737488355328 := by omega
    have hb2 : (c : Int) ≤ 4611686018427387904 := by omega
    simp only [pwA, if_true, if_false, eq_self, nm_eq, reduceCtorEq, ↓reduceIte, nQ10, nQ7, nQ11, nQ12, nQ16, nQ17, nQ18, iQ2, iQ3, iQ4, iQ5, iQ6, lQ19, iQ7, lQ20, hpos, hb, hb2, z2, pis_rep, Nat.zero_le]
    exact h0 _ _ (keep_new σ _) (.inr ⟨by omega, _, _, rfl, by rw [pobj_new, if_pos rfl], Nat.le_refl _, Nat.lt_succ_self _⟩)
theorem flatC_take {i : Nat} (hi : i < M.length) : (M.take (i + 1)).flatten = (M.take i).flatten ++ M[i] := by
  rw [List.take_succ_eq_append_getElem hi, List.flatten_append]; simp
theorem flatC_le (M : List (List PV)) (i : Nat) : (M.take i).flatten.length ≤ M.flatten.length := by
  have : M.flatten.length = (M.take i).flatten.length + (M.drop i).flatten.length := by
    rw [← List.length_append, ← List.flatten_append, List.take_append_drop]
  omega
theorem ConcatC_ok {wM : Bool} {aM : AV} {rM : List PV} (hrM : All2 FC rM M) (hbM : ∀ c ∈ M, Bels 0 c) (hml : M.length ≤ 1048576) (hb : M.flatten.length ≤ 1048576) (hk : ∀ a, K (.fz true a M.flatten.length M.flatten) σ) : PCalls Tryz.prog 132 [.fz wM aM M.length rM] σ K := by
  have hbf : Bels 0 M.flatten := Bels_iff.2 fun c hc => by
    obtain ⟨l, hl, hc⟩ := List.mem_flatten.1 hc
    exact Bels_iff.1 (hbM l hl) c hc
  refine PCalls.gh ?_
  refine pcalls_of_vp mix Tryz.func132 cf132 rfl ?_
  dsimp only [if132, qI, eI, nI, qD, eD]
  simp only [pwA, if_true, if_false, eq_self, nm_eq, reduceCtorEq, ↓reduceIte, nQ10, nQ7, nQ11, nQ12, nQ16, nQ17, nQ18, iQ2, iQ3, iQ4, iQ5, iQ6, lQ19, iQ7, lQ20]
  refine vp_loop (fun m us h' => ∃ i : Nat, i ≤ M.length ∧ m = M.length - i ∧ us = [.fz wM aM M.length rM, .int .i64 (M.take i).flatten.length, .fz wM aM M.length rM, .int .i64 M.length, .int .i64 i] ∧ σ = h') M.length ?_ ?_
  · exact ⟨0, by omega, by omega, rfl, rfl⟩
  rintro m us h' ⟨i, hi, rfl, rfl, rfl⟩
  have hfl := flatC_le M i
  simp only [pwA, if_true, if_false, eq_self, nm_eq, reduceCtorEq, ↓reduceIte, nQ10, nQ7, nQ11, nQ12, nQ16, nQ17, nQ18, iQ2, iQ3, iQ4, iQ5, iQ6, lQ19, iQ7, lQ20]
  refine iteI (fun hlt => ?_) fun hge => ?_
  · obtain ⟨_, hr, w4, a4, rfl⟩ := hrM.get hlt
    have hfl2 := flatC_le M (i + 1)
    have e := congrArg List.length (flatC_take hlt)
    rw [List.length_append] at e
    have ew : IntKind.i64.wrap (((M.take i).flatten.length : Int) + (M[i].length : Int)) = (((M.take i).flatten.length + M[i].length : Nat) : Int) := by rw [wrap64 (by omega) (by omega)]; omega
    have hnn : ¬ (((M.take i).flatten.length + M[i].length : Nat) : Int) < 0 := by omega
    simp only [pwA, if_true, if_false, eq_self, nm_eq, reduceCtorEq, ↓reduceIte, nQ10, nQ7, nQ11, nQ12, nQ16, nQ17, nQ18, iQ2, iQ3, iQ4, iQ5, iQ6, lQ19, iQ7, lQ20, hlt, hr, ew, hnn, wrapS hlt (by omega : M.length ≤ 4611686018427387904)]
    refine ⟨_, by omega, i + 1, by omega, rfl, ?_⟩
    rw [e]
  have hie : i = M.length := by omega
  subst hie
  rw [List.take_length]
  simp only [pwA, if_true, if_false, eq_self, nm_eq, reduceCtorEq, ↓reduceIte, nQ10, nQ7, nQ11, nQ12, nQ16, nQ17, nQ18, iQ2, iQ3, iQ4, iQ5, iQ6, lQ19, iQ7, lQ20]
  refine GrowC_ok (by omega) fun v0 h0 hk0 hv0 => ?_
  simp only [pwA, if_true, if_false, eq_self, nm_eq, reduceCtorEq, ↓reduceIte, nQ10, nQ7, nQ11, nQ12, nQ16, nQ17, nQ18, iQ2, iQ3, iQ4, iQ5, iQ6, lQ19, iQ7, lQ20]
  refine vp_loop (fun m us h' => ∃ (i : Nat) (vX : PV), i ≤ M.length ∧ m = M.length - i ∧ us = [vX, .fz wM aM M.length rM, .int .i64 M.length, .int .i64 i] ∧ Keep σ h' ∧ (PAcc σ.next 1 h' vX (M.take i).flatten.length (M.take i).flatten ∨ ((M.take i).flatten = [] ∧ 0 < M.flatten.length ∧ RoomC σ h' vX))) M.length ?_ ?_
  · exact ⟨0, v0, by omega, by omega, rfl, hk0, hv0.imp (fun h => h) fun h => ⟨rfl, h⟩⟩
  clear hi hge hfl hk0 hv0 v0 h0
  rintro m us h' ⟨i, vX, hi, rfl, rfl, hkp, ha⟩
  have hfl := flatC_le M i
  simp only [pwA, if_true, if_false, eq_self, nm_eq, reduceCtorEq, ↓reduceIte, nQ10, nQ7, nQ11, nQ12, nQ16, nQ17, nQ18, iQ2, iQ3, iQ4, iQ5, iQ6, lQ19, iQ7, lQ20]
  refine iteI (fun hlt => ?_) fun hge => ?_
  rotate_left
  · have hie : i = M.length := by omega
    subst hie
    rw [List.take_length] at ha
    rcases ha with ha | ⟨h1, h2, _⟩
    · exact ha.fin hkp hbf fun a => hk _
    · rw [h1] at h2; cases h2
  obtain ⟨_, hr, w4, a4, rfl⟩ := hrM.get hlt
  have hfl2 := flatC_le M (i + 1)
  have e := congrArg List.length (flatC_take hlt)
  rw [List.length_append] at e
  simp only [pwA, if_true, if_false, eq_self, nm_eq, reduceCtorEq, ↓reduceIte, nQ10, nQ7, nQ11, nQ12, nQ16, nQ17, nQ18, iQ2, iQ3, iQ4, iQ5, iQ6, lQ19, iQ7, lQ20, hlt, hr]
  have hnx : ∀ v' h2, Keep σ h2 → (PAcc σ.next 1 h2 v' ((M.take i).flatten.length + M[i].length) ((M.take i).flatten ++ M[i]) ∨ ((M.take (i + 1)).flatten = [] ∧ 0 < M.flatten.length ∧ RoomC σ h2 v')) → (PAcc σ.next 1 h2 v' (M.take (i + 1)).flatten.length (M.take (i + 1)).flatten ∨ ((M.take (i + 1)).flatten = [] ∧ 0 < M.flatten.length ∧ RoomC σ h2 v')) := fun v' h2 k h => h.imp (fun h => by rwa [e, flatC_take hlt]) fun h => h
  rcases ha with ha | ⟨h1, h2, s, cs, rfl, ho, hs1, hs2⟩
  · refine PAcc.cat (σb := σ) (bytes := 24) hkp ha rfl (by omega) (by omega) fun v' h2 k2 a2 => ?_
    simp only [pwA, if_true, if_false, eq_self, nm_eq, reduceCtorEq, ↓reduceIte, nQ10, nQ7, nQ11, nQ12, nQ16, nQ17, nQ18, iQ2, iQ3, iQ4, iQ5, iQ6, lQ19, iQ7, lQ20, wrapS hlt (by omega : M.length ≤ 4611686018427387904)]
    exact ⟨_, by omega, i + 1, v', by omega, rfl, rfl, k2, hnx _ _ k2 (.inl a2)⟩
  · by_cases hz : M[i].length = 0
    · have hnil : M[i] = [] := List.eq_nil_of_length_eq_zero hz
      have hap : pappend 1 24 h' (.sl s 0 0 (.grown 1)) (.fz w4 a4 M[i].length M[i]) = some (.sl s 0 0 (.grown 1), h') := by
        rw [pappend_eq, plen_fz, Option.bind_some, if_pos hz]; rfl
      simp only [pwA, if_true, if_false, eq_self, nm_eq, reduceCtorEq, ↓reduceIte, nQ10, nQ7, nQ11, nQ12, nQ16, nQ17, nQ18, iQ2, iQ3, iQ4, iQ5, iQ6, lQ19, iQ7, lQ20, hap, wrapS hlt (by omega : M.length ≤ 4611686018427387904)]
      refine ⟨_, by omega, i + 1, _, by omega, rfl, rfl, hkp, .inr ⟨by rw [flatC_take hlt, h1, hnil]; rfl, h2, s, cs, rfl, ho, hs1, hs2⟩⟩
    · have hap : pappend 1 24 h' (.sl s 0 0 (.grown 1)) (.fz w4 a4 M[i].length M[i]) = some (.sl h'.next 0 M[i].length (.grown 1), (h'.kill s).new M[i]) := by
        rw [pappend_eq, plen_fz, Option.bind_some, if_neg hz, pfirst_fz, if_neg hz, if_pos ⟨Nat.le_refl _, by omega, by omega⟩, Option.bind_some, pgrow_grown, if_pos ⟨by omega, by omega, rfl⟩, ho, Option.bind_some, if_pos (by omega)]
        rw [List.drop_zero, Nat.zero_mul, List.take_zero, List.nil_append, Nat.mul_one, List.take_of_length_le (Nat.le_refl _), Nat.zero_add]
      simp only [pwA, if_true, if_false, eq_self, nm_eq, reduceCtorEq, ↓reduceIte, nQ10, nQ7, nQ11, nQ12, nQ16, nQ17, nQ18, iQ2, iQ3, iQ4, iQ5, iQ6, lQ19, iQ7, lQ20, hap, wrapS hlt (by omega : M.length ≤ 4611686018427387904)]
      refine ⟨_, by omega, i + 1, _, by omega, rfl, rfl, (hkp.kill hs1).new _, .inl ?_⟩
      rw [flatC_take hlt, h1, List.nil_append]
      exact (PSl.own (.inl rfl) (by rw [pobj_new]; exact if_pos rfl) (by omega) hkp.next (Nat.lt_succ_self _)).acc
end Go.Proofs
namespace Go.Proofs
open Go.Ab
def if7 : IFn := ⟨[0], [(.tmp 2)], (.seq (.region [0] [qI 2 (.mv (.c (.bool false)))])
  (.seq (.seq (.region [0, 44] [qI 43 (.mv (.t 0)), eI 44 (.call 12 [(.t 43)])])
  (.cond (.t 44) (.seq (.region [2] [qI 2 (.mv (.c (.bool true)))])
  .ret) .skip))
  (.seq (.region [0, 3, 4] [qI 46 (.mv (.t 0)), eI 47 (.call 52 [(.t 46)]), qI 45 (.mv (.t 47)), qI 48 (.extract (.t 45) 0), qI 49 (.extract (.t 45) 1), eI 3 (.alloc [(.int .i64 0), .nils, .nils]), nI (.store 3 (.t 3) (.t 48)), qI 4 (.mv (.t 49))])
  (.seq (.region [0, 3, 4, 5, 6] [qI 51 (.load true 3 (.t 3)), qI 52 (.mv (.t 4)), eI 53 (.call 46 [(.t 51), (.t 52)]), qI 50 (.mv (.t 53)), qI 54 (.extract (.t 50) 0), qI 55 (.extract (.t 50) 1), qI 5 (.mv (.t 54)), qI 6 (.mv (.t 55))])
  (.seq (.region [0, 3, 5, 6, 7, 8] [qI 57 (.load true 3 (.t 3)), qI 58 (.mv (.t 4)), eI 59 (.call 47 [(.t 57), (.t 58)]), qI 56 (.mv (.t 59)), qI 60 (.extract (.t 56) 0), qI 61 (.extract (.t 56) 1), qI 7 (.mv (.t 60)), qI 8 (.mv (.t 61))])
  (.seq (.seq (.region [0, 3, 6, 7, 70] [qI 62 (.mv (.t 6)), qI 63 (.mv (.t 8)), qI 64 (.bin .neq .other (.t 62) (.t 63)), qI 65 (.mv (.t 64)), ⟨(some 66), .mv (.t 5), true, (some (65, false))⟩, ⟨(some 67), .mv (.t 7), true, (some (65, false))⟩, ⟨(some 68), .call 30 [(.t 66), (.t 67)], false, (some (65, false))⟩, ⟨(some 69), .un .not (.t 68), true, (some (65, false))⟩, qI 70 (.pick (.t 65) (.c (.bool true)) (.t 69))])
  (.cond (.t 70) (.seq (.region [2] [qI 2 (.mv (.c (.bool false)))])
  .ret) .skip))
  (.seq (.seq (.region [0, 3, 7, 72] [qI 71 (.mv (.t 6)), qI 72 (.bin .neq .other (.t 71) (.c (.int .i64 0)))])
  (.cond (.t 72) (.seq (.region [2] [qI 2 (.mv (.c (.bool true)))])
  .ret) .skip))
  (.seq (.region [0, 3, 7, 9, 10] [qI 74 (.load true 3 (.t 3)), qI 75 (.mv (.t 7)), eI 76 (.call 53 [(.t 74), (.t 75)]), qI 73 (.mv (.t 76)), qI 77 (.extract (.t 73) 0), qI 78 (.extract (.t 73) 1), qI 9 (.mv (.t 77)), qI 10 (.mv (.t 78))])
  (.seq (.region [0, 3, 7, 9, 10, 11, 12] [qI 80 (.load true 3 (.t 3)), qI 81 (.mv (.t 7)), eI 82 (.call 54 [(.t 80), (.t 81)]), qI 79 (.mv (.t 82)), qI 83 (.extract (.t 79) 0), qI 84 (.extract (.t 79) 1), eI 11 (.alloc [(.int .i64 0), .nils, .nils]), nI (.store 3 (.t 11) (.t 83)), qI 12 (.mv (.t 84))])
  (.seq (.region [0, 3, 7, 9, 10, 11, 12, 13, 14] [qI 86 (.load true 3 (.t 3)), qI 87 (.mv (.t 7)), eI 88 (.call 55 [(.t 86), (.t 87)]), qI 85 (.mv (.t 88)), qI 89 (.extract (.t 85) 0), qI 90 (.extract (.t 85) 1), eI 13 (.alloc [(.int .i64 0), .nils, .nils]), nI (.store 3 (.t 13) (.t 89)), qI 14 (.mv (.t 90))])
  (.seq (.seq (.region [0, 3, 7, 13, 127] [qI 91 (.mv (.t 10)), qI 92 (.bin .neq .other (.t 91) (.c (.int .i64 0))), qI 93 (.mv (.t 92)), ⟨(some 94), .mv (.t 9), true, (some (93, false))⟩, ⟨(some 95), .un .not (.t 94), true, (some (93, false))⟩, qI 96 (.pick (.t 93) (.c (.bool true)) (.t 95)), qI 97 (.mv (.t 96)), ⟨(some 98), .mv (.t 12), true, (some (97, false))⟩, ⟨(some 99), .bin .neq .other (.t 98) (.c (.int .i64 0)), true, (some (97, false))⟩, qI 100 (.pick (.t 97) (.c (.bool true)) (.t 99)), qI 101 (.mv (.t 100)), ⟨(some 102), .mv (.t 14), true, (some (101, false))⟩, ⟨(some 103), .bin .neq .other (.t 102) (.c (.int .i64 0)), true, (some (101, false))⟩, qI 104 (.pick (.t 101) (.c (.bool true)) (.t 103)), qI 105 (.mv (.t 104)), ⟨(some 106), .load true 3 (.t 11), true, (some (105, false))⟩, ⟨(some 107), .load true 3 (.t 13), true, (some (105, false))⟩, ⟨(some 108), .call 56 [(.t 106), (.t 107)], false, (some (105, false))⟩, ⟨(some 109), .un .not (.t 108), true, (some (105, false))⟩, qI 110 (.pick (.t 105) (.c (.bool true)) (.t 109)), qI 111 (.mv (.t 110)), ⟨(some 112), .load true 3 (.t 13), true, (some (111, false))⟩, ⟨(some 113), .call 57 [(.t 112)], false, (some (111, false))⟩, ⟨(some 114), .un .not (.t 113), true, (some (111, false))⟩, qI 115 (.pick (.t 111) (.c (.bool true)) (.t 114)), qI 116 (.mv (.t 115)), ⟨(some 117), .fieldAddr 1 (.t 13), true, (some (116, false))⟩, ⟨(some 118), .load false 1 (.t 117), true, (some (116, false))⟩, ⟨(some 119), .len (.t 118), true, (some (116, false))⟩, ⟨(some 120), .mv (.t 7), true, (some (116, false))⟩, ⟨(some 121), .len (.t 120), true, (some (116, false))⟩, ⟨(some 122), .bin .add .other (.t 119) (.t 121), true, (some (116, false))⟩, ⟨(some 123), .fieldAddr 1 (.t 3), true, (some (116, false))⟩, ⟨(some 124), .load false 1 (.t 123), true, (some (116, false))⟩, ⟨(some 125), .len (.t 124), true, (some (116, false))⟩, ⟨(some 126), .bin .neq .other (.t 122) (.t 125), true, (some (116, false))⟩, qI 127 (.pick (.t 116) (.c (.bool true)) (.t 126))])
  (.cond (.t 127) (.seq (.region [2] [qI 2 (.mv (.c (.bool false)))])
  .ret) .skip))
  (.seq (.region [3, 7, 13, 15] [qI 128 (.mv (.t 0)), eI 129 (.call 17 [(.t 128), (.c (.int .u64 3201))]), qI 15 (.mv (.t 129))])
  (.seq (.region [3, 7, 13, 15, 16, 17] [eI 130 (.buildSl 1 0 [(.int .i64 0)] []), eI 131 (.buildSl 1 0 [(.int .i64 0)] []), qI 16 (.mv (.t 130)), qI 17 (.mv (.t 131))])
  (.seq (.seq (.region [3, 7, 13, 15, 16, 17, 18] [qI 18 (.mv (.c (.int .i64 0)))])
  (.block 0 (.loop [3, 7, 13, 15, 16, 17, 18] (.seq (.seq (.region [3, 7, 13, 15, 16, 17, 18, 136] [qI 132 (.mv (.t 18)), qI 133 (.fieldAddr 1 (.t 3)), qI 134 (.load false 1 (.t 133)), qI 135 (.len (.t 134)), qI 136 (.bin .lss .other (.t 132) (.t 135))])
  (.cond (.t 136) .skip (.exit 0)))
  (.seq (.block 1 (.seq (.region [3, 7, 13, 15, 16, 17, 18] [qI 139 (.mv (.t 16)), qI 140 (.mv (.t 15)), qI 141 (.fieldAddr 0 (.t 3)), qI 142 (.load false 1 (.t 141)), eI 143 (.call 18 [(.t 140), (.t 142)]), eI 144 (.buildSl 1 1 [(.int .i64 0)] [(0, 1, (.t 143))]), eI 145 (.append 1 8 (.t 139) (.t 144)), qI 16 (.mv (.t 145))])
  (.region [3, 7, 13, 15, 16, 17, 18] [qI 146 (.mv (.t 17)), qI 147 (.mv (.t 15)), qI 148 (.fieldAddr 0 (.t 3)), qI 149 (.load false 1 (.t 148)), eI 150 (.call 18 [(.t 147), (.t 149)]), eI 151 (.buildSl 1 1 [(.int .i64 0)] [(0, 1, (.t 150))]), eI 152 (.append 1 8 (.t 146) (.t 151)), qI 17 (.mv (.t 152))])))
  (.region [3, 7, 13, 15, 16, 17, 18] [qI 137 (.mv (.t 18)), qI 138 (.bin .add .other (.t 137) (.c (.int .i64 1))), qI 18 (.mv (.t 138))]))))))
  (.seq (.region [3, 7, 13, 16, 17, 19, 20] [qI 154 (.load true 3 (.t 3)), qI 155 (.mv (.t 7)), qI 156 (.mv (.t 16)), eI 157 (.call 58 [(.t 154), (.t 155), (.t 156)]), qI 153 (.mv (.t 157)), qI 158 (.extract (.t 153) 0), qI 159 (.extract (.t 153) 1), qI 19 (.mv (.t 158)), qI 20 (.mv (.t 159))])
  (.seq (.region [3, 7, 13, 16, 17, 19, 20, 21, 22] [qI 161 (.load true 3 (.t 3)), qI 162 (.mv (.t 7)), qI 163 (.mv (.t 17)), eI 164 (.call 58 [(.t 161), (.t 162), (.t 163)]), qI 160 (.mv (.t 164)), qI 165 (.extract (.t 160) 0), qI 166 (.extract (.t 160) 1), qI 21 (.mv (.t 165)), qI 22 (.mv (.t 166))])
  (.seq (.region [3, 7, 13, 16, 17, 19, 20, 21, 22, 23] [qI 168 (.load true 3 (.t 3)), qI 169 (.mv (.t 7)), qI 170 (.mv (.t 16)), eI 171 (.call 59 [(.t 168), (.t 169), (.t 170)]), qI 167 (.mv (.t 171)), qI 172 (.extract (.t 167) 0), qI 173 (.extract (.t 167) 1), qI 23 (.mv (.t 172)), qI 24 (.mv (.t 173))])
  (.seq (.region [3, 7, 13, 16, 17, 19, 20, 21, 22, 23, 25] [qI 175 (.load true 3 (.t 3)), qI 176 (.mv (.t 7)), qI 177 (.mv (.t 17)), eI 178 (.call 59 [(.t 175), (.t 176), (.t 177)]), qI 174 (.mv (.t 178)), qI 179 (.extract (.t 174) 0), qI 180 (.extract (.t 174) 1), qI 25 (.mv (.t 179)), qI 26 (.mv (.t 180))])
  (.seq (.seq (.region [3, 7, 13, 16, 17, 23, 25, 198] [qI 181 (.mv (.t 20)), qI 182 (.bin .neq .other (.t 181) (.c (.int .i64 0))), qI 183 (.mv (.t 182)), ⟨(some 184), .mv (.t 22), true, (some (183, false))⟩, ⟨(some 185), .bin .neq .other (.t 184) (.c (.int .i64 0)), true, (some (183, false))⟩, qI 186 (.pick (.t 183) (.c (.bool true)) (.t 185)), qI 187 (.mv (.t 186)), ⟨(some 188), .mv (.t 19), true, (some (187, false))⟩, ⟨(some 189), .mv (.t 23), true, (some (187, false))⟩, ⟨(some 190), .call 16 [(.t 188), (.t 189)], false, (some (187, false))⟩, ⟨(some 191), .un .not (.t 190), true, (some (187, false))⟩, qI 192 (.pick (.t 187) (.c (.bool true)) (.t 191)), qI 193 (.mv (.t 192)), ⟨(some 194), .mv (.t 21), true, (some (193, false))⟩, ⟨(some 195), .mv (.t 25), true, (some (193, false))⟩, ⟨(some 196), .call 16 [(.t 194), (.t 195)], false, (some (193, false))⟩, ⟨(some 197), .un .not (.t 196), true, (some (193, false))⟩, qI 198 (.pick (.t 193) (.c (.bool true)) (.t 197))])
  (.cond (.t 198) (.seq (.region [2] [qI 2 (.mv (.c (.bool false)))])
  .ret) .skip))
  (.seq (.region [3, 7, 13, 16, 17, 23, 25, 27] [qI 200 (.load true 3 (.t 3)), qI 201 (.mv (.t 16)), qI 202 (.mv (.t 17)), eI 203 (.call 33 [(.t 200), (.t 201), (.t 202)]), qI 199 (.mv (.t 203)), qI 204 (.extract (.t 199) 0), qI 205 (.extract (.t 199) 1), qI 27 (.mv (.t 204)), qI 28 (.mv (.t 205))])
  (.seq (.region [3, 7, 13, 23, 25, 27, 29] [qI 207 (.load true 3 (.t 3)), qI 208 (.mv (.t 16)), qI 209 (.mv (.t 17)), eI 210 (.call 34 [(.t 207), (.t 208), (.t 209)]), qI 206 (.mv (.t 210)), qI 211 (.extract (.t 206) 0), qI 212 (.extract (.t 206) 1), qI 29 (.mv (.t 211)), qI 30 (.mv (.t 212))])
  (.seq (.region [3, 7, 13, 23, 25, 29, 31, 32] [qI 214 (.load true 3 (.t 3)), qI 215 (.mv (.t 7)), qI 216 (.mv (.t 27)), eI 217 (.call 58 [(.t 214), (.t 215), (.t 216)]), qI 213 (.mv (.t 217)), qI 218 (.extract (.t 213) 0), qI 219 (.extract (.t 213) 1), qI 31 (.mv (.t 218)), qI 32 (.mv (.t 219))])
  (.seq (.region [13, 23, 25, 31, 32, 33, 34] [qI 221 (.load true 3 (.t 3)), qI 222 (.mv (.t 7)), qI 223 (.mv (.t 29)), eI 224 (.call 58 [(.t 221), (.t 222), (.t 223)]), qI 220 (.mv (.t 224)), qI 225 (.extract (.t 220) 0), qI 226 (.extract (.t 220) 1), qI 33 (.mv (.t 225)), qI 34 (.mv (.t 226))])
  (.seq (.region [13, 23, 25, 31, 32, 33, 34, 35, 36] [qI 228 (.load true 3 (.t 13)), qI 229 (.mv (.t 23)), qI 230 (.mv (.t 25)), eI 231 (.call 31 [(.t 228), (.t 229), (.t 230)]), qI 227 (.mv (.t 231)), qI 232 (.extract (.t 227) 0), qI 233 (.extract (.t 227) 1), qI 35 (.mv (.t 232)), qI 36 (.mv (.t 233))])
  (.seq (.region [13, 23, 25, 31, 32, 33, 34, 35, 36, 37, 38] [qI 235 (.load true 3 (.t 13)), qI 236 (.mv (.t 23)), qI 237 (.mv (.t 25)), eI 238 (.call 32 [(.t 235), (.t 236), (.t 237)]), qI 234 (.mv (.t 238)), qI 239 (.extract (.t 234) 0), qI 240 (.extract (.t 234) 1), qI 37 (.mv (.t 239)), qI 38 (.mv (.t 240))])
  (.seq (.region [13, 23, 25, 31, 32, 33, 34, 35, 36, 37, 38, 39] [qI 242 (.load true 3 (.t 13)), qI 243 (.mv (.t 23)), qI 244 (.mv (.t 25)), eI 245 (.call 33 [(.t 242), (.t 243), (.t 244)]), qI 241 (.mv (.t 245)), qI 246 (.extract (.t 241) 0), qI 247 (.extract (.t 241) 1), qI 39 (.mv (.t 246)), qI 40 (.mv (.t 247))])
  (.seq (.region [31, 32, 33, 34, 35, 36, 37, 38, 39, 41] [qI 249 (.load true 3 (.t 13)), qI 250 (.mv (.t 23)), qI 251 (.mv (.t 25)), eI 252 (.call 34 [(.t 249), (.t 250), (.t 251)]), qI 248 (.mv (.t 252)), qI 253 (.extract (.t 248) 0), qI 254 (.extract (.t 248) 1), qI 41 (.mv (.t 253)), qI 42 (.mv (.t 254))])
  (.seq (.region [2] [qI 255 (.mv (.t 32)), qI 256 (.bin .eql .other (.t 255) (.c (.int .i64 0))), qI 257 (.mv (.t 256)), ⟨(some 258), .mv (.t 34), true, (some (257, true))⟩, ⟨(some 259), .bin .eql .other (.t 258) (.c (.int .i64 0)), true, (some (257, true))⟩, qI 260 (.pick (.t 257) (.t 259) (.c (.bool false))), qI 261 (.mv (.t 260)), ⟨(some 262), .mv (.t 36), true, (some (261, true))⟩, ⟨(some 263), .bin .eql .other (.t 262) (.c (.int .i64 0)), true, (some (261, true))⟩, qI 264 (.pick (.t 261) (.t 263) (.c (.bool false))), qI 265 (.mv (.t 264)), ⟨(some 266), .mv (.t 38), true, (some (265, true))⟩, ⟨(some 267), .bin .eql .other (.t 266) (.c (.int .i64 0)), true, (some (265, true))⟩, qI 268 (.pick (.t 265) (.t 267) (.c (.bool false))), qI 269 (.mv (.t 268)), ⟨(some 270), .mv (.t 31), true, (some (269, true))⟩, ⟨(some 271), .mv (.t 39), true, (some (269, true))⟩, ⟨(some 272), .call 16 [(.t 270), (.t 271)], false, (some (269, true))⟩, qI 273 (.pick (.t 269) (.t 272) (.c (.bool false))), qI 274 (.mv (.t 273)), ⟨(some 275), .mv (.t 35), true, (some (274, true))⟩, ⟨(some 276), .mv (.t 39), true, (some (274, true))⟩, ⟨(some 277), .call 16 [(.t 275), (.t 276)], false, (some (274, true))⟩, qI 278 (.pick (.t 274) (.t 277) (.c (.bool false))), qI 279 (.mv (.t 278)), ⟨(some 280), .mv (.t 33), true, (some (279, true))⟩, ⟨(some 281), .mv (.t 41), true, (some (279, true))⟩, ⟨(some 282), .call 16 [(.t 280), (.t 281)], false, (some (279, true))⟩, qI 283 (.pick (.t 279) (.t 282) (.c (.bool false))), qI 284 (.mv (.t 283)), ⟨(some 285), .mv (.t 37), true, (some (284, true))⟩, ⟨(some 286), .mv (.t 41), true, (some (284, true))⟩, ⟨(some 287), .call 16 [(.t 285), (.t 286)], false, (some (284, true))⟩, qI 288 (.pick (.t 284) (.t 287) (.c (.bool false))), qI 2 (.mv (.t 288))])
  .ret))))))))))))))))))))))))))))⟩
theorem cf7 : cF Tryz.prog Tryz.f7 = some if7 := by kernel_rfl
end Go.Proofs
namespace Go.Proofs.YtpcjbkbcaiphmaaGreat
open Go.ChangeShapes Go.WideShapes Go.ChangeAt Go.RowKit Go.Ab Go.Joins Go.Lie Go.Proofs
theorem own : ownKnob Tryz.prog.godebug = none := by kernel_rfl
theorem laidOut : laidOutB Tryz.prog = true := by kernel_rfl
variable {H : Type} {enc : TypeId × Value → H} {W w0 : World} {j : Inj} {h : AHeap}
end Go.Proofs.YtpcjbkbcaiphmaaGreat
