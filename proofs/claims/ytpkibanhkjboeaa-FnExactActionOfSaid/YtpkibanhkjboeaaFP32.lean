/- What a law is handed, laid as frozen values: modules and matrices. -/
import Derived.Test.YtpkibanhkjboeaaFP30
import Derived.Test.YtpkibanhkjboeaaFP26
import Derived.Test.YtpkibanhkjboeaaFP27
import Derived.Test.YtpkibanhkjboeaaFAbPt
import Derived.Test.YtpkibanhkjboeaaChecked
import Derived.Test.YtpkibanhkjboeaaRows
import Derived.Lib.SmallJoins
import Derived.WalkKit
import Derived.ProofKit
set_option linter.unusedSimpArgs false
set_option linter.unusedVariables false
namespace Go.Proofs
open Go.Ab Go.Lie Go.Grp Go.Mx
variable {σ : PHeap} {K : PV → PHeap → Prop} {p d p' d' c : Int} {n n' : Nat} {As Bs : List (List (List Int))} {F F' : List (List Int)} {vA vB vF vF' : PV} {O : List Int} {P : List (List Int)} {C : List (List (List Int))} {vO vP vC : PV} {s s' : Nat}
theorem eqMatrix_ok {c' : Int} (hF : FII vF F) (hF' : FII vF' F') (sz : SzL F) (hk : ∀ t : Bool, (t = true ↔ p = p' ∧ c = c' ∧ F = F') → K (.bool t) σ) : PCalls Try.prog 30 [.agg [.int .i64 p, .int .i64 c, vF], .agg [.int .i64 p', .int .i64 c', vF']] σ K := by
  have h1 := hF.one
  have h2 := hF'.one
  refine PCalls.gh ?_
  have hkp : Keep σ ((σ.new [.int .i64 p, .int .i64 c, vF]).new [.int .i64 p', .int .i64 c', vF']) := (keep_new σ _).new _
  have fin : ∀ {t : Bool}, (t = true ↔ p = p' ∧ c = c' ∧ F = F') → Gh σ K (.bool t) ((σ.new [.int .i64 p, .int .i64 c, vF]).new [.int .i64 p', .int .i64 c', vF']) := fun h => Gh.fin0 hkp trivial (hk _ h)
  have fl : ∀ {A : Prop}, ¬ A → ((false = true) ↔ A) := fun h => ⟨fun x => (by cases x), fun x => absurd x h⟩
  refine pcalls_of_vp mix Try.func30 cf30 rfl ?_
  dsimp only [if30, qI, eI, nI, qD, eD]
  by_cases e1 : p = p'
  rotate_left
  · simp only [pwA, if_true, if_false, eq_self, nm_eq, reduceCtorEq, ↓reduceIte, Nat.reduceEqDiff, Nat.reduceLeDiff, Nat.reduceBEq, Nat.reduceAdd, Nat.reduceLT, Nat.reduceSub, Nat.reduceMul, Int.reduceEq, Int.reduceLT, Int.reduceLE, Int.reduceNeg, Int.reduceToNat, List.reduceReplicate, Int.ofNat_le, List.getElem?_drop, h1, h2, e1]
    exact fin (fl fun h => e1 h.1)
  by_cases e2 : c = c'
  rotate_left
  · simp only [pwA, if_true, if_false, eq_self, nm_eq, reduceCtorEq, ↓reduceIte, Nat.reduceEqDiff, Nat.reduceLeDiff, Nat.reduceBEq, Nat.reduceAdd, Nat.reduceLT, Nat.reduceSub, Nat.reduceMul, Int.reduceEq, Int.reduceLT, Int.reduceLE, Int.reduceNeg, Int.reduceToNat, List.reduceReplicate, Int.ofNat_le, List.getElem?_drop, h1, h2, eq_true e1, e2]
    exact fin (fl fun h => e2 h.2.1)
  simp only [pwA, if_true, if_false, eq_self, nm_eq, reduceCtorEq, ↓reduceIte, Nat.reduceEqDiff, Nat.reduceLeDiff, Nat.reduceBEq, Nat.reduceAdd, Nat.reduceLT, Nat.reduceSub, Nat.reduceMul, Int.reduceEq, Int.reduceLT, Int.reduceLE, Int.reduceNeg, Int.reduceToNat, List.reduceReplicate, Int.ofNat_le, List.getElem?_drop, h1, h2, eq_true e1, eq_true e2]
  refine eqInt64SS_ok hF hF' sz fun t ht' => ?_
  have := fin (t := t) ⟨fun h => ⟨e1, e2, ht'.1 h⟩, fun h => ht'.2 h.2.2⟩
  cases t with
  | false =>
    simp only [pwA, if_true, if_false, eq_self, nm_eq, reduceCtorEq, ↓reduceIte, Nat.reduceEqDiff, Nat.reduceLeDiff, Nat.reduceBEq, Nat.reduceAdd, Nat.reduceLT, Nat.reduceSub, Nat.reduceMul, Int.reduceEq, Int.reduceLT, Int.reduceLE, Int.reduceNeg, Int.reduceToNat, List.reduceReplicate, Int.ofNat_le, List.getElem?_drop]
    exact this
  | true =>
    simp only [pwA, if_true, if_false, eq_self, nm_eq, reduceCtorEq, ↓reduceIte, Nat.reduceEqDiff, Nat.reduceLeDiff, Nat.reduceBEq, Nat.reduceAdd, Nat.reduceLT, Nat.reduceSub, Nat.reduceMul, Int.reduceEq, Int.reduceLT, Int.reduceLE, Int.reduceNeg, Int.reduceToNat, List.reduceReplicate, Int.ofNat_le, List.getElem?_drop]
    exact this
end Go.Proofs
namespace Go.Proofs
open Go.Ab
/-- loop.example/g01076/laws.FnExactActionOf -/
def if5 : IFn := ⟨[0, 1, 2], [(.tmp 6)], (.seq (.region [2, 3, 4] [eI 3 (.box (.t 0)), eI 4 (.box (.t 1)), qI 6 (.mv (.c (.bool false)))])
  (.seq (.seq (.region [2, 3, 4, 22] [qI 20 (.mv (.t 2)), qI 21 (.len (.t 20)), qI 22 (.bin .gtr .other (.t 21) (.c (.int .i64 1048576)))])
  (.cond (.t 22) (.seq (.region [6] [qI 6 (.mv (.c (.bool true)))])
  .ret) .skip))
  (.seq (.region [2, 3, 4, 7] [qI 7 (.mv (.c (.int .i64 1048576)))])
  (.seq (.region [2, 3, 4, 7] [qI 23 (.load true 3 (.t 3)), qI 24 (.mv (.t 7)), eI 25 (.call 12 [(.t 23), (.t 24)]), qI 7 (.mv (.t 25))])
  (.seq (.seq (.region [2, 3, 4, 7, 27] [qI 26 (.mv (.t 7)), qI 27 (.bin .lss .other (.t 26) (.c (.int .i64 0)))])
  (.cond (.t 27) (.seq (.region [6] [qI 6 (.mv (.c (.bool true)))])
  .ret) .skip))
  (.seq (.region [2, 3, 4, 7] [qI 28 (.load true 3 (.t 4)), qI 29 (.mv (.t 7)), eI 30 (.call 13 [(.t 28), (.t 29)]), qI 7 (.mv (.t 30))])
  (.seq (.seq (.region [2, 3, 4, 32] [qI 31 (.mv (.t 7)), qI 32 (.bin .lss .other (.t 31) (.c (.int .i64 0)))])
  (.cond (.t 32) (.seq (.region [6] [qI 6 (.mv (.c (.bool true)))])
  .ret) .skip))
  (.seq (.draw [2, 3, 4, 8, 9] [[(.int .i64 0), (.int .i64 0), .nils]] [qD 34 (.load true 3 (.t 3)) 0, qD 36 (.load true 3 (.t 4)) 2, qD 38 (.mv (.t 2)) 4, qD 8 (.rev 0) 10, eD 35 (.call 15 [(.t 34)]) 1 [2], eD 37 (.call 16 [(.t 36)]) 3 [], eD 39 (.call 21 [(.t 38)]) 5 [], eD 40 (.call 28 [(.t 35), (.t 37), (.t 39)]) 6 [], qD 33 (.mv (.t 40)) 7, qD 41 (.extract (.t 33) 0) 8, qD 42 (.extract (.t 33) 1) 9, ⟨nI (.store 3 (.t 8) (.t 41)), 11, []⟩, qD 9 (.mv (.t 42)) 12])
  (.seq (.region [2, 3, 4, 8, 9, 10] [qI 43 (.load true 3 (.t 3)), eI 44 (.call 15 [(.t 43)]), eI 10 (.alloc [.nils, .nils, .nils]), nI (.store 3 (.t 10) (.t 44))])
  (.seq (.region [2, 3, 4, 8, 9, 10, 11] [qI 45 (.load true 3 (.t 4)), eI 46 (.call 16 [(.t 45)]), eI 11 (.alloc [(.int .i64 0), (.int .i64 0), .nils]), nI (.store 3 (.t 11) (.t 46))])
  (.seq (.region [2, 3, 4, 8, 9, 10, 11, 12] [qI 47 (.mv (.t 2)), eI 48 (.call 21 [(.t 47)]), qI 12 (.mv (.t 48))])
  (.seq (.region [2, 3, 4, 8, 9, 10, 11, 12, 13, 14] [qI 50 (.load true 3 (.t 10)), qI 51 (.load true 3 (.t 11)), qI 52 (.mv (.t 12)), eI 53 (.call 29 [(.t 50), (.t 51), (.t 52)]), qI 49 (.mv (.t 53)), qI 54 (.extract (.t 49) 0), qI 55 (.extract (.t 49) 1), eI 13 (.alloc [(.int .i64 0), (.int .i64 0), .nils]), nI (.store 3 (.t 13) (.t 54)), qI 14 (.mv (.t 55))])
  (.seq (.seq (.region [2, 3, 4, 8, 9, 10, 11, 12, 13, 14, 64] [qI 56 (.load true 3 (.t 13)), qI 57 (.load true 3 (.t 8)), eI 58 (.call 30 [(.t 56), (.t 57)]), qI 59 (.un .not (.t 58)), qI 60 (.mv (.t 59)), ⟨(some 61), .mv (.t 14), true, (some (60, false))⟩, ⟨(some 62), .mv (.t 9), true, (some (60, false))⟩, ⟨(some 63), .bin .neq .other (.t 61) (.t 62), true, (some (60, false))⟩, qI 64 (.pick (.t 60) (.c (.bool true)) (.t 63))])
  (.cond (.t 64) (.seq (.region [6] [qI 6 (.mv (.c (.bool false)))])
  .ret) .skip))
  (.seq (.seq (.draw [2, 3, 4, 8, 9, 10, 11, 12, 13, 14, 69] [] [qD 65 (.load true 3 (.t 10)) 0, qD 66 (.load true 3 (.t 3)) 1, eD 67 (.call 15 [(.t 66)]) 2 [0], eD 68 (.call 18 [(.t 65), (.t 67)]) 3 [], qD 69 (.un .not (.t 68)) 4])
  (.cond (.t 69) (.seq (.region [6] [qI 6 (.mv (.c (.bool false)))])
  .ret) .skip))
  (.seq (.seq (.draw [2, 3, 4, 8, 9, 10, 11, 12, 13, 14, 74] [] [qD 70 (.load true 3 (.t 11)) 0, qD 71 (.load true 3 (.t 4)) 1, eD 72 (.call 16 [(.t 71)]) 2 [0], eD 73 (.call 19 [(.t 70), (.t 72)]) 3 [], qD 74 (.un .not (.t 73)) 4])
  (.cond (.t 74) (.seq (.region [6] [qI 6 (.mv (.c (.bool false)))])
  .ret) .skip))
  (.seq (.seq (.region [2, 3, 4, 8, 9, 10, 11, 12, 13, 14, 79] [qI 75 (.mv (.t 12)), qI 76 (.mv (.t 2)), eI 77 (.call 21 [(.t 76)]), eI 78 (.call 23 [(.t 75), (.t 77)]), qI 79 (.un .not (.t 78))])
  (.cond (.t 79) (.seq (.region [6] [qI 6 (.mv (.c (.bool false)))])
  .ret) .skip))
  (.seq (.region [2, 3, 4, 8, 9, 10, 11, 12, 13, 14, 15] [qI 15 (.mv (.c (.int .i64 1)))])
  (.seq (.region [2, 3, 4, 8, 9, 11, 12, 13, 14, 15] [qI 80 (.load true 3 (.t 10)), qI 81 (.mv (.t 15)), eI 82 (.call 24 [(.t 80), (.t 81)]), qI 15 (.mv (.t 82))])
  (.seq (.region [2, 3, 4, 8, 9, 12, 13, 14, 15] [qI 83 (.load true 3 (.t 11)), qI 84 (.mv (.t 15)), eI 85 (.call 25 [(.t 83), (.t 84)]), qI 15 (.mv (.t 85))])
  (.seq (.region [2, 3, 4, 8, 9, 13, 14, 15] [qI 86 (.mv (.t 12)), qI 87 (.mv (.t 15)), eI 88 (.call 26 [(.t 86), (.t 87)]), qI 15 (.mv (.t 88))])
  (.seq (.seq (.region [2, 3, 4, 8, 9, 13, 101] [qI 89 (.mv (.t 15)), qI 90 (.bin .lss .other (.t 89) (.c (.int .i64 0))), qI 91 (.mv (.t 90)), ⟨(some 92), .load true 3 (.t 13), true, (some (91, false))⟩, ⟨(some 93), .load true 3 (.t 8), true, (some (91, false))⟩, ⟨(some 94), .call 30 [(.t 92), (.t 93)], false, (some (91, false))⟩, ⟨(some 95), .un .not (.t 94), true, (some (91, false))⟩, qI 96 (.pick (.t 91) (.c (.bool true)) (.t 95)), qI 97 (.mv (.t 96)), ⟨(some 98), .mv (.t 14), true, (some (97, false))⟩, ⟨(some 99), .mv (.t 9), true, (some (97, false))⟩, ⟨(some 100), .bin .neq .other (.t 98) (.t 99), true, (some (97, false))⟩, qI 101 (.pick (.t 97) (.c (.bool true)) (.t 100))])
  (.cond (.t 101) (.seq (.region [6] [qI 6 (.mv (.c (.bool false)))])
  .ret) .skip))
  (.seq (.region [2, 3, 4, 8, 9, 13, 16] [qI 16 (.mv (.c (.int .i64 1)))])
  (.seq (.region [2, 3, 4, 8, 9, 13, 16] [qI 102 (.load true 3 (.t 13)), qI 103 (.mv (.t 16)), eI 104 (.call 31 [(.t 102), (.t 103)]), qI 16 (.mv (.t 104))])
  (.seq (.region [2, 3, 4, 8, 9, 13, 16, 17] [qI 17 (.mv (.c (.int .i64 1)))])
  (.seq (.region [2, 3, 4, 8, 9, 13, 16, 17] [qI 105 (.load true 3 (.t 13)), qI 106 (.mv (.t 17)), eI 107 (.call 32 [(.t 105), (.t 106)]), qI 17 (.mv (.t 107))])
  (.seq (.seq (.region [2, 3, 4, 8, 9, 13, 16, 17, 109] [qI 108 (.mv (.t 17)), qI 109 (.bin .lss .other (.t 108) (.c (.int .i64 0)))])
  (.cond (.t 109) (.seq (.region [6] [qI 6 (.mv (.c (.bool false)))])
  .ret) .skip))
  (.seq (.seq (.region [2, 3, 4, 8, 9, 13, 16, 112] [qI 110 (.mv (.t 17)), qI 111 (.mv (.t 16)), qI 112 (.bin .neq .other (.t 110) (.t 111))])
  (.cond (.t 112) (.seq (.region [6] [qI 6 (.mv (.c (.bool false)))])
  .ret) .skip))
  (.seq (.draw [8, 9, 13, 16, 18, 19] [[(.int .i64 0), (.int .i64 0), .nils]] [qD 114 (.load true 3 (.t 3)) 0, qD 116 (.load true 3 (.t 4)) 2, qD 118 (.mv (.t 2)) 4, qD 18 (.rev 0) 10, eD 115 (.call 15 [(.t 114)]) 1 [2], eD 117 (.call 16 [(.t 116)]) 3 [], eD 119 (.call 21 [(.t 118)]) 5 [], eD 120 (.call 29 [(.t 115), (.t 117), (.t 119)]) 6 [], qD 113 (.mv (.t 120)) 7, qD 121 (.extract (.t 113) 0) 8, qD 122 (.extract (.t 113) 1) 9, ⟨nI (.store 3 (.t 18) (.t 121)), 11, []⟩, qD 19 (.mv (.t 122)) 12])
  (.seq (.seq (.region [13, 16, 131] [qI 123 (.load true 3 (.t 18)), qI 124 (.load true 3 (.t 8)), eI 125 (.call 30 [(.t 123), (.t 124)]), qI 126 (.un .not (.t 125)), qI 127 (.mv (.t 126)), ⟨(some 128), .mv (.t 19), true, (some (127, false))⟩, ⟨(some 129), .mv (.t 9), true, (some (127, false))⟩, ⟨(some 130), .bin .neq .other (.t 128) (.t 129), true, (some (127, false))⟩, qI 131 (.pick (.t 127) (.c (.bool true)) (.t 130))])
  (.cond (.t 131) (.seq (.region [6] [qI 6 (.mv (.c (.bool false)))])
  .ret) .skip))
  (.seq (.region [13, 16, 17] [qI 17 (.mv (.c (.int .i64 1)))])
  (.seq (.region [16, 17] [qI 132 (.load true 3 (.t 13)), qI 133 (.mv (.t 17)), eI 134 (.call 32 [(.t 132), (.t 133)]), qI 17 (.mv (.t 134))])
  (.seq (.seq (.region [16, 17, 136] [qI 135 (.mv (.t 17)), qI 136 (.bin .lss .other (.t 135) (.c (.int .i64 0)))])
  (.cond (.t 136) (.seq (.region [6] [qI 6 (.mv (.c (.bool false)))])
  .ret) .skip))
  (.seq (.seq (.region [139] [qI 137 (.mv (.t 17)), qI 138 (.mv (.t 16)), qI 139 (.bin .neq .other (.t 137) (.t 138))])
  (.cond (.t 139) (.seq (.region [6] [qI 6 (.mv (.c (.bool false)))])
  .ret) .skip))
  (.seq (.region [6] [qI 6 (.mv (.c (.bool true)))])
  .ret))))))))))))))))))))))))))))))))))⟩
theorem cf5 : cF Try.prog Try.f5 = some if5 := by kernel_rfl
end Go.Proofs
namespace Go.Proofs.Ytpkibanhkjboeaa
open Go.ChangeShapes Go.WideShapes Go.ChangeAt Go.RowKit Go.Ab Go.Joins Go.Lie Go.Proofs
set_option linter.unusedVariables false
theorem own : ownKnob Try.prog.godebug = none := by kernel_rfl
theorem laidOut : laidOutB Try.prog = true := by kernel_rfl
theorem cell23 : Try.prog.cellsOf 23 = 1 := by kernel_rfl
theorem cell2 : Try.prog.cellsOf 2 = 1 := by kernel_rfl
theorem cell22 : Try.prog.cellsOf 22 = 1 := by kernel_rfl
variable {H : Type} {enc : TypeId × Value → H} {W w0 : World} {j : Inj} {h : AHeap}
/-- Lists of lists. -/
def LII (v : PV) (xs : List (List Int)) : Prop := FII v xs ∧ xs.length ≤ 9223372036854775807 ∧ ∀ x ∈ xs, x.length ≤ 9223372036854775807
def LIII (v : PV) (xs : List (List (List Int))) : Prop := FIII v xs ∧ xs.length ≤ 9223372036854775807 ∧ ∀ q ∈ xs, q.length ≤ 9223372036854775807 ∧ ∀ x ∈ q, x.length ≤ 9223372036854775807
theorem layI : Lay1 enc Try.prog W 22 (fun v (xs : List Int) => FI v xs ∧ xs.length ≤ 9223372036854775807) := lay_ints (e := 2) Try.underlying22 cell2 Try.underlying2
theorem layII : Lay1 enc Try.prog W 23 LII := by
  intro w0 j h held fuel v x m hx
  obtain ⟨j', h', pv, a, g1, g2, g3, g4, g5, g6, g7, g8⟩ := lay_slice Try.underlying23 cell22 layI w0 j h held fuel v x m hx
  exact ⟨j', h', pv, a, g1, g2, g3, g4, g5, g6, g7.imp fun _ _ k => k.1, g8, g7.all fun _ _ k => k.2⟩
theorem layIII : Lay1 enc Try.prog W 24 LIII := by
  intro w0 j h held fuel v x m hx
  obtain ⟨j', h', pv, a, g1, g2, g3, g4, g5, g6, g7, g8⟩ := lay_slice Try.underlying24 cell23 layII w0 j h held fuel v x m hx
  exact ⟨j', h', pv, a, g1, g2, g3, g4, g5, g6, g7.imp fun _ _ k => k.1, g8, g7.all fun _ _ k => k.2⟩
end Go.Proofs.Ytpkibanhkjboeaa
namespace Go.Proofs.Ytpkibanhkjboeaa
open Go.ChangeShapes Go.WideShapes Go.ChangeAt Go.RowKit Go.Ab Go.Joins Go.Lie Go.Proofs
set_option linter.unusedVariables false
theorem cell26 : Try.prog.cellsOf 26 = 3 := by kernel_rfl
variable {H : Type} {enc : TypeId × Value → H} {W w0 : World} {j : Inj} {h : AHeap}
set_option maxRecDepth 100000 in
/-- A presentation that is handed over. -/
theorem layPr {b0 : Nat} {v : Value} {d : DataW H} {q : List MemPlace} (m : MR W.heap.size w0 j h W) (hv : Value.okWide Try.prog W .any b0 26 v) (ht : DataW.Trod enc Try.prog W 0 (fun _ => true) true 26 v d q) :
    ∃ (j' : Inj) (h' : AHeap) (vO vP vC : PV) (Os : List Int) (Ps : List (List Int)) (Cs : List (List (List Int))), MR W.heap.size w0 j' h' W ∧ j.le j' ∧ Ext h h' ∧ VI j' (er idz (.agg [vO, vP, vC])) v ∧ VOK (zlt h') h' 0 (.agg [vO, vP, vC]) ∧ IsPr vO vP vC Os Ps Cs ∧ MxP Os Ps Cs := by
  obtain ⟨v0, v1, v2, y0, y1, y2, n, rfl, rfl, rfl, t0, t1, t2⟩ := open_agg3 Try.underlying26 (by kernel_rfl) cell26 hv ht
  obtain ⟨j0, h0, vO, Os, m0, l0, e0, i0, o0, _, r1, r2⟩ := layI w0 j h true n v0 _ m t0
  obtain ⟨j1, h1, vP, Ws, m1, l1, e1, i1, o1, _, p1, p2, p3⟩ := layII w0 j0 h0 true n v1 _ m0 t1
  obtain ⟨j2, h2, vB, Bs, m2, l2, e2, i2, o2, _, q1, q2, q3⟩ := layIII w0 j1 h1 true n v2 _ m1 t2
  exact ⟨j2, h2, vO, vP, vB, Os, Ws, Bs, m2, (l0.trans l1).trans l2, (e0.trans e1).trans e2, ⟨_, ⟨_, _, rfl, VI.mono (l1.trans l2) _ _ i0, _, _, rfl, VI.mono l2 _ _ i1, _, _, rfl, i2, rfl⟩, rfl⟩, ⟨(e1.trans e2).vok o0, e2.vok o1, o2, trivial⟩, ⟨r1, p1, q1⟩, ⟨r2, p2, p3, q2, q3⟩⟩
end Go.Proofs.Ytpkibanhkjboeaa
namespace Go.Proofs.Ytpkibanhkjboeaa
open Go.ChangeShapes Go.WideShapes Go.ChangeAt Go.RowKit Go.Ab Go.Joins Go.Lie Go.Proofs
set_option linter.unusedVariables false
theorem cell28 : Try.prog.cellsOf 28 = 3 := by kernel_rfl
variable {H : Type} {enc : TypeId × Value → H} {W w0 : World} {j : Inj} {h : AHeap}
set_option maxRecDepth 100000 in
/-- A module that is handed over. -/
theorem layMod {b0 : Nat} {v : Value} {d : DataW H} {q : List MemPlace} (m : MR W.heap.size w0 j h W) (hv : Value.okWide Try.prog W .any b0 28 v) (ht : DataW.Trod enc Try.prog W 0 (fun _ => true) true 28 v d q) :
    ∃ (j' : Inj) (h' : AHeap) (p dd : Int) (vA : PV) (As : List (List (List Int))), MR W.heap.size w0 j' h' W ∧ j.le j' ∧ Ext h h' ∧ VI j' (er idz (.agg [.int .i64 p, .int .i64 dd, vA])) v ∧ VOK (zlt h') h' 0 (.agg [.int .i64 p, .int .i64 dd, vA]) ∧ FIII vA As ∧ MxA As := by
  obtain ⟨v0, v1, v2, y0, y1, y2, n, rfl, rfl, rfl, t0, t1, t2⟩ := open_agg3 Try.underlying28 (by kernel_rfl) cell28 hv ht
  obtain ⟨a, ha, _, _⟩ := DataW.trod_int Try.underlying2 t0
  simp only [List.cons.injEq, and_true] at ha
  subst ha
  obtain ⟨b, hb, _, _⟩ := DataW.trod_int Try.underlying2 t1
  simp only [List.cons.injEq, and_true] at hb
  subst hb
  obtain ⟨j2, h2, vB, Bs, m2, l2, e2, i2, o2, _, q1, q2, q3⟩ := layIII w0 j h true n v2 _ m t2
  exact ⟨j2, h2, a, b, vB, Bs, m2, l2, e2, ⟨_, ⟨_, _, rfl, rfl, _, _, rfl, rfl, _, _, rfl, i2, rfl⟩, rfl⟩, ⟨trivial, trivial, o2, trivial⟩, q1, q2, q3⟩
end Go.Proofs.Ytpkibanhkjboeaa
