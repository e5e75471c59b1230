/- What a law is handed, laid as frozen values: modules and matrices. -/
import Derived.Test.YtpkibanhkjboeaaHP26
import Derived.Test.YtpkibanhkjboeaaHP27
import Derived.Test.YtpkibanhkjboeaaHAbPt
import Derived.Test.YtpkibanhkjboeaaHP28
import Derived.Test.YtpkibanhkjboeaaHP31
import Derived.Test.YtpkibanhkjboeaaChecked
import Derived.Test.YtpkibanhkjboeaaRows
import Derived.Lib.SmallJoins
import Derived.WalkKit
import Derived.ProofKit
namespace Go.Proofs
open Go.Ab
/-- loop.example/g01076/laws.FnExactTensorModule -/
def if7 : IFn := ⟨[0, 1, 2], [(.tmp 6)], (.seq (.region [3, 4, 5] [eI 3 (.box (.t 0)), eI 4 (.box (.t 1)), eI 5 (.box (.t 2)), qI 6 (.mv (.c (.bool false)))])
  (.seq (.region [3, 4, 5, 7] [qI 7 (.mv (.c (.int .i64 1048576)))])
  (.seq (.region [3, 4, 5, 7] [qI 20 (.load true 3 (.t 3)), qI 21 (.mv (.t 7)), eI 22 (.call 12 [(.t 20), (.t 21)]), qI 7 (.mv (.t 22))])
  (.seq (.seq (.region [3, 4, 5, 7, 24] [qI 23 (.mv (.t 7)), qI 24 (.bin .lss .other (.t 23) (.c (.int .i64 0)))])
  (.cond (.t 24) (.seq (.region [6] [qI 6 (.mv (.c (.bool true)))])
  .ret) .skip))
  (.seq (.region [3, 4, 5, 7] [qI 25 (.load true 3 (.t 4)), qI 26 (.mv (.t 7)), eI 27 (.call 13 [(.t 25), (.t 26)]), qI 7 (.mv (.t 27))])
  (.seq (.seq (.region [3, 4, 5, 7, 29] [qI 28 (.mv (.t 7)), qI 29 (.bin .lss .other (.t 28) (.c (.int .i64 0)))])
  (.cond (.t 29) (.seq (.region [6] [qI 6 (.mv (.c (.bool true)))])
  .ret) .skip))
  (.seq (.region [3, 4, 5, 7] [qI 30 (.load true 3 (.t 5)), qI 31 (.mv (.t 7)), eI 32 (.call 13 [(.t 30), (.t 31)]), qI 7 (.mv (.t 32))])
  (.seq (.seq (.region [3, 4, 5, 34] [qI 33 (.mv (.t 7)), qI 34 (.bin .lss .other (.t 33) (.c (.int .i64 0)))])
  (.cond (.t 34) (.seq (.region [6] [qI 6 (.mv (.c (.bool true)))])
  .ret) .skip))
  (.seq (.draw [3, 4, 5, 8, 9] [[(.int .i64 0), (.int .i64 0), .nils]] [qD 36 (.load true 3 (.t 3)) 0, qD 38 (.load true 3 (.t 4)) 2, qD 40 (.load true 3 (.t 5)) 4, qD 8 (.rev 0) 10, eD 37 (.call 15 [(.t 36)]) 1 [2, 4], eD 39 (.call 16 [(.t 38)]) 3 [4], eD 41 (.call 16 [(.t 40)]) 5 [], eD 42 (.call 37 [(.t 37), (.t 39), (.t 41)]) 6 [], qD 35 (.mv (.t 42)) 7, qD 43 (.extract (.t 35) 0) 8, qD 44 (.extract (.t 35) 1) 9, ⟨nI (.store 3 (.t 8) (.t 43)), 11, []⟩, qD 9 (.mv (.t 44)) 12])
  (.seq (.region [3, 4, 5, 8, 9, 10] [qI 45 (.load true 3 (.t 3)), eI 46 (.call 15 [(.t 45)]), eI 10 (.alloc [.nils, .nils, .nils]), nI (.store 3 (.t 10) (.t 46))])
  (.seq (.region [3, 4, 5, 8, 9, 10, 11] [qI 47 (.load true 3 (.t 4)), eI 48 (.call 16 [(.t 47)]), eI 11 (.alloc [(.int .i64 0), (.int .i64 0), .nils]), nI (.store 3 (.t 11) (.t 48))])
  (.seq (.region [3, 4, 5, 8, 9, 10, 11, 12] [qI 49 (.load true 3 (.t 5)), eI 50 (.call 16 [(.t 49)]), eI 12 (.alloc [(.int .i64 0), (.int .i64 0), .nils]), nI (.store 3 (.t 12) (.t 50))])
  (.seq (.region [3, 4, 5, 8, 9, 10, 11, 12, 13, 14] [qI 52 (.load true 3 (.t 10)), qI 53 (.load true 3 (.t 11)), qI 54 (.load true 3 (.t 12)), eI 55 (.call 38 [(.t 52), (.t 53), (.t 54)]), qI 51 (.mv (.t 55)), qI 56 (.extract (.t 51) 0), qI 57 (.extract (.t 51) 1), eI 13 (.alloc [(.int .i64 0), (.int .i64 0), .nils]), nI (.store 3 (.t 13) (.t 56)), qI 14 (.mv (.t 57))])
  (.seq (.seq (.region [3, 4, 5, 8, 9, 10, 11, 12, 13, 14, 66] [qI 58 (.load true 3 (.t 13)), qI 59 (.load true 3 (.t 8)), eI 60 (.call 19 [(.t 58), (.t 59)]), qI 61 (.un .not (.t 60)), qI 62 (.mv (.t 61)), ⟨(some 63), .mv (.t 14), true, (some (62, false))⟩, ⟨(some 64), .mv (.t 9), true, (some (62, false))⟩, ⟨(some 65), .bin .neq .other (.t 63) (.t 64), true, (some (62, false))⟩, qI 66 (.pick (.t 62) (.c (.bool true)) (.t 65))])
  (.cond (.t 66) (.seq (.region [6] [qI 6 (.mv (.c (.bool false)))])
  .ret) .skip))
  (.seq (.seq (.draw [3, 4, 5, 8, 9, 10, 11, 12, 13, 14, 71] [] [qD 67 (.load true 3 (.t 10)) 0, qD 68 (.load true 3 (.t 3)) 1, eD 69 (.call 15 [(.t 68)]) 2 [0], eD 70 (.call 18 [(.t 67), (.t 69)]) 3 [], qD 71 (.un .not (.t 70)) 4])
  (.cond (.t 71) (.seq (.region [6] [qI 6 (.mv (.c (.bool false)))])
  .ret) .skip))
  (.seq (.seq (.draw [3, 4, 5, 8, 9, 10, 11, 12, 13, 14, 76] [] [qD 72 (.load true 3 (.t 11)) 0, qD 73 (.load true 3 (.t 4)) 1, eD 74 (.call 16 [(.t 73)]) 2 [0], eD 75 (.call 19 [(.t 72), (.t 74)]) 3 [], qD 76 (.un .not (.t 75)) 4])
  (.cond (.t 76) (.seq (.region [6] [qI 6 (.mv (.c (.bool false)))])
  .ret) .skip))
  (.seq (.seq (.draw [3, 4, 5, 8, 9, 10, 11, 12, 13, 14, 81] [] [qD 77 (.load true 3 (.t 12)) 0, qD 78 (.load true 3 (.t 5)) 1, eD 79 (.call 16 [(.t 78)]) 2 [0], eD 80 (.call 19 [(.t 77), (.t 79)]) 3 [], qD 81 (.un .not (.t 80)) 4])
  (.cond (.t 81) (.seq (.region [6] [qI 6 (.mv (.c (.bool false)))])
  .ret) .skip))
  (.seq (.region [3, 4, 5, 8, 9, 10, 11, 12, 13, 14, 15] [qI 15 (.mv (.c (.int .i64 1)))])
  (.seq (.region [3, 4, 5, 8, 9, 11, 12, 13, 14, 15] [qI 82 (.load true 3 (.t 10)), qI 83 (.mv (.t 15)), eI 84 (.call 24 [(.t 82), (.t 83)]), qI 15 (.mv (.t 84))])
  (.seq (.region [3, 4, 5, 8, 9, 12, 13, 14, 15] [qI 85 (.load true 3 (.t 11)), qI 86 (.mv (.t 15)), eI 87 (.call 25 [(.t 85), (.t 86)]), qI 15 (.mv (.t 87))])
  (.seq (.region [3, 4, 5, 8, 9, 13, 14, 15] [qI 88 (.load true 3 (.t 12)), qI 89 (.mv (.t 15)), eI 90 (.call 25 [(.t 88), (.t 89)]), qI 15 (.mv (.t 90))])
  (.seq (.seq (.region [3, 4, 5, 8, 9, 13, 103] [qI 91 (.mv (.t 15)), qI 92 (.bin .lss .other (.t 91) (.c (.int .i64 0))), qI 93 (.mv (.t 92)), ⟨(some 94), .load true 3 (.t 13), true, (some (93, false))⟩, ⟨(some 95), .load true 3 (.t 8), true, (some (93, false))⟩, ⟨(some 96), .call 19 [(.t 94), (.t 95)], false, (some (93, false))⟩, ⟨(some 97), .un .not (.t 96), true, (some (93, false))⟩, qI 98 (.pick (.t 93) (.c (.bool true)) (.t 97)), qI 99 (.mv (.t 98)), ⟨(some 100), .mv (.t 14), true, (some (99, false))⟩, ⟨(some 101), .mv (.t 9), true, (some (99, false))⟩, ⟨(some 102), .bin .neq .other (.t 100) (.t 101), true, (some (99, false))⟩, qI 103 (.pick (.t 99) (.c (.bool true)) (.t 102))])
  (.cond (.t 103) (.seq (.region [6] [qI 6 (.mv (.c (.bool false)))])
  .ret) .skip))
  (.seq (.region [3, 4, 5, 8, 9, 13, 16] [qI 16 (.mv (.c (.int .i64 1)))])
  (.seq (.region [3, 4, 5, 8, 9, 13, 16] [qI 104 (.load true 3 (.t 13)), qI 105 (.mv (.t 16)), eI 106 (.call 25 [(.t 104), (.t 105)]), qI 16 (.mv (.t 106))])
  (.seq (.region [3, 4, 5, 8, 9, 13, 16, 17] [qI 17 (.mv (.c (.int .i64 1)))])
  (.seq (.region [3, 4, 5, 8, 9, 13, 16, 17] [qI 107 (.load true 3 (.t 13)), qI 108 (.mv (.t 17)), eI 109 (.call 39 [(.t 107), (.t 108)]), qI 17 (.mv (.t 109))])
  (.seq (.seq (.region [3, 4, 5, 8, 9, 13, 16, 17, 111] [qI 110 (.mv (.t 17)), qI 111 (.bin .lss .other (.t 110) (.c (.int .i64 0)))])
  (.cond (.t 111) (.seq (.region [6] [qI 6 (.mv (.c (.bool false)))])
  .ret) .skip))
  (.seq (.seq (.region [3, 4, 5, 8, 9, 13, 16, 114] [qI 112 (.mv (.t 17)), qI 113 (.mv (.t 16)), qI 114 (.bin .neq .other (.t 112) (.t 113))])
  (.cond (.t 114) (.seq (.region [6] [qI 6 (.mv (.c (.bool false)))])
  .ret) .skip))
  (.seq (.draw [8, 9, 13, 16, 18, 19] [[(.int .i64 0), (.int .i64 0), .nils]] [qD 116 (.load true 3 (.t 3)) 0, qD 118 (.load true 3 (.t 4)) 2, qD 120 (.load true 3 (.t 5)) 4, qD 18 (.rev 0) 10, eD 117 (.call 15 [(.t 116)]) 1 [2, 4], eD 119 (.call 16 [(.t 118)]) 3 [4], eD 121 (.call 16 [(.t 120)]) 5 [], eD 122 (.call 38 [(.t 117), (.t 119), (.t 121)]) 6 [], qD 115 (.mv (.t 122)) 7, qD 123 (.extract (.t 115) 0) 8, qD 124 (.extract (.t 115) 1) 9, ⟨nI (.store 3 (.t 18) (.t 123)), 11, []⟩, qD 19 (.mv (.t 124)) 12])
  (.seq (.seq (.region [13, 16, 133] [qI 125 (.load true 3 (.t 18)), qI 126 (.load true 3 (.t 8)), eI 127 (.call 19 [(.t 125), (.t 126)]), qI 128 (.un .not (.t 127)), qI 129 (.mv (.t 128)), ⟨(some 130), .mv (.t 19), true, (some (129, false))⟩, ⟨(some 131), .mv (.t 9), true, (some (129, false))⟩, ⟨(some 132), .bin .neq .other (.t 130) (.t 131), true, (some (129, false))⟩, qI 133 (.pick (.t 129) (.c (.bool true)) (.t 132))])
  (.cond (.t 133) (.seq (.region [6] [qI 6 (.mv (.c (.bool false)))])
  .ret) .skip))
  (.seq (.region [13, 16, 17] [qI 17 (.mv (.c (.int .i64 1)))])
  (.seq (.region [16, 17] [qI 134 (.load true 3 (.t 13)), qI 135 (.mv (.t 17)), eI 136 (.call 39 [(.t 134), (.t 135)]), qI 17 (.mv (.t 136))])
  (.seq (.seq (.region [16, 17, 138] [qI 137 (.mv (.t 17)), qI 138 (.bin .lss .other (.t 137) (.c (.int .i64 0)))])
  (.cond (.t 138) (.seq (.region [6] [qI 6 (.mv (.c (.bool false)))])
  .ret) .skip))
  (.seq (.seq (.region [141] [qI 139 (.mv (.t 17)), qI 140 (.mv (.t 16)), qI 141 (.bin .neq .other (.t 139) (.t 140))])
  (.cond (.t 141) (.seq (.region [6] [qI 6 (.mv (.c (.bool false)))])
  .ret) .skip))
  (.seq (.region [6] [qI 6 (.mv (.c (.bool true)))])
  .ret)))))))))))))))))))))))))))))))))))⟩
theorem cf7 : cF Try.prog Try.f7 = some if7 := by kernel_rfl
end Go.Proofs
namespace Go.Proofs.Ytpkibanhkjboeaa
open Go.ChangeShapes Go.WideShapes Go.ChangeAt Go.RowKit Go.Ab Go.Joins Go.Lie Go.Proofs
set_option linter.unusedVariables false
theorem own : ownKnob Try.prog.godebug = none := by kernel_rfl
theorem laidOut : laidOutB Try.prog = true := by kernel_rfl
theorem cell23 : Try.prog.cellsOf 23 = 1 := by kernel_rfl
theorem cell2 : Try.prog.cellsOf 2 = 1 := by kernel_rfl
theorem cell22 : Try.prog.cellsOf 22 = 1 := by kernel_rfl
variable {H : Type} {enc : TypeId × Value → H} {W w0 : World} {j : Inj} {h : AHeap}
/-- Lists of lists. -/
def LII (v : PV) (xs : List (List Int)) : Prop := FII v xs ∧ xs.length ≤ 9223372036854775807 ∧ ∀ x ∈ xs, x.length ≤ 9223372036854775807
def LIII (v : PV) (xs : List (List (List Int))) : Prop := FIII v xs ∧ xs.length ≤ 9223372036854775807 ∧ ∀ q ∈ xs, q.length ≤ 9223372036854775807 ∧ ∀ x ∈ q, x.length ≤ 9223372036854775807
theorem layI : Lay1 enc Try.prog W 22 (fun v (xs : List Int) => FI v xs ∧ xs.length ≤ 9223372036854775807) := lay_ints (e := 2) Try.underlying22 cell2 Try.underlying2
theorem layII : Lay1 enc Try.prog W 23 LII := by
  intro w0 j h held fuel v x m hx
  obtain ⟨j', h', pv, a, g1, g2, g3, g4, g5, g6, g7, g8⟩ := lay_slice Try.underlying23 cell22 layI w0 j h held fuel v x m hx
  exact ⟨j', h', pv, a, g1, g2, g3, g4, g5, g6, g7.imp fun _ _ k => k.1, g8, g7.all fun _ _ k => k.2⟩
theorem layIII : Lay1 enc Try.prog W 24 LIII := by
  intro w0 j h held fuel v x m hx
  obtain ⟨j', h', pv, a, g1, g2, g3, g4, g5, g6, g7, g8⟩ := lay_slice Try.underlying24 cell23 layII w0 j h held fuel v x m hx
  exact ⟨j', h', pv, a, g1, g2, g3, g4, g5, g6, g7.imp fun _ _ k => k.1, g8, g7.all fun _ _ k => k.2⟩
end Go.Proofs.Ytpkibanhkjboeaa
namespace Go.Proofs.Ytpkibanhkjboeaa
open Go.ChangeShapes Go.WideShapes Go.ChangeAt Go.RowKit Go.Ab Go.Joins Go.Lie Go.Proofs
set_option linter.unusedVariables false
theorem cell26 : Try.prog.cellsOf 26 = 3 := by kernel_rfl
variable {H : Type} {enc : TypeId × Value → H} {W w0 : World} {j : Inj} {h : AHeap}
set_option maxRecDepth 100000 in
/-- A presentation that is handed over. -/
theorem layPr {b0 : Nat} {v : Value} {d : DataW H} {q : List MemPlace} (m : MR W.heap.size w0 j h W) (hv : Value.okWide Try.prog W .any b0 26 v) (ht : DataW.Trod enc Try.prog W 0 (fun _ => true) true 26 v d q) :
    ∃ (j' : Inj) (h' : AHeap) (vO vP vC : PV) (Os : List Int) (Ps : List (List Int)) (Cs : List (List (List Int))), MR W.heap.size w0 j' h' W ∧ j.le j' ∧ Ext h h' ∧ VI j' (er idz (.agg [vO, vP, vC])) v ∧ VOK (zlt h') h' 0 (.agg [vO, vP, vC]) ∧ IsPr vO vP vC Os Ps Cs ∧ MxP Os Ps Cs := by
  obtain ⟨v0, v1, v2, y0, y1, y2, n, rfl, rfl, rfl, t0, t1, t2⟩ := open_agg3 Try.underlying26 (by kernel_rfl) cell26 hv ht
  obtain ⟨j0, h0, vO, Os, m0, l0, e0, i0, o0, _, r1, r2⟩ := layI w0 j h true n v0 _ m t0
  obtain ⟨j1, h1, vP, Ws, m1, l1, e1, i1, o1, _, p1, p2, p3⟩ := layII w0 j0 h0 true n v1 _ m0 t1
  obtain ⟨j2, h2, vB, Bs, m2, l2, e2, i2, o2, _, q1, q2, q3⟩ := layIII w0 j1 h1 true n v2 _ m1 t2
  exact ⟨j2, h2, vO, vP, vB, Os, Ws, Bs, m2, (l0.trans l1).trans l2, (e0.trans e1).trans e2, ⟨_, ⟨_, _, rfl, VI.mono (l1.trans l2) _ _ i0, _, _, rfl, VI.mono l2 _ _ i1, _, _, rfl, i2, rfl⟩, rfl⟩, ⟨(e1.trans e2).vok o0, e2.vok o1, o2, trivial⟩, ⟨r1, p1, q1⟩, ⟨r2, p2, p3, q2, q3⟩⟩
end Go.Proofs.Ytpkibanhkjboeaa
namespace Go.Proofs.Ytpkibanhkjboeaa
open Go.ChangeShapes Go.WideShapes Go.ChangeAt Go.RowKit Go.Ab Go.Joins Go.Lie Go.Proofs
set_option linter.unusedVariables false
theorem cell28 : Try.prog.cellsOf 28 = 3 := by kernel_rfl
variable {H : Type} {enc : TypeId × Value → H} {W w0 : World} {j : Inj} {h : AHeap}
set_option maxRecDepth 100000 in
/-- A module that is handed over. -/
theorem layMod {b0 : Nat} {v : Value} {d : DataW H} {q : List MemPlace} (m : MR W.heap.size w0 j h W) (hv : Value.okWide Try.prog W .any b0 28 v) (ht : DataW.Trod enc Try.prog W 0 (fun _ => true) true 28 v d q) :
    ∃ (j' : Inj) (h' : AHeap) (p dd : Int) (vA : PV) (As : List (List (List Int))), MR W.heap.size w0 j' h' W ∧ j.le j' ∧ Ext h h' ∧ VI j' (er idz (.agg [.int .i64 p, .int .i64 dd, vA])) v ∧ VOK (zlt h') h' 0 (.agg [.int .i64 p, .int .i64 dd, vA]) ∧ FIII vA As ∧ MxA As := by
  obtain ⟨v0, v1, v2, y0, y1, y2, n, rfl, rfl, rfl, t0, t1, t2⟩ := open_agg3 Try.underlying28 (by kernel_rfl) cell28 hv ht
  obtain ⟨a, ha, _, _⟩ := DataW.trod_int Try.underlying2 t0
  simp only [List.cons.injEq, and_true] at ha
  subst ha
  obtain ⟨b, hb, _, _⟩ := DataW.trod_int Try.underlying2 t1
  simp only [List.cons.injEq, and_true] at hb
  subst hb
  obtain ⟨j2, h2, vB, Bs, m2, l2, e2, i2, o2, _, q1, q2, q3⟩ := layIII w0 j h true n v2 _ m t2
  exact ⟨j2, h2, a, b, vB, Bs, m2, l2, e2, ⟨_, ⟨_, _, rfl, rfl, _, _, rfl, rfl, _, _, rfl, i2, rfl⟩, rfl⟩, ⟨trivial, trivial, o2, trivial⟩, q1, q2, q3⟩
end Go.Proofs.Ytpkibanhkjboeaa
