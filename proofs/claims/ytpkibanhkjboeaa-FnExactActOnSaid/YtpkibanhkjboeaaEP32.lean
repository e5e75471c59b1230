/- What a law is handed, laid as frozen values: modules and matrices. -/
import Derived.Test.YtpkibanhkjboeaaEP26
import Derived.Test.YtpkibanhkjboeaaEP27
import Derived.Test.YtpkibanhkjboeaaEAbPt
import Derived.Test.YtpkibanhkjboeaaEP30
import Derived.Test.YtpkibanhkjboeaaChecked
import Derived.Test.YtpkibanhkjboeaaRows
import Derived.Lib.SmallJoins
import Derived.WalkKit
import Derived.ProofKit
namespace Go.Proofs
open Go.Ab
/-- loop.example/g01076/laws.FnExactActOn -/
def if4 : IFn := ⟨[0, 1, 2, 3], [(.tmp 8)], (.seq (.region [2, 3, 4, 5] [eI 4 (.box (.t 0)), eI 5 (.box (.t 1)), qI 8 (.mv (.c (.bool false)))])
  (.seq (.seq (.region [2, 3, 4, 5, 25] [qI 23 (.mv (.t 2)), qI 24 (.len (.t 23)), qI 25 (.bin .gtr .other (.t 24) (.c (.int .i64 1048576)))])
  (.cond (.t 25) (.seq (.region [8] [qI 8 (.mv (.c (.bool true)))])
  .ret) .skip))
  (.seq (.seq (.region [2, 3, 4, 5, 28] [qI 26 (.mv (.t 3)), qI 27 (.len (.t 26)), qI 28 (.bin .gtr .other (.t 27) (.c (.int .i64 1048576)))])
  (.cond (.t 28) (.seq (.region [8] [qI 8 (.mv (.c (.bool true)))])
  .ret) .skip))
  (.seq (.region [2, 3, 4, 5, 9] [qI 9 (.mv (.c (.int .i64 1048576)))])
  (.seq (.region [2, 3, 4, 5, 9] [qI 29 (.load true 3 (.t 4)), qI 30 (.mv (.t 9)), eI 31 (.call 12 [(.t 29), (.t 30)]), qI 9 (.mv (.t 31))])
  (.seq (.seq (.region [2, 3, 4, 5, 9, 33] [qI 32 (.mv (.t 9)), qI 33 (.bin .lss .other (.t 32) (.c (.int .i64 0)))])
  (.cond (.t 33) (.seq (.region [8] [qI 8 (.mv (.c (.bool true)))])
  .ret) .skip))
  (.seq (.region [2, 3, 4, 5, 9] [qI 34 (.load true 3 (.t 5)), qI 35 (.mv (.t 9)), eI 36 (.call 13 [(.t 34), (.t 35)]), qI 9 (.mv (.t 36))])
  (.seq (.seq (.region [2, 3, 4, 5, 38] [qI 37 (.mv (.t 9)), qI 38 (.bin .lss .other (.t 37) (.c (.int .i64 0)))])
  (.cond (.t 38) (.seq (.region [8] [qI 8 (.mv (.c (.bool true)))])
  .ret) .skip))
  (.seq (.draw [2, 3, 4, 5, 10, 11] [] [qD 40 (.load true 3 (.t 4)) 0, qD 42 (.load true 3 (.t 5)) 2, qD 44 (.mv (.t 2)) 4, qD 46 (.mv (.t 3)) 6, eD 41 (.call 15 [(.t 40)]) 1 [2], eD 43 (.call 16 [(.t 42)]) 3 [], eD 45 (.call 21 [(.t 44)]) 5 [], eD 47 (.call 21 [(.t 46)]) 7 [], eD 48 (.call 20 [(.t 41), (.t 43), (.t 45), (.t 47)]) 8 [], qD 39 (.mv (.t 48)) 9, qD 49 (.extract (.t 39) 0) 10, qD 50 (.extract (.t 39) 1) 11, qD 10 (.mv (.t 49)) 12, qD 11 (.mv (.t 50)) 13])
  (.seq (.region [2, 3, 4, 5, 10, 11, 12] [qI 51 (.load true 3 (.t 4)), eI 52 (.call 15 [(.t 51)]), eI 12 (.alloc [.nils, .nils, .nils]), nI (.store 3 (.t 12) (.t 52))])
  (.seq (.region [2, 3, 4, 5, 10, 11, 12, 13] [qI 53 (.load true 3 (.t 5)), eI 54 (.call 16 [(.t 53)]), eI 13 (.alloc [(.int .i64 0), (.int .i64 0), .nils]), nI (.store 3 (.t 13) (.t 54))])
  (.seq (.region [2, 3, 4, 5, 10, 11, 12, 13, 14] [qI 55 (.mv (.t 2)), eI 56 (.call 21 [(.t 55)]), qI 14 (.mv (.t 56))])
  (.seq (.region [2, 3, 4, 5, 10, 11, 12, 13, 14, 15] [qI 57 (.mv (.t 3)), eI 58 (.call 21 [(.t 57)]), qI 15 (.mv (.t 58))])
  (.seq (.region [2, 3, 4, 5, 10, 11, 12, 13, 14, 15, 16, 17] [qI 60 (.load true 3 (.t 12)), qI 61 (.load true 3 (.t 13)), qI 62 (.mv (.t 14)), qI 63 (.mv (.t 15)), eI 64 (.call 22 [(.t 60), (.t 61), (.t 62), (.t 63)]), qI 59 (.mv (.t 64)), qI 65 (.extract (.t 59) 0), qI 66 (.extract (.t 59) 1), qI 16 (.mv (.t 65)), qI 17 (.mv (.t 66))])
  (.seq (.seq (.region [2, 3, 4, 5, 10, 11, 12, 13, 14, 15, 16, 17, 75] [qI 67 (.mv (.t 16)), qI 68 (.mv (.t 10)), eI 69 (.call 23 [(.t 67), (.t 68)]), qI 70 (.un .not (.t 69)), qI 71 (.mv (.t 70)), ⟨(some 72), .mv (.t 17), true, (some (71, false))⟩, ⟨(some 73), .mv (.t 11), true, (some (71, false))⟩, ⟨(some 74), .bin .neq .other (.t 72) (.t 73), true, (some (71, false))⟩, qI 75 (.pick (.t 71) (.c (.bool true)) (.t 74))])
  (.cond (.t 75) (.seq (.region [8] [qI 8 (.mv (.c (.bool false)))])
  .ret) .skip))
  (.seq (.seq (.draw [2, 3, 4, 5, 10, 11, 12, 13, 14, 15, 16, 17, 80] [] [qD 76 (.load true 3 (.t 12)) 0, qD 77 (.load true 3 (.t 4)) 1, eD 78 (.call 15 [(.t 77)]) 2 [0], eD 79 (.call 18 [(.t 76), (.t 78)]) 3 [], qD 80 (.un .not (.t 79)) 4])
  (.cond (.t 80) (.seq (.region [8] [qI 8 (.mv (.c (.bool false)))])
  .ret) .skip))
  (.seq (.seq (.draw [2, 3, 4, 5, 10, 11, 12, 13, 14, 15, 16, 17, 85] [] [qD 81 (.load true 3 (.t 13)) 0, qD 82 (.load true 3 (.t 5)) 1, eD 83 (.call 16 [(.t 82)]) 2 [0], eD 84 (.call 19 [(.t 81), (.t 83)]) 3 [], qD 85 (.un .not (.t 84)) 4])
  (.cond (.t 85) (.seq (.region [8] [qI 8 (.mv (.c (.bool false)))])
  .ret) .skip))
  (.seq (.seq (.region [2, 3, 4, 5, 10, 11, 12, 13, 14, 15, 16, 17, 90] [qI 86 (.mv (.t 14)), qI 87 (.mv (.t 2)), eI 88 (.call 21 [(.t 87)]), eI 89 (.call 23 [(.t 86), (.t 88)]), qI 90 (.un .not (.t 89))])
  (.cond (.t 90) (.seq (.region [8] [qI 8 (.mv (.c (.bool false)))])
  .ret) .skip))
  (.seq (.seq (.region [2, 3, 4, 5, 10, 11, 12, 13, 14, 15, 16, 17, 95] [qI 91 (.mv (.t 15)), qI 92 (.mv (.t 3)), eI 93 (.call 21 [(.t 92)]), eI 94 (.call 23 [(.t 91), (.t 93)]), qI 95 (.un .not (.t 94))])
  (.cond (.t 95) (.seq (.region [8] [qI 8 (.mv (.c (.bool false)))])
  .ret) .skip))
  (.seq (.region [2, 3, 4, 5, 10, 11, 12, 13, 14, 15, 16, 17, 18] [qI 18 (.mv (.c (.int .i64 1)))])
  (.seq (.region [2, 3, 4, 5, 10, 11, 13, 14, 15, 16, 17, 18] [qI 96 (.load true 3 (.t 12)), qI 97 (.mv (.t 18)), eI 98 (.call 24 [(.t 96), (.t 97)]), qI 18 (.mv (.t 98))])
  (.seq (.region [2, 3, 4, 5, 10, 11, 14, 15, 16, 17, 18] [qI 99 (.load true 3 (.t 13)), qI 100 (.mv (.t 18)), eI 101 (.call 25 [(.t 99), (.t 100)]), qI 18 (.mv (.t 101))])
  (.seq (.region [2, 3, 4, 5, 10, 11, 15, 16, 17, 18] [qI 102 (.mv (.t 14)), qI 103 (.mv (.t 18)), eI 104 (.call 26 [(.t 102), (.t 103)]), qI 18 (.mv (.t 104))])
  (.seq (.region [2, 3, 4, 5, 10, 11, 16, 17, 18] [qI 105 (.mv (.t 15)), qI 106 (.mv (.t 18)), eI 107 (.call 26 [(.t 105), (.t 106)]), qI 18 (.mv (.t 107))])
  (.seq (.seq (.region [2, 3, 4, 5, 10, 11, 16, 120] [qI 108 (.mv (.t 18)), qI 109 (.bin .lss .other (.t 108) (.c (.int .i64 0))), qI 110 (.mv (.t 109)), ⟨(some 111), .mv (.t 16), true, (some (110, false))⟩, ⟨(some 112), .mv (.t 10), true, (some (110, false))⟩, ⟨(some 113), .call 23 [(.t 111), (.t 112)], false, (some (110, false))⟩, ⟨(some 114), .un .not (.t 113), true, (some (110, false))⟩, qI 115 (.pick (.t 110) (.c (.bool true)) (.t 114)), qI 116 (.mv (.t 115)), ⟨(some 117), .mv (.t 17), true, (some (116, false))⟩, ⟨(some 118), .mv (.t 11), true, (some (116, false))⟩, ⟨(some 119), .bin .neq .other (.t 117) (.t 118), true, (some (116, false))⟩, qI 120 (.pick (.t 116) (.c (.bool true)) (.t 119))])
  (.cond (.t 120) (.seq (.region [8] [qI 8 (.mv (.c (.bool false)))])
  .ret) .skip))
  (.seq (.region [2, 3, 4, 5, 10, 11, 16, 19] [qI 19 (.mv (.c (.int .i64 1)))])
  (.seq (.region [2, 3, 4, 5, 10, 11, 16, 19] [qI 121 (.mv (.t 16)), qI 122 (.mv (.t 19)), eI 123 (.call 26 [(.t 121), (.t 122)]), qI 19 (.mv (.t 123))])
  (.seq (.region [2, 3, 4, 5, 10, 11, 16, 19, 20] [qI 20 (.mv (.c (.int .i64 1)))])
  (.seq (.region [2, 3, 4, 5, 10, 11, 16, 19, 20] [qI 124 (.mv (.t 16)), qI 125 (.mv (.t 20)), eI 126 (.call 27 [(.t 124), (.t 125)]), qI 20 (.mv (.t 126))])
  (.seq (.seq (.region [2, 3, 4, 5, 10, 11, 16, 19, 20, 128] [qI 127 (.mv (.t 20)), qI 128 (.bin .lss .other (.t 127) (.c (.int .i64 0)))])
  (.cond (.t 128) (.seq (.region [8] [qI 8 (.mv (.c (.bool false)))])
  .ret) .skip))
  (.seq (.seq (.region [2, 3, 4, 5, 10, 11, 16, 19, 131] [qI 129 (.mv (.t 20)), qI 130 (.mv (.t 19)), qI 131 (.bin .neq .other (.t 129) (.t 130))])
  (.cond (.t 131) (.seq (.region [8] [qI 8 (.mv (.c (.bool false)))])
  .ret) .skip))
  (.seq (.draw [10, 11, 16, 19, 21, 22] [] [qD 133 (.load true 3 (.t 4)) 0, qD 135 (.load true 3 (.t 5)) 2, qD 137 (.mv (.t 2)) 4, qD 139 (.mv (.t 3)) 6, eD 134 (.call 15 [(.t 133)]) 1 [2], eD 136 (.call 16 [(.t 135)]) 3 [], eD 138 (.call 21 [(.t 137)]) 5 [], eD 140 (.call 21 [(.t 139)]) 7 [], eD 141 (.call 22 [(.t 134), (.t 136), (.t 138), (.t 140)]) 8 [], qD 132 (.mv (.t 141)) 9, qD 142 (.extract (.t 132) 0) 10, qD 143 (.extract (.t 132) 1) 11, qD 21 (.mv (.t 142)) 12, qD 22 (.mv (.t 143)) 13])
  (.seq (.seq (.region [16, 19, 152] [qI 144 (.mv (.t 21)), qI 145 (.mv (.t 10)), eI 146 (.call 23 [(.t 144), (.t 145)]), qI 147 (.un .not (.t 146)), qI 148 (.mv (.t 147)), ⟨(some 149), .mv (.t 22), true, (some (148, false))⟩, ⟨(some 150), .mv (.t 11), true, (some (148, false))⟩, ⟨(some 151), .bin .neq .other (.t 149) (.t 150), true, (some (148, false))⟩, qI 152 (.pick (.t 148) (.c (.bool true)) (.t 151))])
  (.cond (.t 152) (.seq (.region [8] [qI 8 (.mv (.c (.bool false)))])
  .ret) .skip))
  (.seq (.region [16, 19, 20] [qI 20 (.mv (.c (.int .i64 1)))])
  (.seq (.region [19, 20] [qI 153 (.mv (.t 16)), qI 154 (.mv (.t 20)), eI 155 (.call 27 [(.t 153), (.t 154)]), qI 20 (.mv (.t 155))])
  (.seq (.seq (.region [19, 20, 157] [qI 156 (.mv (.t 20)), qI 157 (.bin .lss .other (.t 156) (.c (.int .i64 0)))])
  (.cond (.t 157) (.seq (.region [8] [qI 8 (.mv (.c (.bool false)))])
  .ret) .skip))
  (.seq (.seq (.region [160] [qI 158 (.mv (.t 20)), qI 159 (.mv (.t 19)), qI 160 (.bin .neq .other (.t 158) (.t 159))])
  (.cond (.t 160) (.seq (.region [8] [qI 8 (.mv (.c (.bool false)))])
  .ret) .skip))
  (.seq (.region [8] [qI 8 (.mv (.c (.bool true)))])
  .ret))))))))))))))))))))))))))))))))))))))⟩
theorem cf4 : cF Try.prog Try.f4 = some if4 := by kernel_rfl
end Go.Proofs
namespace Go.Proofs.Ytpkibanhkjboeaa
open Go.ChangeShapes Go.WideShapes Go.ChangeAt Go.RowKit Go.Ab Go.Joins Go.Lie Go.Proofs
set_option linter.unusedVariables false
theorem own : ownKnob Try.prog.godebug = none := by kernel_rfl
theorem laidOut : laidOutB Try.prog = true := by kernel_rfl
theorem cell23 : Try.prog.cellsOf 23 = 1 := by kernel_rfl
theorem cell2 : Try.prog.cellsOf 2 = 1 := by kernel_rfl
theorem cell22 : Try.prog.cellsOf 22 = 1 := by kernel_rfl
variable {H : Type} {enc : TypeId × Value → H} {W w0 : World} {j : Inj} {h : AHeap}
/-- Lists of lists. -/
def LII (v : PV) (xs : List (List Int)) : Prop := FII v xs ∧ xs.length ≤ 9223372036854775807 ∧ ∀ x ∈ xs, x.length ≤ 9223372036854775807
def LIII (v : PV) (xs : List (List (List Int))) : Prop := FIII v xs ∧ xs.length ≤ 9223372036854775807 ∧ ∀ q ∈ xs, q.length ≤ 9223372036854775807 ∧ ∀ x ∈ q, x.length ≤ 9223372036854775807
theorem layI : Lay1 enc Try.prog W 22 (fun v (xs : List Int) => FI v xs ∧ xs.length ≤ 9223372036854775807) := lay_ints (e := 2) Try.underlying22 cell2 Try.underlying2
theorem layII : Lay1 enc Try.prog W 23 LII := by
  intro w0 j h held fuel v x m hx
  obtain ⟨j', h', pv, a, g1, g2, g3, g4, g5, g6, g7, g8⟩ := lay_slice Try.underlying23 cell22 layI w0 j h held fuel v x m hx
  exact ⟨j', h', pv, a, g1, g2, g3, g4, g5, g6, g7.imp fun _ _ k => k.1, g8, g7.all fun _ _ k => k.2⟩
theorem layIII : Lay1 enc Try.prog W 24 LIII := by
  intro w0 j h held fuel v x m hx
  obtain ⟨j', h', pv, a, g1, g2, g3, g4, g5, g6, g7, g8⟩ := lay_slice Try.underlying24 cell23 layII w0 j h held fuel v x m hx
  exact ⟨j', h', pv, a, g1, g2, g3, g4, g5, g6, g7.imp fun _ _ k => k.1, g8, g7.all fun _ _ k => k.2⟩
end Go.Proofs.Ytpkibanhkjboeaa
namespace Go.Proofs.Ytpkibanhkjboeaa
open Go.ChangeShapes Go.WideShapes Go.ChangeAt Go.RowKit Go.Ab Go.Joins Go.Lie Go.Proofs
set_option linter.unusedVariables false
theorem cell26 : Try.prog.cellsOf 26 = 3 := by kernel_rfl
variable {H : Type} {enc : TypeId × Value → H} {W w0 : World} {j : Inj} {h : AHeap}
set_option maxRecDepth 100000 in
/-- A presentation that is handed over. -/
theorem layPr {b0 : Nat} {v : Value} {d : DataW H} {q : List MemPlace} (m : MR W.heap.size w0 j h W) (hv : Value.okWide Try.prog W .any b0 26 v) (ht : DataW.Trod enc Try.prog W 0 (fun _ => true) true 26 v d q) :
    ∃ (j' : Inj) (h' : AHeap) (vO vP vC : PV) (Os : List Int) (Ps : List (List Int)) (Cs : List (List (List Int))), MR W.heap.size w0 j' h' W ∧ j.le j' ∧ Ext h h' ∧ VI j' (er idz (.agg [vO, vP, vC])) v ∧ VOK (zlt h') h' 0 (.agg [vO, vP, vC]) ∧ IsPr vO vP vC Os Ps Cs ∧ MxP Os Ps Cs := by
  obtain ⟨v0, v1, v2, y0, y1, y2, n, rfl, rfl, rfl, t0, t1, t2⟩ := open_agg3 Try.underlying26 (by kernel_rfl) cell26 hv ht
  obtain ⟨j0, h0, vO, Os, m0, l0, e0, i0, o0, _, r1, r2⟩ := layI w0 j h true n v0 _ m t0
  obtain ⟨j1, h1, vP, Ws, m1, l1, e1, i1, o1, _, p1, p2, p3⟩ := layII w0 j0 h0 true n v1 _ m0 t1
  obtain ⟨j2, h2, vB, Bs, m2, l2, e2, i2, o2, _, q1, q2, q3⟩ := layIII w0 j1 h1 true n v2 _ m1 t2
  exact ⟨j2, h2, vO, vP, vB, Os, Ws, Bs, m2, (l0.trans l1).trans l2, (e0.trans e1).trans e2, ⟨_, ⟨_, _, rfl, VI.mono (l1.trans l2) _ _ i0, _, _, rfl, VI.mono l2 _ _ i1, _, _, rfl, i2, rfl⟩, rfl⟩, ⟨(e1.trans e2).vok o0, e2.vok o1, o2, trivial⟩, ⟨r1, p1, q1⟩, ⟨r2, p2, p3, q2, q3⟩⟩
end Go.Proofs.Ytpkibanhkjboeaa
namespace Go.Proofs.Ytpkibanhkjboeaa
open Go.ChangeShapes Go.WideShapes Go.ChangeAt Go.RowKit Go.Ab Go.Joins Go.Lie Go.Proofs
set_option linter.unusedVariables false
theorem cell28 : Try.prog.cellsOf 28 = 3 := by kernel_rfl
variable {H : Type} {enc : TypeId × Value → H} {W w0 : World} {j : Inj} {h : AHeap}
set_option maxRecDepth 100000 in
/-- A module that is handed over. -/
theorem layMod {b0 : Nat} {v : Value} {d : DataW H} {q : List MemPlace} (m : MR W.heap.size w0 j h W) (hv : Value.okWide Try.prog W .any b0 28 v) (ht : DataW.Trod enc Try.prog W 0 (fun _ => true) true 28 v d q) :
    ∃ (j' : Inj) (h' : AHeap) (p dd : Int) (vA : PV) (As : List (List (List Int))), MR W.heap.size w0 j' h' W ∧ j.le j' ∧ Ext h h' ∧ VI j' (er idz (.agg [.int .i64 p, .int .i64 dd, vA])) v ∧ VOK (zlt h') h' 0 (.agg [.int .i64 p, .int .i64 dd, vA]) ∧ FIII vA As ∧ MxA As := by
  obtain ⟨v0, v1, v2, y0, y1, y2, n, rfl, rfl, rfl, t0, t1, t2⟩ := open_agg3 Try.underlying28 (by kernel_rfl) cell28 hv ht
  obtain ⟨a, ha, _, _⟩ := DataW.trod_int Try.underlying2 t0
  simp only [List.cons.injEq, and_true] at ha
  subst ha
  obtain ⟨b, hb, _, _⟩ := DataW.trod_int Try.underlying2 t1
  simp only [List.cons.injEq, and_true] at hb
  subst hb
  obtain ⟨j2, h2, vB, Bs, m2, l2, e2, i2, o2, _, q1, q2, q3⟩ := layIII w0 j h true n v2 _ m t2
  exact ⟨j2, h2, a, b, vB, Bs, m2, l2, e2, ⟨_, ⟨_, _, rfl, rfl, _, _, rfl, rfl, _, _, rfl, i2, rfl⟩, rfl⟩, ⟨trivial, trivial, o2, trivial⟩, q1, q2, q3⟩
end Go.Proofs.Ytpkibanhkjboeaa
