/- Plain law: words; the matrix of a word; modules over presentations; values of derivations. -/
import Derived.Test.YtpkibanhkjboeaaGAbPy
import Derived.Test.YtpkibanhkjboeaaChecked
namespace Go.Proofs
open Go.Ab
theorem mix : Try.prog.follows .mixedOrders = true := by kernel_rfl
/-- loop.example/g01076/laws.szPresentation -/
def if12 : IFn := ⟨[0, 1], [(.tmp 4)], (.seq (.region [1, 2] [eI 2 (.box (.t 0)), qI 4 (.mv (.c (.int .i64 0)))])
  (.seq (.region [1, 2] [qI 5 (.fieldAddr 0 (.t 2)), qI 6 (.load false 1 (.t 5)), qI 7 (.mv (.t 1)), eI 8 (.call 56 [(.t 6), (.t 7)]), qI 1 (.mv (.t 8))])
  (.seq (.seq (.region [1, 2, 10] [qI 9 (.mv (.t 1)), qI 10 (.bin .lss .other (.t 9) (.c (.int .i64 0)))])
  (.cond (.t 10) (.seq (.region [4] [qI 4 (.mv (.c (.int .i64 (-1))))])
  .ret) .skip))
  (.seq (.region [1, 2] [qI 11 (.fieldAddr 1 (.t 2)), qI 12 (.load false 1 (.t 11)), qI 13 (.mv (.t 1)), eI 14 (.call 45 [(.t 12), (.t 13)]), qI 1 (.mv (.t 14))])
  (.seq (.seq (.region [1, 2, 16] [qI 15 (.mv (.t 1)), qI 16 (.bin .lss .other (.t 15) (.c (.int .i64 0)))])
  (.cond (.t 16) (.seq (.region [4] [qI 4 (.mv (.c (.int .i64 (-1))))])
  .ret) .skip))
  (.seq (.region [1] [qI 17 (.fieldAddr 2 (.t 2)), qI 18 (.load false 1 (.t 17)), qI 19 (.mv (.t 1)), eI 20 (.call 57 [(.t 18), (.t 19)]), qI 1 (.mv (.t 20))])
  (.seq (.seq (.region [1, 22] [qI 21 (.mv (.t 1)), qI 22 (.bin .lss .other (.t 21) (.c (.int .i64 0)))])
  (.cond (.t 22) (.seq (.region [4] [qI 4 (.mv (.c (.int .i64 (-1))))])
  .ret) .skip))
  (.seq (.region [4] [qI 23 (.mv (.t 1)), qI 4 (.mv (.t 23))])
  .ret))))))))⟩
theorem cf12 : cF Try.prog Try.f12 = some if12 := by kernel_rfl
/-- loop.example/g01076/laws.toPresentation -/
def if15 : IFn := ⟨[0], [(.cell 2 true 3)], (.seq (.region [1, 2] [eI 1 (.box (.t 0)), eI 2 (.alloc [.nils, .nils, .nils])])
  (.seq (.region [1, 2, 3] [eI 3 (.alloc [.nils, .nils, .nils])])
  (.seq (.region [1, 2, 3] [qI 4 (.fieldAddr 0 (.t 1)), qI 5 (.load false 1 (.t 4)), eI 6 (.call 21 [(.t 5)]), qI 7 (.fieldAddr 0 (.t 3)), nI (.store 1 (.t 7) (.t 6))])
  (.seq (.region [1, 2, 3] [qI 8 (.fieldAddr 1 (.t 1)), qI 9 (.load false 1 (.t 8)), eI 10 (.call 47 [(.t 9)]), qI 11 (.fieldAddr 1 (.t 3)), nI (.store 1 (.t 11) (.t 10))])
  (.seq (.region [2, 3] [qI 12 (.fieldAddr 2 (.t 1)), qI 13 (.load false 1 (.t 12)), eI 14 (.call 60 [(.t 13)]), qI 15 (.fieldAddr 2 (.t 3)), nI (.store 1 (.t 15) (.t 14))])
  (.seq (.region [2] [qI 16 (.load true 3 (.t 3)), nI (.store 3 (.t 2) (.t 16))])
  .ret))))))⟩
theorem cf15 : cF Try.prog Try.f15 = some if15 := by kernel_rfl
/-- loop.example/g01076/laws.eqPresentation -/
def if18 : IFn := ⟨[0, 1], [(.tmp 4)], (.seq (.region [2, 3] [eI 2 (.box (.t 0)), eI 3 (.box (.t 1)), qI 4 (.mv (.c (.bool false)))])
  (.seq (.seq (.region [2, 3, 10] [qI 5 (.fieldAddr 0 (.t 2)), qI 6 (.load false 1 (.t 5)), qI 7 (.fieldAddr 0 (.t 3)), qI 8 (.load false 1 (.t 7)), eI 9 (.call 23 [(.t 6), (.t 8)]), qI 10 (.un .not (.t 9))])
  (.cond (.t 10) (.seq (.region [4] [qI 4 (.mv (.c (.bool false)))])
  .ret) .skip))
  (.seq (.seq (.region [2, 3, 16] [qI 11 (.fieldAddr 1 (.t 2)), qI 12 (.load false 1 (.t 11)), qI 13 (.fieldAddr 1 (.t 3)), qI 14 (.load false 1 (.t 13)), eI 15 (.call 42 [(.t 12), (.t 14)]), qI 16 (.un .not (.t 15))])
  (.cond (.t 16) (.seq (.region [4] [qI 4 (.mv (.c (.bool false)))])
  .ret) .skip))
  (.seq (.seq (.region [22] [qI 17 (.fieldAddr 2 (.t 2)), qI 18 (.load false 1 (.t 17)), qI 19 (.fieldAddr 2 (.t 3)), qI 20 (.load false 1 (.t 19)), eI 21 (.call 62 [(.t 18), (.t 20)]), qI 22 (.un .not (.t 21))])
  (.cond (.t 22) (.seq (.region [4] [qI 4 (.mv (.c (.bool false)))])
  .ret) .skip))
  (.seq (.region [4] [qI 4 (.mv (.c (.bool true)))])
  .ret)))))⟩
theorem cf18 : cF Try.prog Try.f18 = some if18 := by kernel_rfl
/-- loop.example/g01076/laws.toInt64S -/
def if21 : IFn := ⟨[0], [(.tmp 2)], (.seq (.region [0] [qI 2 (.mv (.c .nils))])
  (.seq (.region [0, 3] [qI 5 (.mv (.t 0)), qI 6 (.len (.t 5)), eI 7 (.makeSl 1 8 [(.int .i64 0)] (.t 6) (.t 6)), qI 3 (.mv (.t 7))])
  (.seq (.seq (.region [0, 3, 4] [qI 4 (.mv (.c (.int .i64 0)))])
  (.block 0 (.loop [0, 3, 4] (.seq (.seq (.region [0, 3, 4, 11] [qI 8 (.mv (.t 4)), qI 9 (.mv (.t 0)), qI 10 (.len (.t 9)), qI 11 (.bin .lss .other (.t 8) (.t 10))])
  (.cond (.t 11) .skip (.exit 0)))
  (.seq (.block 1 (.region [0, 3, 4] [qI 14 (.mv (.t 3)), qI 15 (.mv (.t 4)), qI 16 (.mv (.t 0)), qI 17 (.mv (.t 4)), qI 18 (.indexAddr 1 (.t 16) (.t 17)), qI 19 (.load false 1 (.t 18)), qI 20 (.indexAddr 1 (.t 14) (.t 15)), nI (.store 1 (.t 20) (.t 19))]))
  (.region [0, 3, 4] [qI 12 (.mv (.t 4)), qI 13 (.bin .add .other (.t 12) (.c (.int .i64 1))), qI 4 (.mv (.t 13))]))))))
  (.seq (.region [2] [qI 21 (.mv (.t 3)), qI 2 (.mv (.t 21))])
  .ret))))⟩
theorem cf21 : cF Try.prog Try.f21 = some if21 := by kernel_rfl
/-- loop.example/g01076/laws.eqInt64S -/
def if23 : IFn := ⟨[0, 1], [(.tmp 4)], (.seq (.region [0, 1] [qI 4 (.mv (.c (.bool false)))])
  (.seq (.seq (.region [0, 1, 10] [qI 6 (.mv (.t 0)), qI 7 (.len (.t 6)), qI 8 (.mv (.t 1)), qI 9 (.len (.t 8)), qI 10 (.bin .neq .other (.t 7) (.t 9))])
  (.cond (.t 10) (.seq (.region [4] [qI 4 (.mv (.c (.bool false)))])
  .ret) .skip))
  (.seq (.seq (.region [0, 1, 5] [qI 5 (.mv (.c (.int .i64 0)))])
  (.block 0 (.loop [0, 1, 5] (.seq (.seq (.region [0, 1, 5, 14] [qI 11 (.mv (.t 5)), qI 12 (.mv (.t 0)), qI 13 (.len (.t 12)), qI 14 (.bin .lss .other (.t 11) (.t 13))])
  (.cond (.t 14) .skip (.exit 0)))
  (.seq (.block 1 (.seq (.draw [0, 1, 5, 25] [] [qD 17 (.mv (.t 0)) 0, qD 18 (.mv (.t 5)) 1, qD 19 (.indexAddr 1 (.t 17) (.t 18)) 2, qD 20 (.load false 1 (.t 19)) 3, qD 21 (.mv (.t 1)) 4, qD 22 (.mv (.t 5)) 5, qD 23 (.indexAddr 1 (.t 21) (.t 22)) 6, qD 24 (.load false 1 (.t 23)) 7, qD 25 (.bin .neq .other (.t 20) (.t 24)) 8])
  (.cond (.t 25) (.seq (.region [4] [qI 4 (.mv (.c (.bool false)))])
  .ret) .skip)))
  (.region [0, 1, 5] [qI 15 (.mv (.t 5)), qI 16 (.bin .add .other (.t 15) (.c (.int .i64 1))), qI 5 (.mv (.t 16))]))))))
  (.seq (.region [4] [qI 4 (.mv (.c (.bool true)))])
  .ret))))⟩
theorem cf23 : cF Try.prog Try.f23 = some if23 := by kernel_rfl
/-- loop.example/g01076/laws.eqInt64SS -/
def if42 : IFn := ⟨[0, 1], [(.tmp 4)], (.seq (.region [0, 1] [qI 4 (.mv (.c (.bool false)))])
  (.seq (.seq (.region [0, 1, 10] [qI 6 (.mv (.t 0)), qI 7 (.len (.t 6)), qI 8 (.mv (.t 1)), qI 9 (.len (.t 8)), qI 10 (.bin .neq .other (.t 7) (.t 9))])
  (.cond (.t 10) (.seq (.region [4] [qI 4 (.mv (.c (.bool false)))])
  .ret) .skip))
  (.seq (.seq (.region [0, 1, 5] [qI 5 (.mv (.c (.int .i64 0)))])
  (.block 0 (.loop [0, 1, 5] (.seq (.seq (.region [0, 1, 5, 14] [qI 11 (.mv (.t 5)), qI 12 (.mv (.t 0)), qI 13 (.len (.t 12)), qI 14 (.bin .lss .other (.t 11) (.t 13))])
  (.cond (.t 14) .skip (.exit 0)))
  (.seq (.block 1 (.seq (.draw [0, 1, 5, 26] [] [qD 17 (.mv (.t 0)) 0, qD 18 (.mv (.t 5)) 1, qD 19 (.indexAddr 1 (.t 17) (.t 18)) 2, qD 20 (.load false 1 (.t 19)) 3, qD 21 (.mv (.t 1)) 4, qD 22 (.mv (.t 5)) 5, qD 23 (.indexAddr 1 (.t 21) (.t 22)) 6, qD 24 (.load false 1 (.t 23)) 7, eD 25 (.call 23 [(.t 20), (.t 24)]) 8 [], qD 26 (.un .not (.t 25)) 9])
  (.cond (.t 26) (.seq (.region [4] [qI 4 (.mv (.c (.bool false)))])
  .ret) .skip)))
  (.region [0, 1, 5] [qI 15 (.mv (.t 5)), qI 16 (.bin .add .other (.t 15) (.c (.int .i64 1))), qI 5 (.mv (.t 16))]))))))
  (.seq (.region [4] [qI 4 (.mv (.c (.bool true)))])
  .ret))))⟩
theorem cf42 : cF Try.prog Try.f42 = some if42 := by kernel_rfl
/-- loop.example/g01076/laws.szInt64SS -/
def if45 : IFn := ⟨[0, 1], [(.tmp 4)], (.seq (.region [0, 1] [qI 4 (.mv (.c (.int .i64 0)))])
  (.seq (.region [0, 1] [qI 6 (.mv (.t 1)), qI 7 (.mv (.t 0)), qI 8 (.len (.t 7)), qI 9 (.bin .sub .other (.t 6) (.t 8)), qI 1 (.mv (.t 9))])
  (.seq (.seq (.region [0, 1, 11] [qI 10 (.mv (.t 1)), qI 11 (.bin .lss .other (.t 10) (.c (.int .i64 0)))])
  (.cond (.t 11) (.seq (.region [4] [qI 4 (.mv (.c (.int .i64 (-1))))])
  .ret) .skip))
  (.seq (.seq (.region [0, 1, 5] [qI 5 (.mv (.c (.int .i64 0)))])
  (.block 0 (.loop [0, 1, 5] (.seq (.seq (.region [0, 1, 5, 15] [qI 12 (.mv (.t 5)), qI 13 (.mv (.t 0)), qI 14 (.len (.t 13)), qI 15 (.bin .lss .other (.t 12) (.t 14))])
  (.cond (.t 15) .skip (.exit 0)))
  (.seq (.block 1 (.seq (.region [0, 1, 5] [qI 18 (.mv (.t 0)), qI 19 (.mv (.t 5)), qI 20 (.indexAddr 1 (.t 18) (.t 19)), qI 21 (.load false 1 (.t 20)), qI 22 (.mv (.t 1)), eI 23 (.call 56 [(.t 21), (.t 22)]), qI 1 (.mv (.t 23))])
  (.seq (.region [0, 1, 5, 25] [qI 24 (.mv (.t 1)), qI 25 (.bin .lss .other (.t 24) (.c (.int .i64 0)))])
  (.cond (.t 25) (.seq (.region [4] [qI 4 (.mv (.c (.int .i64 (-1))))])
  .ret) .skip))))
  (.region [0, 1, 5] [qI 16 (.mv (.t 5)), qI 17 (.bin .add .other (.t 16) (.c (.int .i64 1))), qI 5 (.mv (.t 17))]))))))
  (.seq (.region [4] [qI 26 (.mv (.t 1)), qI 4 (.mv (.t 26))])
  .ret)))))⟩
theorem cf45 : cF Try.prog Try.f45 = some if45 := by kernel_rfl
/-- loop.example/g01076/laws.toInt64SS -/
def if47 : IFn := ⟨[0], [(.tmp 2)], (.seq (.region [0] [qI 2 (.mv (.c .nils))])
  (.seq (.region [0, 3] [qI 5 (.mv (.t 0)), qI 6 (.len (.t 5)), eI 7 (.makeSl 1 24 [.nils] (.t 6) (.t 6)), qI 3 (.mv (.t 7))])
  (.seq (.seq (.region [0, 3, 4] [qI 4 (.mv (.c (.int .i64 0)))])
  (.block 0 (.loop [0, 3, 4] (.seq (.seq (.region [0, 3, 4, 11] [qI 8 (.mv (.t 4)), qI 9 (.mv (.t 0)), qI 10 (.len (.t 9)), qI 11 (.bin .lss .other (.t 8) (.t 10))])
  (.cond (.t 11) .skip (.exit 0)))
  (.seq (.block 1 (.region [0, 3, 4] [qI 14 (.mv (.t 3)), qI 15 (.mv (.t 4)), qI 16 (.mv (.t 0)), qI 17 (.mv (.t 4)), qI 18 (.indexAddr 1 (.t 16) (.t 17)), qI 19 (.load false 1 (.t 18)), eI 20 (.call 21 [(.t 19)]), qI 21 (.indexAddr 1 (.t 14) (.t 15)), nI (.store 1 (.t 21) (.t 20))]))
  (.region [0, 3, 4] [qI 12 (.mv (.t 4)), qI 13 (.bin .add .other (.t 12) (.c (.int .i64 1))), qI 4 (.mv (.t 13))]))))))
  (.seq (.region [2] [qI 22 (.mv (.t 3)), qI 2 (.mv (.t 22))])
  .ret))))⟩
theorem cf47 : cF Try.prog Try.f47 = some if47 := by kernel_rfl
/-- loop.example/g01076/laws.szCertificate -/
def if51 : IFn := ⟨[0, 1], [(.tmp 4)], (.seq (.region [1, 2] [eI 2 (.box (.t 0)), qI 4 (.mv (.c (.int .i64 0)))])
  (.seq (.region [1, 2] [qI 5 (.fieldAddr 1 (.t 2)), qI 6 (.load false 1 (.t 5)), qI 7 (.mv (.t 1)), eI 8 (.call 90 [(.t 6), (.t 7)]), qI 1 (.mv (.t 8))])
  (.seq (.seq (.region [1, 2, 10] [qI 9 (.mv (.t 1)), qI 10 (.bin .lss .other (.t 9) (.c (.int .i64 0)))])
  (.cond (.t 10) (.seq (.region [4] [qI 4 (.mv (.c (.int .i64 (-1))))])
  .ret) .skip))
  (.seq (.region [1] [qI 11 (.fieldAddr 2 (.t 2)), qI 12 (.load false 1 (.t 11)), qI 13 (.mv (.t 1)), eI 14 (.call 45 [(.t 12), (.t 13)]), qI 1 (.mv (.t 14))])
  (.seq (.seq (.region [1, 16] [qI 15 (.mv (.t 1)), qI 16 (.bin .lss .other (.t 15) (.c (.int .i64 0)))])
  (.cond (.t 16) (.seq (.region [4] [qI 4 (.mv (.c (.int .i64 (-1))))])
  .ret) .skip))
  (.seq (.region [4] [qI 17 (.mv (.t 1)), qI 4 (.mv (.t 17))])
  .ret))))))⟩
theorem cf51 : cF Try.prog Try.f51 = some if51 := by kernel_rfl
/-- loop.example/g01076/spec.IsCertificate -/
def if52 : IFn := ⟨[0], [(.tmp 2)], (.seq (.region [1] [eI 1 (.box (.t 0)), qI 2 (.mv (.c (.bool false)))])
  (.seq (.seq (.draw [1, 18] [] [qD 6 (.fieldAddr 0 (.t 1)) 0, qD 7 (.load false 1 (.t 6)) 1, qD 9 (.fieldAddr 1 (.t 1)) 3, qD 10 (.load false 1 (.t 9)) 4, qD 11 (.len (.t 10)) 5, eD 8 (.call 91 [(.t 7)]) 2 [4], qD 12 (.bin .neq .other (.t 8) (.t 11)) 6, qD 13 (.mv (.t 12)) 7, ⟨⟨(some 14), .fieldAddr 2 (.t 1), true, (some (13, false))⟩, 8, []⟩, ⟨⟨(some 15), .load false 1 (.t 14), true, (some (13, false))⟩, 9, []⟩, ⟨⟨(some 16), .len (.t 15), true, (some (13, false))⟩, 10, []⟩, ⟨⟨(some 17), .bin .gtr .other (.t 16) (.c (.int .i64 32)), true, (some (13, false))⟩, 11, []⟩, qD 18 (.pick (.t 13) (.c (.bool true)) (.t 17)) 12])
  (.cond (.t 18) (.seq (.region [2] [qI 2 (.mv (.c (.bool false)))])
  .ret) .skip))
  (.seq (.seq (.region [1, 3] [qI 3 (.mv (.c (.int .i64 0)))])
  (.block 0 (.loop [1, 3] (.seq (.seq (.region [1, 3, 23] [qI 19 (.mv (.t 3)), qI 20 (.fieldAddr 1 (.t 1)), qI 21 (.load false 1 (.t 20)), qI 22 (.len (.t 21)), qI 23 (.bin .lss .other (.t 19) (.t 22))])
  (.cond (.t 23) .skip (.exit 0)))
  (.seq (.block 1 (.seq (.region [1, 3, 32] [qI 26 (.fieldAddr 1 (.t 1)), qI 27 (.load false 1 (.t 26)), qI 28 (.mv (.t 3)), qI 29 (.indexAddr 3 (.t 27) (.t 28)), qI 30 (.load true 3 (.t 29)), eI 31 (.call 92 [(.t 30)]), qI 32 (.un .not (.t 31))])
  (.cond (.t 32) (.seq (.region [2] [qI 2 (.mv (.c (.bool false)))])
  .ret) .skip)))
  (.region [1, 3] [qI 24 (.mv (.t 3)), qI 25 (.bin .add .other (.t 24) (.c (.int .i64 1))), qI 3 (.mv (.t 25))]))))))
  (.seq (.seq (.region [1, 4] [qI 4 (.mv (.c (.int .i64 0)))])
  (.block 2 (.loop [1, 4] (.seq (.seq (.region [1, 4, 37] [qI 33 (.mv (.t 4)), qI 34 (.fieldAddr 2 (.t 1)), qI 35 (.load false 1 (.t 34)), qI 36 (.len (.t 35)), qI 37 (.bin .lss .other (.t 33) (.t 36))])
  (.cond (.t 37) .skip (.exit 2)))
  (.seq (.block 3 (.seq (.seq (.region [1, 4, 46] [qI 40 (.fieldAddr 2 (.t 1)), qI 41 (.load false 1 (.t 40)), qI 42 (.mv (.t 4)), qI 43 (.indexAddr 1 (.t 41) (.t 42)), qI 44 (.load false 1 (.t 43)), qI 45 (.len (.t 44)), qI 46 (.bin .gtr .other (.t 45) (.c (.int .i64 128)))])
  (.cond (.t 46) (.seq (.region [2] [qI 2 (.mv (.c (.bool false)))])
  .ret) .skip))
  (.seq (.region [1, 4, 5] [qI 5 (.mv (.c (.int .i64 0)))])
  (.block 4 (.loop [1, 4, 5] (.seq (.seq (.region [1, 4, 5, 54] [qI 47 (.mv (.t 5)), qI 48 (.fieldAddr 2 (.t 1)), qI 49 (.load false 1 (.t 48)), qI 50 (.mv (.t 4)), qI 51 (.indexAddr 1 (.t 49) (.t 50)), qI 52 (.load false 1 (.t 51)), qI 53 (.len (.t 52)), qI 54 (.bin .lss .other (.t 47) (.t 53))])
  (.cond (.t 54) .skip (.exit 4)))
  (.seq (.block 5 (.seq (.region [1, 4, 5, 66] [qI 57 (.fieldAddr 2 (.t 1)), qI 58 (.load false 1 (.t 57)), qI 59 (.mv (.t 4)), qI 60 (.indexAddr 1 (.t 58) (.t 59)), qI 61 (.load false 1 (.t 60)), qI 62 (.mv (.t 5)), qI 63 (.indexAddr 1 (.t 61) (.t 62)), qI 64 (.load false 1 (.t 63)), eI 65 (.call 93 [(.t 64), (.c (.int .i64 (-1000000))), (.c (.int .i64 1000000))]), qI 66 (.un .not (.t 65))])
  (.cond (.t 66) (.seq (.region [2] [qI 2 (.mv (.c (.bool false)))])
  .ret) .skip)))
  (.region [1, 4, 5] [qI 55 (.mv (.t 5)), qI 56 (.bin .add .other (.t 55) (.c (.int .i64 1))), qI 5 (.mv (.t 56))]))))))))
  (.region [1, 4] [qI 38 (.mv (.t 4)), qI 39 (.bin .add .other (.t 38) (.c (.int .i64 1))), qI 4 (.mv (.t 39))]))))))
  (.seq (.region [2] [qI 2 (.mv (.c (.bool true)))])
  .ret)))))⟩
theorem cf52 : cF Try.prog Try.f52 = some if52 := by kernel_rfl
/-- loop.example/g01076/laws.toCertificate -/
def if53 : IFn := ⟨[0], [(.cell 2 true 3)], (.seq (.region [1, 2] [eI 1 (.box (.t 0)), eI 2 (.alloc [(.int .i64 0), .nils, .nils])])
  (.seq (.region [1, 2, 3] [eI 3 (.alloc [(.int .i64 0), .nils, .nils])])
  (.seq (.region [1, 2, 3] [qI 4 (.fieldAddr 0 (.t 1)), qI 5 (.load false 1 (.t 4)), qI 6 (.fieldAddr 0 (.t 3)), nI (.store 1 (.t 6) (.t 5))])
  (.seq (.region [1, 2, 3] [qI 7 (.fieldAddr 1 (.t 1)), qI 8 (.load false 1 (.t 7)), eI 9 (.call 94 [(.t 8)]), qI 10 (.fieldAddr 1 (.t 3)), nI (.store 1 (.t 10) (.t 9))])
  (.seq (.region [2, 3] [qI 11 (.fieldAddr 2 (.t 1)), qI 12 (.load false 1 (.t 11)), eI 13 (.call 47 [(.t 12)]), qI 14 (.fieldAddr 2 (.t 3)), nI (.store 1 (.t 14) (.t 13))])
  (.seq (.region [2] [qI 15 (.load true 3 (.t 3)), nI (.store 3 (.t 2) (.t 15))])
  .ret))))))⟩
theorem cf53 : cF Try.prog Try.f53 = some if53 := by kernel_rfl
/-- loop.example/g01076/impl.IsCertificate -/
def if54 : IFn := ⟨[0], [(.tmp 2)], (.seq (.region [1] [eI 1 (.box (.t 0)), qI 2 (.mv (.c (.bool false)))])
  (.seq (.region [2] [eI 3 (.call 95 [(.t 1)]), qI 2 (.mv (.t 3))])
  .ret))⟩
theorem cf54 : cF Try.prog Try.f54 = some if54 := by kernel_rfl
/-- loop.example/g01076/laws.eqCertificate -/
def if55 : IFn := ⟨[0, 1], [(.tmp 4)], (.seq (.region [2, 3] [eI 2 (.box (.t 0)), eI 3 (.box (.t 1)), qI 4 (.mv (.c (.bool false)))])
  (.seq (.seq (.region [2, 3, 9] [qI 5 (.fieldAddr 0 (.t 2)), qI 6 (.load false 1 (.t 5)), qI 7 (.fieldAddr 0 (.t 3)), qI 8 (.load false 1 (.t 7)), qI 9 (.bin .neq .other (.t 6) (.t 8))])
  (.cond (.t 9) (.seq (.region [4] [qI 4 (.mv (.c (.bool false)))])
  .ret) .skip))
  (.seq (.seq (.region [2, 3, 15] [qI 10 (.fieldAddr 1 (.t 2)), qI 11 (.load false 1 (.t 10)), qI 12 (.fieldAddr 1 (.t 3)), qI 13 (.load false 1 (.t 12)), eI 14 (.call 96 [(.t 11), (.t 13)]), qI 15 (.un .not (.t 14))])
  (.cond (.t 15) (.seq (.region [4] [qI 4 (.mv (.c (.bool false)))])
  .ret) .skip))
  (.seq (.seq (.region [21] [qI 16 (.fieldAddr 2 (.t 2)), qI 17 (.load false 1 (.t 16)), qI 18 (.fieldAddr 2 (.t 3)), qI 19 (.load false 1 (.t 18)), eI 20 (.call 42 [(.t 17), (.t 19)]), qI 21 (.un .not (.t 20))])
  (.cond (.t 21) (.seq (.region [4] [qI 4 (.mv (.c (.bool false)))])
  .ret) .skip))
  (.seq (.region [4] [qI 4 (.mv (.c (.bool true)))])
  .ret)))))⟩
theorem cf55 : cF Try.prog Try.f55 = some if55 := by kernel_rfl
/-- loop.example/g01076/laws.szInt64S -/
def if56 : IFn := ⟨[0, 1], [(.tmp 4)], (.seq (.region [0, 1] [qI 4 (.mv (.c (.int .i64 0)))])
  (.seq (.region [1] [qI 5 (.mv (.t 1)), qI 6 (.mv (.t 0)), qI 7 (.len (.t 6)), qI 8 (.bin .sub .other (.t 5) (.t 7)), qI 1 (.mv (.t 8))])
  (.seq (.seq (.region [1, 10] [qI 9 (.mv (.t 1)), qI 10 (.bin .lss .other (.t 9) (.c (.int .i64 0)))])
  (.cond (.t 10) (.seq (.region [4] [qI 4 (.mv (.c (.int .i64 (-1))))])
  .ret) .skip))
  (.seq (.region [4] [qI 11 (.mv (.t 1)), qI 4 (.mv (.t 11))])
  .ret))))⟩
theorem cf56 : cF Try.prog Try.f56 = some if56 := by kernel_rfl
/-- loop.example/g01076/laws.szInt64SSS -/
def if57 : IFn := ⟨[0, 1], [(.tmp 4)], (.seq (.region [0, 1] [qI 4 (.mv (.c (.int .i64 0)))])
  (.seq (.region [0, 1] [qI 6 (.mv (.t 1)), qI 7 (.mv (.t 0)), qI 8 (.len (.t 7)), qI 9 (.bin .sub .other (.t 6) (.t 8)), qI 1 (.mv (.t 9))])
  (.seq (.seq (.region [0, 1, 11] [qI 10 (.mv (.t 1)), qI 11 (.bin .lss .other (.t 10) (.c (.int .i64 0)))])
  (.cond (.t 11) (.seq (.region [4] [qI 4 (.mv (.c (.int .i64 (-1))))])
  .ret) .skip))
  (.seq (.seq (.region [0, 1, 5] [qI 5 (.mv (.c (.int .i64 0)))])
  (.block 0 (.loop [0, 1, 5] (.seq (.seq (.region [0, 1, 5, 15] [qI 12 (.mv (.t 5)), qI 13 (.mv (.t 0)), qI 14 (.len (.t 13)), qI 15 (.bin .lss .other (.t 12) (.t 14))])
  (.cond (.t 15) .skip (.exit 0)))
  (.seq (.block 1 (.seq (.region [0, 1, 5] [qI 18 (.mv (.t 0)), qI 19 (.mv (.t 5)), qI 20 (.indexAddr 1 (.t 18) (.t 19)), qI 21 (.load false 1 (.t 20)), qI 22 (.mv (.t 1)), eI 23 (.call 45 [(.t 21), (.t 22)]), qI 1 (.mv (.t 23))])
  (.seq (.region [0, 1, 5, 25] [qI 24 (.mv (.t 1)), qI 25 (.bin .lss .other (.t 24) (.c (.int .i64 0)))])
  (.cond (.t 25) (.seq (.region [4] [qI 4 (.mv (.c (.int .i64 (-1))))])
  .ret) .skip))))
  (.region [0, 1, 5] [qI 16 (.mv (.t 5)), qI 17 (.bin .add .other (.t 16) (.c (.int .i64 1))), qI 5 (.mv (.t 17))]))))))
  (.seq (.region [4] [qI 26 (.mv (.t 1)), qI 4 (.mv (.t 26))])
  .ret)))))⟩
theorem cf57 : cF Try.prog Try.f57 = some if57 := by kernel_rfl
/-- loop.example/g01076/laws.toInt64SSS -/
def if60 : IFn := ⟨[0], [(.tmp 2)], (.seq (.region [0] [qI 2 (.mv (.c .nils))])
  (.seq (.region [0, 3] [qI 5 (.mv (.t 0)), qI 6 (.len (.t 5)), eI 7 (.makeSl 1 24 [.nils] (.t 6) (.t 6)), qI 3 (.mv (.t 7))])
  (.seq (.seq (.region [0, 3, 4] [qI 4 (.mv (.c (.int .i64 0)))])
  (.block 0 (.loop [0, 3, 4] (.seq (.seq (.region [0, 3, 4, 11] [qI 8 (.mv (.t 4)), qI 9 (.mv (.t 0)), qI 10 (.len (.t 9)), qI 11 (.bin .lss .other (.t 8) (.t 10))])
  (.cond (.t 11) .skip (.exit 0)))
  (.seq (.block 1 (.region [0, 3, 4] [qI 14 (.mv (.t 3)), qI 15 (.mv (.t 4)), qI 16 (.mv (.t 0)), qI 17 (.mv (.t 4)), qI 18 (.indexAddr 1 (.t 16) (.t 17)), qI 19 (.load false 1 (.t 18)), eI 20 (.call 47 [(.t 19)]), qI 21 (.indexAddr 1 (.t 14) (.t 15)), nI (.store 1 (.t 21) (.t 20))]))
  (.region [0, 3, 4] [qI 12 (.mv (.t 4)), qI 13 (.bin .add .other (.t 12) (.c (.int .i64 1))), qI 4 (.mv (.t 13))]))))))
  (.seq (.region [2] [qI 22 (.mv (.t 3)), qI 2 (.mv (.t 22))])
  .ret))))⟩
theorem cf60 : cF Try.prog Try.f60 = some if60 := by kernel_rfl
/-- loop.example/g01076/laws.eqInt64SSS -/
def if62 : IFn := ⟨[0, 1], [(.tmp 4)], (.seq (.region [0, 1] [qI 4 (.mv (.c (.bool false)))])
  (.seq (.seq (.region [0, 1, 10] [qI 6 (.mv (.t 0)), qI 7 (.len (.t 6)), qI 8 (.mv (.t 1)), qI 9 (.len (.t 8)), qI 10 (.bin .neq .other (.t 7) (.t 9))])
  (.cond (.t 10) (.seq (.region [4] [qI 4 (.mv (.c (.bool false)))])
  .ret) .skip))
  (.seq (.seq (.region [0, 1, 5] [qI 5 (.mv (.c (.int .i64 0)))])
  (.block 0 (.loop [0, 1, 5] (.seq (.seq (.region [0, 1, 5, 14] [qI 11 (.mv (.t 5)), qI 12 (.mv (.t 0)), qI 13 (.len (.t 12)), qI 14 (.bin .lss .other (.t 11) (.t 13))])
  (.cond (.t 14) .skip (.exit 0)))
  (.seq (.block 1 (.seq (.draw [0, 1, 5, 26] [] [qD 17 (.mv (.t 0)) 0, qD 18 (.mv (.t 5)) 1, qD 19 (.indexAddr 1 (.t 17) (.t 18)) 2, qD 20 (.load false 1 (.t 19)) 3, qD 21 (.mv (.t 1)) 4, qD 22 (.mv (.t 5)) 5, qD 23 (.indexAddr 1 (.t 21) (.t 22)) 6, qD 24 (.load false 1 (.t 23)) 7, eD 25 (.call 42 [(.t 20), (.t 24)]) 8 [], qD 26 (.un .not (.t 25)) 9])
  (.cond (.t 26) (.seq (.region [4] [qI 4 (.mv (.c (.bool false)))])
  .ret) .skip)))
  (.region [0, 1, 5] [qI 15 (.mv (.t 5)), qI 16 (.bin .add .other (.t 15) (.c (.int .i64 1))), qI 5 (.mv (.t 16))]))))))
  (.seq (.region [4] [qI 4 (.mv (.c (.bool true)))])
  .ret))))⟩
theorem cf62 : cF Try.prog Try.f62 = some if62 := by kernel_rfl
/-- loop.example/g01076/impl.isExponents -/
def if67 : IFn := ⟨[0, 1], [(.tmp 4)], (.seq (.region [0, 1] [qI 4 (.mv (.c (.bool false)))])
  (.seq (.seq (.region [0, 1, 14] [qI 7 (.mv (.t 1)), qI 8 (.len (.t 7)), qI 9 (.mv (.t 0)), qI 10 (.nilCheck (.t 9)), qI 11 (.fieldAddr 0 (.t 10)), qI 12 (.load false 1 (.t 11)), qI 13 (.len (.t 12)), qI 14 (.bin .neq .other (.t 8) (.t 13))])
  (.cond (.t 14) (.seq (.region [4] [qI 4 (.mv (.c (.bool false)))])
  .ret) .skip))
  (.seq (.seq (.region [0, 15, 16, 17] [qI 15 (.mv (.t 1)), qI 16 (.len (.t 15)), qI 17 (.mv (.c (.int .i64 0)))])
  (.block 0 (.loop [0, 15, 16, 17] (.seq (.region [0, 15, 16, 17, 18] [qI 18 (.bin .lss .other (.t 17) (.t 16))])
  (.seq (.cond (.t 18) .skip (.exit 0))
  (.seq (.block 1 (.seq (.region [0, 5, 6, 15, 16, 17] [qI 19 (.mv (.t 17)), qI 20 (.indexAddr 1 (.t 15) (.t 17)), qI 21 (.load false 1 (.t 20)), qI 5 (.mv (.t 19)), qI 6 (.mv (.t 21))])
  (.seq (.region [0, 15, 16, 17, 32] [qI 22 (.mv (.t 6)), qI 23 (.mv (.t 0)), qI 24 (.nilCheck (.t 23)), qI 25 (.fieldAddr 0 (.t 24)), qI 26 (.load false 1 (.t 25)), qI 27 (.mv (.t 5)), qI 28 (.indexAddr 1 (.t 26) (.t 27)), qI 29 (.load false 1 (.t 28)), qI 30 (.bin .sub .other (.t 29) (.c (.int .i64 1))), eI 31 (.call 105 [(.t 22), (.c (.int .i64 0)), (.t 30)]), qI 32 (.un .not (.t 31))])
  (.cond (.t 32) (.seq (.region [4] [qI 4 (.mv (.c (.bool false)))])
  .ret) .skip))))
  (.region [0, 15, 16, 17] [qI 33 (.bin .add .other (.t 17) (.c (.int .i64 1))), qI 17 (.mv (.t 33))])))))))
  (.seq (.region [4] [qI 4 (.mv (.c (.bool true)))])
  .ret))))⟩
theorem cf67 : cF Try.prog Try.f67 = some if67 := by kernel_rfl
/-- loop.example/g01076/impl.isZero -/
def if86 : IFn := ⟨[0], [(.tmp 2)], (.seq (.region [0] [qI 2 (.mv (.c (.bool false)))])
  (.seq (.seq (.region [5, 6, 7] [qI 5 (.mv (.t 0)), qI 6 (.len (.t 5)), qI 7 (.mv (.c (.int .i64 0)))])
  (.block 0 (.loop [5, 6, 7] (.seq (.region [5, 6, 7, 8] [qI 8 (.bin .lss .other (.t 7) (.t 6))])
  (.seq (.cond (.t 8) .skip (.exit 0))
  (.seq (.block 1 (.seq (.region [4, 5, 6, 7] [qI 9 (.indexAddr 1 (.t 5) (.t 7)), qI 10 (.load false 1 (.t 9)), qI 4 (.mv (.t 10))])
  (.seq (.region [5, 6, 7, 12] [qI 11 (.mv (.t 4)), qI 12 (.bin .neq .other (.t 11) (.c (.int .i64 0)))])
  (.cond (.t 12) (.seq (.region [2] [qI 2 (.mv (.c (.bool false)))])
  .ret) .skip))))
  (.region [5, 6, 7] [qI 13 (.bin .add .other (.t 7) (.c (.int .i64 1))), qI 7 (.mv (.t 13))])))))))
  (.seq (.region [2] [qI 2 (.mv (.c (.bool true)))])
  .ret)))⟩
theorem cf86 : cF Try.prog Try.f86 = some if86 := by kernel_rfl
/-- loop.example/g01076/laws.szPresentationS -/
def if90 : IFn := ⟨[0, 1], [(.tmp 4)], (.seq (.region [0, 1] [qI 4 (.mv (.c (.int .i64 0)))])
  (.seq (.region [0, 1] [qI 6 (.mv (.t 1)), qI 7 (.mv (.t 0)), qI 8 (.len (.t 7)), qI 9 (.bin .sub .other (.t 6) (.t 8)), qI 1 (.mv (.t 9))])
  (.seq (.seq (.region [0, 1, 11] [qI 10 (.mv (.t 1)), qI 11 (.bin .lss .other (.t 10) (.c (.int .i64 0)))])
  (.cond (.t 11) (.seq (.region [4] [qI 4 (.mv (.c (.int .i64 (-1))))])
  .ret) .skip))
  (.seq (.seq (.region [0, 1, 5] [qI 5 (.mv (.c (.int .i64 0)))])
  (.block 0 (.loop [0, 1, 5] (.seq (.seq (.region [0, 1, 5, 15] [qI 12 (.mv (.t 5)), qI 13 (.mv (.t 0)), qI 14 (.len (.t 13)), qI 15 (.bin .lss .other (.t 12) (.t 14))])
  (.cond (.t 15) .skip (.exit 0)))
  (.seq (.block 1 (.seq (.region [0, 1, 5] [qI 18 (.mv (.t 0)), qI 19 (.mv (.t 5)), qI 20 (.indexAddr 3 (.t 18) (.t 19)), qI 21 (.load true 3 (.t 20)), qI 22 (.mv (.t 1)), eI 23 (.call 12 [(.t 21), (.t 22)]), qI 1 (.mv (.t 23))])
  (.seq (.region [0, 1, 5, 25] [qI 24 (.mv (.t 1)), qI 25 (.bin .lss .other (.t 24) (.c (.int .i64 0)))])
  (.cond (.t 25) (.seq (.region [4] [qI 4 (.mv (.c (.int .i64 (-1))))])
  .ret) .skip))))
  (.region [0, 1, 5] [qI 16 (.mv (.t 5)), qI 17 (.bin .add .other (.t 16) (.c (.int .i64 1))), qI 5 (.mv (.t 17))]))))))
  (.seq (.region [4] [qI 26 (.mv (.t 1)), qI 4 (.mv (.t 26))])
  .ret)))))⟩
theorem cf90 : cF Try.prog Try.f90 = some if90 := by kernel_rfl
/-- loop.example/g01076/spec.l35Groups -/
def if91 : IFn := ⟨[0], [(.tmp 2)], (.seq (.region [0] [qI 2 (.mv (.c (.int .i64 0)))])
  (.seq (.seq (.region [3] [qI 3 (.mv (.t 0))])
  (.block 0 (.seq (.seq (.region [3, 4] [qI 5 (.bin .eql .other (.t 3) (.c (.int .i64 1))), qI 4 (.mv (.t 5))])
  (.cond (.t 4) .skip (.seq (.region [3, 4] [qI 6 (.bin .eql .other (.t 3) (.c (.int .i64 2))), qI 4 (.mv (.t 6))])
  (.cond (.t 4) .skip (.seq (.region [3, 4] [qI 7 (.bin .eql .other (.t 3) (.c (.int .i64 3))), qI 4 (.mv (.t 7))])
  (.cond (.t 4) .skip (.region [3, 4] [qI 8 (.bin .eql .other (.t 3) (.c (.int .i64 6))), qI 4 (.mv (.t 8))])))))))
  (.cond (.t 4) (.seq (.region [2] [qI 2 (.mv (.c (.int .i64 1)))])
  .ret) (.seq (.region [3, 9] [qI 10 (.bin .eql .other (.t 3) (.c (.int .i64 4))), qI 9 (.mv (.t 10))])
  (.cond (.t 9) (.seq (.region [2] [qI 2 (.mv (.c (.int .i64 2)))])
  .ret) (.seq (.region [11] [qI 12 (.bin .eql .other (.t 3) (.c (.int .i64 5))), qI 11 (.mv (.t 12))])
  (.cond (.t 11) (.seq (.region [2] [qI 2 (.mv (.c (.int .i64 3)))])
  .ret) .skip))))))))
  (.seq (.region [2] [qI 2 (.mv (.c (.int .i64 (-1))))])
  .ret)))⟩
theorem cf91 : cF Try.prog Try.f91 = some if91 := by kernel_rfl
/-- loop.example/g01076/spec.IsPresentation -/
def if92 : IFn := ⟨[0], [(.tmp 2)], (.seq (.region [1] [eI 1 (.box (.t 0)), qI 2 (.mv (.c (.bool false)))])
  (.seq (.region [1, 3] [qI 7 (.fieldAddr 0 (.t 1)), qI 8 (.load false 1 (.t 7)), qI 9 (.len (.t 8)), qI 3 (.mv (.t 9))])
  (.seq (.seq (.region [1, 3, 25] [qI 10 (.mv (.t 3)), qI 11 (.bin .gtr .other (.t 10) (.c (.int .i64 6))), qI 12 (.mv (.t 11)), ⟨(some 13), .fieldAddr 1 (.t 1), true, (some (12, false))⟩, ⟨(some 14), .load false 1 (.t 13), true, (some (12, false))⟩, ⟨(some 15), .len (.t 14), true, (some (12, false))⟩, ⟨(some 16), .mv (.t 3), true, (some (12, false))⟩, ⟨(some 17), .bin .neq .other (.t 15) (.t 16), true, (some (12, false))⟩, qI 18 (.pick (.t 12) (.c (.bool true)) (.t 17)), qI 19 (.mv (.t 18)), ⟨(some 20), .fieldAddr 2 (.t 1), true, (some (19, false))⟩, ⟨(some 21), .load false 1 (.t 20), true, (some (19, false))⟩, ⟨(some 22), .len (.t 21), true, (some (19, false))⟩, ⟨(some 23), .mv (.t 3), true, (some (19, false))⟩, ⟨(some 24), .bin .neq .other (.t 22) (.t 23), true, (some (19, false))⟩, qI 25 (.pick (.t 19) (.c (.bool true)) (.t 24))])
  (.cond (.t 25) (.seq (.region [2] [qI 2 (.mv (.c (.bool false)))])
  .ret) .skip))
  (.seq (.seq (.region [1, 3, 4] [qI 4 (.mv (.c (.int .i64 0)))])
  (.block 0 (.loop [1, 3, 4] (.seq (.seq (.region [1, 3, 4, 28] [qI 26 (.mv (.t 4)), qI 27 (.mv (.t 3)), qI 28 (.bin .lss .other (.t 26) (.t 27))])
  (.cond (.t 28) .skip (.exit 0)))
  (.seq (.block 1 (.seq (.region [1, 3, 4, 37] [qI 31 (.fieldAddr 0 (.t 1)), qI 32 (.load false 1 (.t 31)), qI 33 (.mv (.t 4)), qI 34 (.indexAddr 1 (.t 32) (.t 33)), qI 35 (.load false 1 (.t 34)), eI 36 (.call 98 [(.t 35)]), qI 37 (.un .not (.t 36))])
  (.cond (.t 37) (.seq (.region [2] [qI 2 (.mv (.c (.bool false)))])
  .ret) .skip)))
  (.region [1, 3, 4] [qI 29 (.mv (.t 4)), qI 30 (.bin .add .other (.t 29) (.c (.int .i64 1))), qI 4 (.mv (.t 30))]))))))
  (.seq (.seq (.region [1, 3, 41] [qI 38 (.fieldAddr 0 (.t 1)), qI 39 (.load false 1 (.t 38)), eI 40 (.call 123 [(.t 39)]), qI 41 (.bin .gtr .other (.t 40) (.c (.int .i64 729)))])
  (.cond (.t 41) (.seq (.region [2] [qI 2 (.mv (.c (.bool false)))])
  .ret) .skip))
  (.seq (.seq (.region [1, 3, 5] [qI 5 (.mv (.c (.int .i64 0)))])
  (.block 2 (.loop [1, 3, 5] (.seq (.seq (.region [1, 3, 5, 44] [qI 42 (.mv (.t 5)), qI 43 (.mv (.t 3)), qI 44 (.bin .lss .other (.t 42) (.t 43))])
  (.cond (.t 44) .skip (.exit 2)))
  (.seq (.block 3 (.seq (.seq (.draw [1, 3, 5, 69] [] [qD 47 (.fieldAddr 0 (.t 1)) 0, qD 48 (.load false 1 (.t 47)) 1, qD 49 (.fieldAddr 1 (.t 1)) 2, qD 50 (.load false 1 (.t 49)) 3, qD 51 (.mv (.t 5)) 4, qD 52 (.indexAddr 1 (.t 50) (.t 51)) 5, qD 53 (.load false 1 (.t 52)) 6, qD 54 (.mv (.t 5)) 7, eD 55 (.call 109 [(.t 48), (.t 53), (.t 54)]) 8 [], qD 56 (.un .not (.t 55)) 9, qD 57 (.mv (.t 56)) 10, ⟨⟨(some 58), .fieldAddr 2 (.t 1), true, (some (57, false))⟩, 11, []⟩, ⟨⟨(some 59), .load false 1 (.t 58), true, (some (57, false))⟩, 12, []⟩, ⟨⟨(some 60), .mv (.t 5), true, (some (57, false))⟩, 13, []⟩, ⟨⟨(some 61), .indexAddr 1 (.t 59) (.t 60), true, (some (57, false))⟩, 14, []⟩, ⟨⟨(some 62), .load false 1 (.t 61), true, (some (57, false))⟩, 15, []⟩, ⟨⟨(some 63), .len (.t 62), true, (some (57, false))⟩, 16, []⟩, ⟨⟨(some 64), .mv (.t 3), true, (some (57, false))⟩, 17, []⟩, ⟨⟨(some 65), .bin .sub .other (.t 64) (.c (.int .i64 1)), true, (some (57, false))⟩, 18, []⟩, ⟨⟨(some 66), .mv (.t 5), true, (some (57, false))⟩, 19, []⟩, ⟨⟨(some 67), .bin .sub .other (.t 65) (.t 66), true, (some (57, false))⟩, 20, []⟩, ⟨⟨(some 68), .bin .neq .other (.t 63) (.t 67), true, (some (57, false))⟩, 21, []⟩, qD 69 (.pick (.t 57) (.c (.bool true)) (.t 68)) 22])
  (.cond (.t 69) (.seq (.region [2] [qI 2 (.mv (.c (.bool false)))])
  .ret) .skip))
  (.seq (.region [1, 3, 5, 6] [qI 6 (.mv (.c (.int .i64 0)))])
  (.block 4 (.loop [1, 3, 5, 6] (.seq (.seq (.region [1, 3, 5, 6, 77] [qI 70 (.mv (.t 6)), qI 71 (.fieldAddr 2 (.t 1)), qI 72 (.load false 1 (.t 71)), qI 73 (.mv (.t 5)), qI 74 (.indexAddr 1 (.t 72) (.t 73)), qI 75 (.load false 1 (.t 74)), qI 76 (.len (.t 75)), qI 77 (.bin .lss .other (.t 70) (.t 76))])
  (.cond (.t 77) .skip (.exit 4)))
  (.seq (.block 5 (.seq (.draw [1, 3, 5, 6, 92] [] [qD 80 (.fieldAddr 0 (.t 1)) 0, qD 81 (.load false 1 (.t 80)) 1, qD 82 (.fieldAddr 2 (.t 1)) 2, qD 83 (.load false 1 (.t 82)) 3, qD 84 (.mv (.t 5)) 4, qD 85 (.indexAddr 1 (.t 83) (.t 84)) 5, qD 86 (.load false 1 (.t 85)) 6, qD 87 (.mv (.t 6)) 7, qD 88 (.indexAddr 1 (.t 86) (.t 87)) 8, qD 89 (.load false 1 (.t 88)) 9, qD 90 (.mv (.t 5)) 10, eD 91 (.call 109 [(.t 81), (.t 89), (.t 90)]) 11 [], qD 92 (.un .not (.t 91)) 12])
  (.cond (.t 92) (.seq (.region [2] [qI 2 (.mv (.c (.bool false)))])
  .ret) .skip)))
  (.region [1, 3, 5, 6] [qI 78 (.mv (.t 6)), qI 79 (.bin .add .other (.t 78) (.c (.int .i64 1))), qI 6 (.mv (.t 79))]))))))))
  (.region [1, 3, 5] [qI 45 (.mv (.t 5)), qI 46 (.bin .add .other (.t 45) (.c (.int .i64 1))), qI 5 (.mv (.t 46))]))))))
  (.seq (.region [2] [qI 2 (.mv (.c (.bool true)))])
  .ret)))))))⟩
theorem cf92 : cF Try.prog Try.f92 = some if92 := by kernel_rfl
/-- loop.example/g01076/spec.l01In -/
def if93 : IFn := ⟨[0, 1, 2], [(.tmp 6)], (.seq (.region [0, 1, 2] [qI 6 (.mv (.c (.bool false)))])
  (.seq (.region [6] [qI 7 (.mv (.t 0)), qI 8 (.mv (.t 1)), qI 9 (.bin .geq .other (.t 7) (.t 8)), qI 10 (.mv (.t 9)), ⟨(some 11), .mv (.t 0), true, (some (10, true))⟩, ⟨(some 12), .mv (.t 2), true, (some (10, true))⟩, ⟨(some 13), .bin .leq .other (.t 11) (.t 12), true, (some (10, true))⟩, qI 14 (.pick (.t 10) (.t 13) (.c (.bool false))), qI 6 (.mv (.t 14))])
  .ret))⟩
theorem cf93 : cF Try.prog Try.f93 = some if93 := by kernel_rfl
/-- loop.example/g01076/laws.toPresentationS -/
def if94 : IFn := ⟨[0], [(.tmp 2)], (.seq (.region [0] [qI 2 (.mv (.c .nils))])
  (.seq (.region [0, 3] [qI 5 (.mv (.t 0)), qI 6 (.len (.t 5)), eI 7 (.makeSl 3 72 [.nils, .nils, .nils] (.t 6) (.t 6)), qI 3 (.mv (.t 7))])
  (.seq (.seq (.region [0, 3, 4] [qI 4 (.mv (.c (.int .i64 0)))])
  (.block 0 (.loop [0, 3, 4] (.seq (.seq (.region [0, 3, 4, 11] [qI 8 (.mv (.t 4)), qI 9 (.mv (.t 0)), qI 10 (.len (.t 9)), qI 11 (.bin .lss .other (.t 8) (.t 10))])
  (.cond (.t 11) .skip (.exit 0)))
  (.seq (.block 1 (.region [0, 3, 4] [qI 14 (.mv (.t 3)), qI 15 (.mv (.t 4)), qI 16 (.mv (.t 0)), qI 17 (.mv (.t 4)), qI 18 (.indexAddr 3 (.t 16) (.t 17)), qI 19 (.load true 3 (.t 18)), eI 20 (.call 15 [(.t 19)]), qI 21 (.indexAddr 3 (.t 14) (.t 15)), nI (.store 3 (.t 21) (.t 20))]))
  (.region [0, 3, 4] [qI 12 (.mv (.t 4)), qI 13 (.bin .add .other (.t 12) (.c (.int .i64 1))), qI 4 (.mv (.t 13))]))))))
  (.seq (.region [2] [qI 22 (.mv (.t 3)), qI 2 (.mv (.t 22))])
  .ret))))⟩
theorem cf94 : cF Try.prog Try.f94 = some if94 := by kernel_rfl
/-- loop.example/g01076/impl.isCertificate -/
def if95 : IFn := ⟨[0], [(.tmp 2)], (.seq (.region [0] [qI 2 (.mv (.c (.bool false)))])
  (.seq (.seq (.draw [0, 35] [] [qD 9 (.mv (.t 0)) 0, qD 10 (.nilCheck (.t 9)) 1, qD 11 (.fieldAddr 0 (.t 10)) 2, qD 12 (.load false 1 (.t 11)) 3, eD 13 (.call 105 [(.t 12), (.c (.int .i64 1)), (.c (.int .i64 6))]) 4 [], qD 14 (.un .not (.t 13)) 5, qD 15 (.mv (.t 14)) 6, ⟨⟨(some 16), .mv (.t 0), true, (some (15, false))⟩, 7, []⟩, ⟨⟨(some 17), .nilCheck (.t 16), true, (some (15, false))⟩, 8, []⟩, ⟨⟨(some 18), .fieldAddr 1 (.t 17), true, (some (15, false))⟩, 9, []⟩, ⟨⟨(some 19), .load false 1 (.t 18), true, (some (15, false))⟩, 10, []⟩, ⟨⟨(some 20), .len (.t 19), true, (some (15, false))⟩, 11, []⟩, ⟨⟨(some 21), .mv (.t 0), true, (some (15, false))⟩, 12, []⟩, ⟨⟨(some 22), .nilCheck (.t 21), true, (some (15, false))⟩, 13, []⟩, ⟨⟨(some 23), .fieldAddr 0 (.t 22), true, (some (15, false))⟩, 14, []⟩, ⟨⟨(some 24), .load false 1 (.t 23), true, (some (15, false))⟩, 15, []⟩, ⟨⟨(some 25), .call 124 [(.t 24)], false, (some (15, false))⟩, 16, [10]⟩, ⟨⟨(some 26), .bin .neq .other (.t 20) (.t 25), true, (some (15, false))⟩, 17, []⟩, qD 27 (.pick (.t 15) (.c (.bool true)) (.t 26)) 18, qD 28 (.mv (.t 27)) 19, ⟨⟨(some 29), .mv (.t 0), true, (some (28, false))⟩, 20, []⟩, ⟨⟨(some 30), .nilCheck (.t 29), true, (some (28, false))⟩, 21, []⟩, ⟨⟨(some 31), .fieldAddr 2 (.t 30), true, (some (28, false))⟩, 22, []⟩, ⟨⟨(some 32), .load false 1 (.t 31), true, (some (28, false))⟩, 23, []⟩, ⟨⟨(some 33), .len (.t 32), true, (some (28, false))⟩, 24, []⟩, ⟨⟨(some 34), .bin .gtr .other (.t 33) (.c (.int .i64 32)), true, (some (28, false))⟩, 25, []⟩, qD 35 (.pick (.t 28) (.c (.bool true)) (.t 34)) 26])
  (.cond (.t 35) (.seq (.region [2] [qI 2 (.mv (.c (.bool false)))])
  .ret) .skip))
  (.seq (.seq (.region [0, 39, 40, 41] [qI 36 (.mv (.t 0)), qI 37 (.nilCheck (.t 36)), qI 38 (.fieldAddr 1 (.t 37)), qI 39 (.load false 1 (.t 38)), qI 40 (.len (.t 39)), qI 41 (.mv (.c (.int .i64 0)))])
  (.block 0 (.loop [0, 39, 40, 41] (.seq (.region [0, 39, 40, 41, 42] [qI 42 (.bin .lss .other (.t 41) (.t 40))])
  (.seq (.cond (.t 42) .skip (.exit 0))
  (.seq (.block 1 (.seq (.region [0, 4, 39, 40, 41] [qI 43 (.indexAddr 3 (.t 39) (.t 41)), qI 44 (.load true 3 (.t 43)), eI 4 (.alloc [.nils, .nils, .nils]), nI (.store 3 (.t 4) (.t 44))])
  (.seq (.region [0, 39, 40, 41, 47] [qI 45 (.load true 3 (.t 4)), eI 46 (.call 125 [(.t 45)]), qI 47 (.un .not (.t 46))])
  (.cond (.t 47) (.seq (.region [2] [qI 2 (.mv (.c (.bool false)))])
  .ret) .skip))))
  (.region [0, 39, 40, 41] [qI 48 (.bin .add .other (.t 41) (.c (.int .i64 1))), qI 41 (.mv (.t 48))])))))))
  (.seq (.seq (.region [52, 53, 54] [qI 49 (.mv (.t 0)), qI 50 (.nilCheck (.t 49)), qI 51 (.fieldAddr 2 (.t 50)), qI 52 (.load false 1 (.t 51)), qI 53 (.len (.t 52)), qI 54 (.mv (.c (.int .i64 0)))])
  (.block 2 (.loop [52, 53, 54] (.seq (.region [52, 53, 54, 55] [qI 55 (.bin .lss .other (.t 54) (.t 53))])
  (.seq (.cond (.t 55) .skip (.exit 2))
  (.seq (.block 3 (.seq (.region [6, 52, 53, 54] [qI 56 (.indexAddr 1 (.t 52) (.t 54)), qI 57 (.load false 1 (.t 56)), qI 6 (.mv (.t 57))])
  (.seq (.seq (.region [6, 52, 53, 54, 60] [qI 58 (.mv (.t 6)), qI 59 (.len (.t 58)), qI 60 (.bin .gtr .other (.t 59) (.c (.int .i64 128)))])
  (.cond (.t 60) (.seq (.region [2] [qI 2 (.mv (.c (.bool false)))])
  .ret) .skip))
  (.seq (.region [52, 53, 54, 61, 62, 63] [qI 61 (.mv (.t 6)), qI 62 (.len (.t 61)), qI 63 (.mv (.c (.int .i64 0)))])
  (.block 4 (.loop [52, 53, 54, 61, 62, 63] (.seq (.region [52, 53, 54, 61, 62, 63, 64] [qI 64 (.bin .lss .other (.t 63) (.t 62))])
  (.seq (.cond (.t 64) .skip (.exit 4))
  (.seq (.block 5 (.seq (.region [8, 52, 53, 54, 61, 62, 63] [qI 65 (.indexAddr 1 (.t 61) (.t 63)), qI 66 (.load false 1 (.t 65)), qI 8 (.mv (.t 66))])
  (.seq (.region [52, 53, 54, 61, 62, 63, 69] [qI 67 (.mv (.t 8)), eI 68 (.call 105 [(.t 67), (.c (.int .i64 (-1000000))), (.c (.int .i64 1000000))]), qI 69 (.un .not (.t 68))])
  (.cond (.t 69) (.seq (.region [2] [qI 2 (.mv (.c (.bool false)))])
  .ret) .skip))))
  (.region [52, 53, 54, 61, 62, 63] [qI 70 (.bin .add .other (.t 63) (.c (.int .i64 1))), qI 63 (.mv (.t 70))]))))))))))
  (.region [52, 53, 54] [qI 71 (.bin .add .other (.t 54) (.c (.int .i64 1))), qI 54 (.mv (.t 71))])))))))
  (.seq (.region [2] [qI 2 (.mv (.c (.bool true)))])
  .ret)))))⟩
theorem cf95 : cF Try.prog Try.f95 = some if95 := by kernel_rfl
/-- loop.example/g01076/laws.eqPresentationS -/
def if96 : IFn := ⟨[0, 1], [(.tmp 4)], (.seq (.region [0, 1] [qI 4 (.mv (.c (.bool false)))])
  (.seq (.seq (.region [0, 1, 10] [qI 6 (.mv (.t 0)), qI 7 (.len (.t 6)), qI 8 (.mv (.t 1)), qI 9 (.len (.t 8)), qI 10 (.bin .neq .other (.t 7) (.t 9))])
  (.cond (.t 10) (.seq (.region [4] [qI 4 (.mv (.c (.bool false)))])
  .ret) .skip))
  (.seq (.seq (.region [0, 1, 5] [qI 5 (.mv (.c (.int .i64 0)))])
  (.block 0 (.loop [0, 1, 5] (.seq (.seq (.region [0, 1, 5, 14] [qI 11 (.mv (.t 5)), qI 12 (.mv (.t 0)), qI 13 (.len (.t 12)), qI 14 (.bin .lss .other (.t 11) (.t 13))])
  (.cond (.t 14) .skip (.exit 0)))
  (.seq (.block 1 (.seq (.draw [0, 1, 5, 26] [] [qD 17 (.mv (.t 0)) 0, qD 18 (.mv (.t 5)) 1, qD 19 (.indexAddr 3 (.t 17) (.t 18)) 2, qD 20 (.load true 3 (.t 19)) 3, qD 21 (.mv (.t 1)) 4, qD 22 (.mv (.t 5)) 5, qD 23 (.indexAddr 3 (.t 21) (.t 22)) 6, qD 24 (.load true 3 (.t 23)) 7, eD 25 (.call 18 [(.t 20), (.t 24)]) 8 [], qD 26 (.un .not (.t 25)) 9])
  (.cond (.t 26) (.seq (.region [4] [qI 4 (.mv (.c (.bool false)))])
  .ret) .skip)))
  (.region [0, 1, 5] [qI 15 (.mv (.t 5)), qI 16 (.bin .add .other (.t 15) (.c (.int .i64 1))), qI 5 (.mv (.t 16))]))))))
  (.seq (.region [4] [qI 4 (.mv (.c (.bool true)))])
  .ret))))⟩
theorem cf96 : cF Try.prog Try.f96 = some if96 := by kernel_rfl
/-- loop.example/g01076/spec.l01Prime -/
def if98 : IFn := ⟨[0], [(.tmp 2)], (.seq (.region [0] [qI 2 (.mv (.c (.bool false)))])
  (.seq (.region [2] [qI 3 (.mv (.t 0)), qI 4 (.bin .eql .other (.t 3) (.c (.int .i64 2))), qI 5 (.mv (.t 4)), ⟨(some 6), .mv (.t 0), true, (some (5, false))⟩, ⟨(some 7), .bin .eql .other (.t 6) (.c (.int .i64 3)), true, (some (5, false))⟩, qI 8 (.pick (.t 5) (.c (.bool true)) (.t 7)), qI 9 (.mv (.t 8)), ⟨(some 10), .mv (.t 0), true, (some (9, false))⟩, ⟨(some 11), .bin .eql .other (.t 10) (.c (.int .i64 5)), true, (some (9, false))⟩, qI 12 (.pick (.t 9) (.c (.bool true)) (.t 11)), qI 13 (.mv (.t 12)), ⟨(some 14), .mv (.t 0), true, (some (13, false))⟩, ⟨(some 15), .bin .eql .other (.t 14) (.c (.int .i64 7)), true, (some (13, false))⟩, qI 16 (.pick (.t 13) (.c (.bool true)) (.t 15)), qI 2 (.mv (.t 16))])
  .ret))⟩
theorem cf98 : cF Try.prog Try.f98 = some if98 := by kernel_rfl
/-- loop.example/g01076/impl.IsGroupPrime -/
def if104 : IFn := ⟨[0], [(.tmp 2)], (.seq (.region [0] [qI 2 (.mv (.c (.bool false)))])
  (.seq (.region [2] [qI 3 (.mv (.t 0)), qI 4 (.bin .eql .other (.t 3) (.c (.int .i64 2))), qI 5 (.mv (.t 4)), ⟨(some 6), .mv (.t 0), true, (some (5, false))⟩, ⟨(some 7), .bin .eql .other (.t 6) (.c (.int .i64 3)), true, (some (5, false))⟩, qI 8 (.pick (.t 5) (.c (.bool true)) (.t 7)), qI 9 (.mv (.t 8)), ⟨(some 10), .mv (.t 0), true, (some (9, false))⟩, ⟨(some 11), .bin .eql .other (.t 10) (.c (.int .i64 5)), true, (some (9, false))⟩, qI 12 (.pick (.t 9) (.c (.bool true)) (.t 11)), qI 13 (.mv (.t 12)), ⟨(some 14), .mv (.t 0), true, (some (13, false))⟩, ⟨(some 15), .bin .eql .other (.t 14) (.c (.int .i64 7)), true, (some (13, false))⟩, qI 16 (.pick (.t 13) (.c (.bool true)) (.t 15)), qI 2 (.mv (.t 16))])
  .ret))⟩
theorem cf104 : cF Try.prog Try.f104 = some if104 := by kernel_rfl
/-- loop.example/g01076/impl.inside -/
def if105 : IFn := ⟨[0, 1, 2], [(.tmp 6)], (.seq (.region [0, 1, 2] [qI 6 (.mv (.c (.bool false)))])
  (.seq (.region [6] [qI 7 (.mv (.t 0)), qI 8 (.mv (.t 1)), qI 9 (.bin .geq .other (.t 7) (.t 8)), qI 10 (.mv (.t 9)), ⟨(some 11), .mv (.t 0), true, (some (10, true))⟩, ⟨(some 12), .mv (.t 2), true, (some (10, true))⟩, ⟨(some 13), .bin .leq .other (.t 11) (.t 12), true, (some (10, true))⟩, qI 14 (.pick (.t 10) (.t 13) (.c (.bool false))), qI 6 (.mv (.t 14))])
  .ret))⟩
theorem cf105 : cF Try.prog Try.f105 = some if105 := by kernel_rfl
/-- loop.example/g01076/spec.l07Exponents -/
def if109 : IFn := ⟨[0, 1, 2], [(.tmp 6)], (.seq (.region [0, 1, 2] [qI 6 (.mv (.c (.bool false)))])
  (.seq (.seq (.region [0, 1, 2, 12] [qI 8 (.mv (.t 1)), qI 9 (.len (.t 8)), qI 10 (.mv (.t 0)), qI 11 (.len (.t 10)), qI 12 (.bin .neq .other (.t 9) (.t 11))])
  (.cond (.t 12) (.seq (.region [6] [qI 6 (.mv (.c (.bool false)))])
  .ret) .skip))
  (.seq (.seq (.region [0, 1, 2, 7] [qI 7 (.mv (.c (.int .i64 0)))])
  (.block 0 (.loop [0, 1, 2, 7] (.seq (.seq (.region [0, 1, 2, 7, 16] [qI 13 (.mv (.t 7)), qI 14 (.mv (.t 1)), qI 15 (.len (.t 14)), qI 16 (.bin .lss .other (.t 13) (.t 15))])
  (.cond (.t 16) .skip (.exit 0)))
  (.seq (.block 1 (.seq (.draw [0, 1, 2, 7, 41] [] [qD 19 (.mv (.t 1)) 0, qD 20 (.mv (.t 7)) 1, qD 21 (.indexAddr 1 (.t 19) (.t 20)) 2, qD 22 (.load false 1 (.t 21)) 3, qD 23 (.mv (.t 0)) 4, qD 24 (.mv (.t 7)) 5, qD 25 (.indexAddr 1 (.t 23) (.t 24)) 6, qD 26 (.load false 1 (.t 25)) 7, qD 27 (.bin .sub .other (.t 26) (.c (.int .i64 1))) 8, eD 28 (.call 93 [(.t 22), (.c (.int .i64 0)), (.t 27)]) 9 [], qD 29 (.un .not (.t 28)) 10, qD 30 (.mv (.t 29)) 11, ⟨⟨(some 31), .mv (.t 7), true, (some (30, false))⟩, 12, []⟩, ⟨⟨(some 32), .mv (.t 2), true, (some (30, false))⟩, 13, []⟩, ⟨⟨(some 33), .bin .leq .other (.t 31) (.t 32), true, (some (30, false))⟩, 14, []⟩, ⟨⟨(some 34), .mv (.t 33), true, (some (30, false))⟩, 15, []⟩, ⟨⟨(some 35), .mv (.t 1), true, (some (34, true))⟩, 16, []⟩, ⟨⟨(some 36), .mv (.t 7), true, (some (34, true))⟩, 17, []⟩, ⟨⟨(some 37), .indexAddr 1 (.t 35) (.t 36), true, (some (34, true))⟩, 18, []⟩, ⟨⟨(some 38), .load false 1 (.t 37), true, (some (34, true))⟩, 19, []⟩, ⟨⟨(some 39), .bin .neq .other (.t 38) (.c (.int .i64 0)), true, (some (34, true))⟩, 20, []⟩, ⟨⟨(some 40), .pick (.t 34) (.t 39) (.c (.bool false)), true, (some (30, false))⟩, 21, []⟩, qD 41 (.pick (.t 30) (.c (.bool true)) (.t 40)) 22])
  (.cond (.t 41) (.seq (.region [6] [qI 6 (.mv (.c (.bool false)))])
  .ret) .skip)))
  (.region [0, 1, 2, 7] [qI 17 (.mv (.t 7)), qI 18 (.bin .add .other (.t 17) (.c (.int .i64 1))), qI 7 (.mv (.t 18))]))))))
  (.seq (.region [6] [qI 6 (.mv (.c (.bool true)))])
  .ret))))⟩
theorem cf109 : cF Try.prog Try.f109 = some if109 := by kernel_rfl
/-- loop.example/g01076/spec.l07Product -/
def if123 : IFn := ⟨[0], [(.tmp 2)], (.seq (.region [0] [qI 2 (.mv (.c (.int .i64 0)))])
  (.seq (.region [0, 3] [qI 3 (.mv (.c (.int .i64 1)))])
  (.seq (.seq (.region [0, 3, 4] [qI 4 (.mv (.c (.int .i64 0)))])
  (.block 0 (.loop [0, 3, 4] (.seq (.seq (.region [0, 3, 4, 8] [qI 5 (.mv (.t 4)), qI 6 (.mv (.t 0)), qI 7 (.len (.t 6)), qI 8 (.bin .lss .other (.t 5) (.t 7))])
  (.cond (.t 8) .skip (.exit 0)))
  (.seq (.block 1 (.seq (.region [0, 3, 4, 12] [qI 11 (.mv (.t 3)), qI 12 (.bin .leq .other (.t 11) (.c (.int .i64 729)))])
  (.cond (.t 12) (.region [0, 3, 4] [qI 13 (.mv (.t 3)), qI 14 (.mv (.t 0)), qI 15 (.mv (.t 4)), qI 16 (.indexAddr 1 (.t 14) (.t 15)), qI 17 (.load false 1 (.t 16)), qI 18 (.bin .mul .other (.t 13) (.t 17)), qI 3 (.mv (.t 18))]) .skip)))
  (.region [0, 3, 4] [qI 9 (.mv (.t 4)), qI 10 (.bin .add .other (.t 9) (.c (.int .i64 1))), qI 4 (.mv (.t 10))]))))))
  (.seq (.region [2] [qI 19 (.mv (.t 3)), qI 2 (.mv (.t 19))])
  .ret))))⟩
theorem cf123 : cF Try.prog Try.f123 = some if123 := by kernel_rfl
/-- loop.example/g01076/impl.groupsNeeded -/
def if124 : IFn := ⟨[0], [(.tmp 2)], (.seq (.region [0] [qI 2 (.mv (.c (.int .i64 0)))])
  (.seq (.seq (.region [3] [qI 3 (.mv (.t 0))])
  (.block 0 (.seq (.region [3, 4] [qI 5 (.bin .eql .other (.t 3) (.c (.int .i64 5))), qI 4 (.mv (.t 5))])
  (.cond (.t 4) (.seq (.region [2] [qI 2 (.mv (.c (.int .i64 3)))])
  .ret) (.seq (.region [6] [qI 7 (.bin .eql .other (.t 3) (.c (.int .i64 4))), qI 6 (.mv (.t 7))])
  (.cond (.t 6) (.seq (.region [2] [qI 2 (.mv (.c (.int .i64 2)))])
  .ret) .skip))))))
  (.seq (.region [2] [qI 2 (.mv (.c (.int .i64 1)))])
  .ret)))⟩
theorem cf124 : cF Try.prog Try.f124 = some if124 := by kernel_rfl
/-- loop.example/g01076/impl.IsPresentation -/
def if125 : IFn := ⟨[0], [(.tmp 2)], (.seq (.region [1] [eI 1 (.box (.t 0)), qI 2 (.mv (.c (.bool false)))])
  (.seq (.region [1, 3] [qI 10 (.fieldAddr 0 (.t 1)), qI 11 (.load false 1 (.t 10)), qI 12 (.len (.t 11)), qI 3 (.mv (.t 12))])
  (.seq (.seq (.region [1, 3, 28] [qI 13 (.mv (.t 3)), qI 14 (.bin .gtr .other (.t 13) (.c (.int .i64 6))), qI 15 (.mv (.t 14)), ⟨(some 16), .fieldAddr 1 (.t 1), true, (some (15, false))⟩, ⟨(some 17), .load false 1 (.t 16), true, (some (15, false))⟩, ⟨(some 18), .len (.t 17), true, (some (15, false))⟩, ⟨(some 19), .mv (.t 3), true, (some (15, false))⟩, ⟨(some 20), .bin .neq .other (.t 18) (.t 19), true, (some (15, false))⟩, qI 21 (.pick (.t 15) (.c (.bool true)) (.t 20)), qI 22 (.mv (.t 21)), ⟨(some 23), .fieldAddr 2 (.t 1), true, (some (22, false))⟩, ⟨(some 24), .load false 1 (.t 23), true, (some (22, false))⟩, ⟨(some 25), .len (.t 24), true, (some (22, false))⟩, ⟨(some 26), .mv (.t 3), true, (some (22, false))⟩, ⟨(some 27), .bin .neq .other (.t 25) (.t 26), true, (some (22, false))⟩, qI 28 (.pick (.t 22) (.c (.bool true)) (.t 27))])
  (.cond (.t 28) (.seq (.region [2] [qI 2 (.mv (.c (.bool false)))])
  .ret) .skip))
  (.seq (.region [1, 3, 4] [qI 4 (.mv (.c (.int .i64 1)))])
  (.seq (.seq (.region [1, 3, 4, 30, 31, 32] [qI 29 (.fieldAddr 0 (.t 1)), qI 30 (.load false 1 (.t 29)), qI 31 (.len (.t 30)), qI 32 (.mv (.c (.int .i64 0)))])
  (.block 0 (.loop [1, 3, 4, 30, 31, 32] (.seq (.region [1, 3, 4, 30, 31, 32, 33] [qI 33 (.bin .lss .other (.t 32) (.t 31))])
  (.seq (.cond (.t 33) .skip (.exit 0))
  (.seq (.block 1 (.seq (.region [1, 3, 4, 6, 30, 31, 32] [qI 34 (.indexAddr 1 (.t 30) (.t 32)), qI 35 (.load false 1 (.t 34)), qI 6 (.mv (.t 35))])
  (.seq (.seq (.region [1, 3, 4, 6, 30, 31, 32, 44] [qI 36 (.mv (.t 6)), eI 37 (.call 104 [(.t 36)]), qI 38 (.un .not (.t 37)), qI 39 (.mv (.t 38)), ⟨(some 40), .mv (.t 4), true, (some (39, false))⟩, ⟨(some 41), .mv (.t 6), true, (some (39, false))⟩, ⟨(some 42), .bin .mul .other (.t 40) (.t 41), true, (some (39, false))⟩, ⟨(some 43), .bin .gtr .other (.t 42) (.c (.int .i64 729)), true, (some (39, false))⟩, qI 44 (.pick (.t 39) (.c (.bool true)) (.t 43))])
  (.cond (.t 44) (.seq (.region [2] [qI 2 (.mv (.c (.bool false)))])
  .ret) .skip))
  (.region [1, 3, 4, 30, 31, 32] [qI 45 (.mv (.t 4)), qI 46 (.mv (.t 6)), qI 47 (.bin .mul .other (.t 45) (.t 46)), qI 4 (.mv (.t 47))]))))
  (.region [1, 3, 4, 30, 31, 32] [qI 48 (.bin .add .other (.t 32) (.c (.int .i64 1))), qI 32 (.mv (.t 48))])))))))
  (.seq (.seq (.region [1, 3, 49, 50] [qI 49 (.mv (.t 3)), qI 50 (.mv (.c (.int .i64 0)))])
  (.block 2 (.loop [1, 3, 49, 50] (.seq (.region [1, 3, 49, 50, 51] [qI 51 (.bin .lss .other (.t 50) (.t 49))])
  (.seq (.cond (.t 51) .skip (.exit 2))
  (.seq (.block 3 (.seq (.region [1, 3, 7, 49, 50] [qI 52 (.mv (.t 50)), qI 7 (.mv (.t 52))])
  (.seq (.seq (.region [1, 3, 7, 49, 50, 73] [qI 53 (.mv (.t 7)), qI 54 (.fieldAddr 1 (.t 1)), qI 55 (.load false 1 (.t 54)), qI 56 (.mv (.t 7)), qI 57 (.indexAddr 1 (.t 55) (.t 56)), qI 58 (.load false 1 (.t 57)), eI 59 (.call 135 [(.t 1), (.t 53), (.t 58)]), qI 60 (.un .not (.t 59)), qI 61 (.mv (.t 60)), ⟨(some 62), .fieldAddr 2 (.t 1), true, (some (61, false))⟩, ⟨(some 63), .load false 1 (.t 62), true, (some (61, false))⟩, ⟨(some 64), .mv (.t 7), true, (some (61, false))⟩, ⟨(some 65), .indexAddr 1 (.t 63) (.t 64), true, (some (61, false))⟩, ⟨(some 66), .load false 1 (.t 65), true, (some (61, false))⟩, ⟨(some 67), .len (.t 66), true, (some (61, false))⟩, ⟨(some 68), .mv (.t 3), true, (some (61, false))⟩, ⟨(some 69), .bin .sub .other (.t 68) (.c (.int .i64 1)), true, (some (61, false))⟩, ⟨(some 70), .mv (.t 7), true, (some (61, false))⟩, ⟨(some 71), .bin .sub .other (.t 69) (.t 70), true, (some (61, false))⟩, ⟨(some 72), .bin .neq .other (.t 67) (.t 71), true, (some (61, false))⟩, qI 73 (.pick (.t 61) (.c (.bool true)) (.t 72))])
  (.cond (.t 73) (.seq (.region [2] [qI 2 (.mv (.c (.bool false)))])
  .ret) .skip))
  (.seq (.region [1, 3, 7, 49, 50, 78, 79, 80] [qI 74 (.fieldAddr 2 (.t 1)), qI 75 (.load false 1 (.t 74)), qI 76 (.mv (.t 7)), qI 77 (.indexAddr 1 (.t 75) (.t 76)), qI 78 (.load false 1 (.t 77)), qI 79 (.len (.t 78)), qI 80 (.mv (.c (.int .i64 0)))])
  (.block 4 (.loop [1, 3, 7, 49, 50, 78, 79, 80] (.seq (.region [1, 3, 7, 49, 50, 78, 79, 80, 81] [qI 81 (.bin .lss .other (.t 80) (.t 79))])
  (.seq (.cond (.t 81) .skip (.exit 4))
  (.seq (.block 5 (.seq (.region [1, 3, 7, 9, 49, 50, 78, 79, 80] [qI 82 (.indexAddr 1 (.t 78) (.t 80)), qI 83 (.load false 1 (.t 82)), qI 9 (.mv (.t 83))])
  (.seq (.region [1, 3, 7, 49, 50, 78, 79, 80, 87] [qI 84 (.mv (.t 7)), qI 85 (.mv (.t 9)), eI 86 (.call 135 [(.t 1), (.t 84), (.t 85)]), qI 87 (.un .not (.t 86))])
  (.cond (.t 87) (.seq (.region [2] [qI 2 (.mv (.c (.bool false)))])
  .ret) .skip))))
  (.region [1, 3, 7, 49, 50, 78, 79, 80] [qI 88 (.bin .add .other (.t 80) (.c (.int .i64 1))), qI 80 (.mv (.t 88))]))))))))))
  (.region [1, 3, 49, 50] [qI 89 (.bin .add .other (.t 50) (.c (.int .i64 1))), qI 50 (.mv (.t 89))])))))))
  (.seq (.region [2] [qI 2 (.mv (.c (.bool true)))])
  .ret)))))))⟩
theorem cf125 : cF Try.prog Try.f125 = some if125 := by kernel_rfl
/-- loop.example/g01076/impl.tailVector -/
def if135 : IFn := ⟨[0, 1, 2], [(.tmp 6)], (.seq (.region [0, 1, 2] [qI 6 (.mv (.c (.bool false)))])
  (.seq (.region [6] [qI 7 (.mv (.t 0)), qI 8 (.mv (.t 2)), eI 9 (.call 67 [(.t 7), (.t 8)]), qI 10 (.mv (.t 9)), ⟨(some 11), .mv (.t 2), true, (some (10, true))⟩, ⟨(some 12), .mv (.t 1), true, (some (10, true))⟩, ⟨(some 13), .bin .add .other (.t 12) (.c (.int .i64 1)), true, (some (10, true))⟩, ⟨(some 14), .slice 1 (.t 11) none (some (.t 13)) none, true, (some (10, true))⟩, ⟨(some 15), .call 86 [(.t 14)], false, (some (10, true))⟩, qI 16 (.pick (.t 10) (.t 15) (.c (.bool false))), qI 6 (.mv (.t 16))])
  .ret))⟩
theorem cf135 : cF Try.prog Try.f135 = some if135 := by kernel_rfl
end Go.Proofs
set_option linter.unusedSimpArgs false
set_option linter.unusedVariables false
namespace Go.Proofs
open Go.Ab
variable {σ : PHeap} {K : PV → PHeap → Prop}
theorem inside_ok {n lo hi : Int} (hk : K (.bool (decide (lo ≤ n ∧ n ≤ hi))) σ) : PCalls Try.prog 105 [.int .i64 n, .int .i64 lo, .int .i64 hi] σ K := by
  refine pcalls_of_vp mix Try.func105 cf105 rfl ?_
  dsimp only [if105, qI, eI, nI, qD, eD]
  by_cases h1 : lo ≤ n
  · simp only [pwA, if_true, if_false, eq_self, nm_eq, reduceCtorEq, ↓reduceIte, Nat.reduceEqDiff, Nat.reduceLeDiff, Nat.reduceBEq, Nat.reduceAdd, Nat.reduceLT, Nat.reduceSub, Nat.reduceMul, Int.reduceEq, Int.reduceLT, Int.reduceLE, Int.reduceNeg, Int.reduceToNat, List.reduceReplicate, Int.ofNat_le, List.getElem?_drop, h1]; exact pke hk ⟨fun x => x.2, fun x => ⟨h1, x⟩⟩
  · simp only [pwA, if_true, if_false, eq_self, nm_eq, reduceCtorEq, ↓reduceIte, Nat.reduceEqDiff, Nat.reduceLeDiff, Nat.reduceBEq, Nat.reduceAdd, Nat.reduceLT, Nat.reduceSub, Nat.reduceMul, Int.reduceEq, Int.reduceLT, Int.reduceLE, Int.reduceNeg, Int.reduceToNat, List.reduceReplicate, Int.ofNat_le, List.getElem?_drop, h1]; exact pkf hk (by omega)
theorem l01In_ok {n lo hi : Int} (hk : K (.bool (decide (lo ≤ n ∧ n ≤ hi))) σ) : PCalls Try.prog 93 [.int .i64 n, .int .i64 lo, .int .i64 hi] σ K := by
  refine pcalls_of_vp mix Try.func93 cf93 rfl ?_
  dsimp only [if93, qI, eI, nI, qD, eD]
  by_cases h1 : lo ≤ n
  · simp only [pwA, if_true, if_false, eq_self, nm_eq, reduceCtorEq, ↓reduceIte, Nat.reduceEqDiff, Nat.reduceLeDiff, Nat.reduceBEq, Nat.reduceAdd, Nat.reduceLT, Nat.reduceSub, Nat.reduceMul, Int.reduceEq, Int.reduceLT, Int.reduceLE, Int.reduceNeg, Int.reduceToNat, List.reduceReplicate, Int.ofNat_le, List.getElem?_drop, h1]; exact pke hk ⟨fun x => x.2, fun x => ⟨h1, x⟩⟩
  · simp only [pwA, if_true, if_false, eq_self, nm_eq, reduceCtorEq, ↓reduceIte, Nat.reduceEqDiff, Nat.reduceLeDiff, Nat.reduceBEq, Nat.reduceAdd, Nat.reduceLT, Nat.reduceSub, Nat.reduceMul, Int.reduceEq, Int.reduceLT, Int.reduceLE, Int.reduceNeg, Int.reduceToNat, List.reduceReplicate, Int.ofNat_le, List.getElem?_drop, h1]; exact pkf hk (by omega)
/-- A vector over p of n entries. -/
def isVec (xs : List Int) (p n : Int) : Prop := (xs.length : Int) = n ∧ ∀ x ∈ xs, 0 ≤ x ∧ x ≤ p - 1
instance (xs : List Int) (p n : Int) : Decidable (isVec xs p n) := by unfold isVec; infer_instance
/-- All entries are 0. -/
def isZ (xs : List Int) : Prop := ∀ x ∈ xs, x = 0
instance (xs : List Int) : Decidable (isZ xs) := by unfold isZ; infer_instance
theorem isZero_ok {w : Bool} {a : AV} {xs : List Int} {l : Nat} (hl : l = xs.length) (hb : xs.length ≤ 4611686018427387904) (hk : K (.bool (decide (isZ xs))) σ) : PCalls Try.prog 86 [.fz w a l (pis xs)] σ K := by
  subst hl
  refine pcalls_of_vp mix Try.func86 cf86 rfl ?_
  dsimp only [if86, qI, eI, nI, qD, eD]
  simp only [pwA, if_true, if_false, eq_self, nm_eq, reduceCtorEq, ↓reduceIte, Nat.reduceEqDiff, Nat.reduceLeDiff, Nat.reduceBEq, Nat.reduceAdd, Nat.reduceLT, Nat.reduceSub, Nat.reduceMul, Int.reduceEq, Int.reduceLT, Int.reduceLE, Int.reduceNeg, Int.reduceToNat, List.reduceReplicate, Int.ofNat_le, List.getElem?_drop]
  refine vp_loop (fun m vs h' => ∃ i : Nat, i ≤ xs.length ∧ m = xs.length - i ∧ vs = [.fz w a xs.length (pis xs), .int .i64 xs.length, .int .i64 i] ∧ h' = σ ∧ ∀ x ∈ xs.take i, x = 0) xs.length ?_ ?_
  · exact ⟨0, by omega, by omega, rfl, rfl, by simp⟩
  · rintro m vs h' ⟨i, hi, rfl, rfl, rfl, hall⟩
    simp only [pwA, if_true, if_false, eq_self, nm_eq, reduceCtorEq, ↓reduceIte, Nat.reduceEqDiff, Nat.reduceLeDiff, Nat.reduceBEq, Nat.reduceAdd, Nat.reduceLT, Nat.reduceSub, Nat.reduceMul, Int.reduceEq, Int.reduceLT, Int.reduceLE, Int.reduceNeg, Int.reduceToNat, List.reduceReplicate, Int.ofNat_le, List.getElem?_drop]
    split
    · rename_i hlt
      simp only [pwA, if_true, if_false, eq_self, nm_eq, reduceCtorEq, ↓reduceIte, Nat.reduceEqDiff, Nat.reduceLeDiff, Nat.reduceBEq, Nat.reduceAdd, Nat.reduceLT, Nat.reduceSub, Nat.reduceMul, Int.reduceEq, Int.reduceLT, Int.reduceLE, Int.reduceNeg, Int.reduceToNat, List.reduceReplicate, Int.ofNat_le, List.getElem?_drop, hlt, List.getElem?_drop, pis_get, gi hlt]
      split
      · rename_i h0
        simp only [pwA, if_true, if_false, eq_self, nm_eq, reduceCtorEq, ↓reduceIte, Nat.reduceEqDiff, Nat.reduceLeDiff, Nat.reduceBEq, Nat.reduceAdd, Nat.reduceLT, Nat.reduceSub, Nat.reduceMul, Int.reduceEq, Int.reduceLT, Int.reduceLE, Int.reduceNeg, Int.reduceToNat, List.reduceReplicate, Int.ofNat_le, List.getElem?_drop, wrapS hlt hb]
        exact ⟨_, by omega, i + 1, by omega, rfl, rfl, forall_snoc hlt hall h0⟩
      · rename_i hn
        exact pkf hk fun hv => hn (hv _ (List.getElem_mem hlt))
    · refine pkt hk (forall_all (by omega) hall)
theorem eqList {xs ys : List Int} (hl : xs.length = ys.length) {i : Nat} (hi : i < xs.length) (h : xs.take i = ys.take i) (he : xs[i] = ys[i]'(by omega)) : xs.take (i + 1) = ys.take (i + 1) := by
  rw [List.take_succ_eq_append_getElem hi, List.take_succ_eq_append_getElem (by omega : i < ys.length), h, he]
def isP (n : Int) : Prop := n = 2 ∨ n = 3 ∨ n = 5 ∨ n = 7
instance (n : Int) : Decidable (isP n) := by unfold isP; infer_instance
theorem isP.bd {n : Int} (hp : isP n) : 2 ≤ n ∧ n ≤ 7 := by unfold isP at hp; omega
theorem l01Prime_ok {n : Int} (hk : K (.bool (decide (isP n))) σ) : PCalls Try.prog 98 [.int .i64 n] σ K := by
  refine pcalls_of_vp mix Try.func98 cf98 rfl ?_
  dsimp only [if98, qI, eI, nI, qD, eD]
  by_cases h2 : n = 2
  · simp only [pwA, if_true, if_false, eq_self, nm_eq, reduceCtorEq, ↓reduceIte, Nat.reduceEqDiff, Nat.reduceLeDiff, Nat.reduceBEq, Nat.reduceAdd, Nat.reduceLT, Nat.reduceSub, Nat.reduceMul, Int.reduceEq, Int.reduceLT, Int.reduceLE, Int.reduceNeg, Int.reduceToNat, List.reduceReplicate, Int.ofNat_le, List.getElem?_drop, h2]; exact pkt hk (by unfold isP; omega)
  by_cases h3 : n = 3
  · simp only [pwA, if_true, if_false, eq_self, nm_eq, reduceCtorEq, ↓reduceIte, Nat.reduceEqDiff, Nat.reduceLeDiff, Nat.reduceBEq, Nat.reduceAdd, Nat.reduceLT, Nat.reduceSub, Nat.reduceMul, Int.reduceEq, Int.reduceLT, Int.reduceLE, Int.reduceNeg, Int.reduceToNat, List.reduceReplicate, Int.ofNat_le, List.getElem?_drop, h3]; exact pkt hk (by unfold isP; omega)
  by_cases h5 : n = 5
  · simp only [pwA, if_true, if_false, eq_self, nm_eq, reduceCtorEq, ↓reduceIte, Nat.reduceEqDiff, Nat.reduceLeDiff, Nat.reduceBEq, Nat.reduceAdd, Nat.reduceLT, Nat.reduceSub, Nat.reduceMul, Int.reduceEq, Int.reduceLT, Int.reduceLE, Int.reduceNeg, Int.reduceToNat, List.reduceReplicate, Int.ofNat_le, List.getElem?_drop, h5]; exact pkt hk (by unfold isP; omega)
  by_cases h7 : n = 7
  · simp only [pwA, if_true, if_false, eq_self, nm_eq, reduceCtorEq, ↓reduceIte, Nat.reduceEqDiff, Nat.reduceLeDiff, Nat.reduceBEq, Nat.reduceAdd, Nat.reduceLT, Nat.reduceSub, Nat.reduceMul, Int.reduceEq, Int.reduceLT, Int.reduceLE, Int.reduceNeg, Int.reduceToNat, List.reduceReplicate, Int.ofNat_le, List.getElem?_drop, h7]; exact pkt hk (by unfold isP; omega)
  simp only [pwA, if_true, if_false, eq_self, nm_eq, reduceCtorEq, ↓reduceIte, Nat.reduceEqDiff, Nat.reduceLeDiff, Nat.reduceBEq, Nat.reduceAdd, Nat.reduceLT, Nat.reduceSub, Nat.reduceMul, Int.reduceEq, Int.reduceLT, Int.reduceLE, Int.reduceNeg, Int.reduceToNat, List.reduceReplicate, Int.ofNat_le, List.getElem?_drop, h2, h3, h5, h7]
  exact pkf hk (by unfold isP; omega)
theorem IsGroupPrime_ok {n : Int} (hk : K (.bool (decide (isP n))) σ) : PCalls Try.prog 104 [.int .i64 n] σ K := by
  refine pcalls_of_vp mix Try.func104 cf104 rfl ?_
  dsimp only [if104, qI, eI, nI, qD, eD]
  by_cases h2 : n = 2
  · simp only [pwA, if_true, if_false, eq_self, nm_eq, reduceCtorEq, ↓reduceIte, Nat.reduceEqDiff, Nat.reduceLeDiff, Nat.reduceBEq, Nat.reduceAdd, Nat.reduceLT, Nat.reduceSub, Nat.reduceMul, Int.reduceEq, Int.reduceLT, Int.reduceLE, Int.reduceNeg, Int.reduceToNat, List.reduceReplicate, Int.ofNat_le, List.getElem?_drop, h2]; exact pkt hk (by unfold isP; omega)
  by_cases h3 : n = 3
  · simp only [pwA, if_true, if_false, eq_self, nm_eq, reduceCtorEq, ↓reduceIte, Nat.reduceEqDiff, Nat.reduceLeDiff, Nat.reduceBEq, Nat.reduceAdd, Nat.reduceLT, Nat.reduceSub, Nat.reduceMul, Int.reduceEq, Int.reduceLT, Int.reduceLE, Int.reduceNeg, Int.reduceToNat, List.reduceReplicate, Int.ofNat_le, List.getElem?_drop, h3]; exact pkt hk (by unfold isP; omega)
  by_cases h5 : n = 5
  · simp only [pwA, if_true, if_false, eq_self, nm_eq, reduceCtorEq, ↓reduceIte, Nat.reduceEqDiff, Nat.reduceLeDiff, Nat.reduceBEq, Nat.reduceAdd, Nat.reduceLT, Nat.reduceSub, Nat.reduceMul, Int.reduceEq, Int.reduceLT, Int.reduceLE, Int.reduceNeg, Int.reduceToNat, List.reduceReplicate, Int.ofNat_le, List.getElem?_drop, h5]; exact pkt hk (by unfold isP; omega)
  by_cases h7 : n = 7
  · simp only [pwA, if_true, if_false, eq_self, nm_eq, reduceCtorEq, ↓reduceIte, Nat.reduceEqDiff, Nat.reduceLeDiff, Nat.reduceBEq, Nat.reduceAdd, Nat.reduceLT, Nat.reduceSub, Nat.reduceMul, Int.reduceEq, Int.reduceLT, Int.reduceLE, Int.reduceNeg, Int.reduceToNat, List.reduceReplicate, Int.ofNat_le, List.getElem?_drop, h7]; exact pkt hk (by unfold isP; omega)
  simp only [pwA, if_true, if_false, eq_self, nm_eq, reduceCtorEq, ↓reduceIte, Nat.reduceEqDiff, Nat.reduceLeDiff, Nat.reduceBEq, Nat.reduceAdd, Nat.reduceLT, Nat.reduceSub, Nat.reduceMul, Int.reduceEq, Int.reduceLT, Int.reduceLE, Int.reduceNeg, Int.reduceToNat, List.reduceReplicate, Int.ofNat_le, List.getElem?_drop, h2, h3, h5, h7]
  exact pkf hk (by unfold isP; omega)
end Go.Proofs
set_option linter.unusedVariables false
set_option linter.unusedSimpArgs false
namespace Go.Lie
open Go.Ab
/-- The entry at a place, 0 beyond the end. -/
abbrev at_ (v : List Int) (j : Nat) : Int := v.getD j 0
theorem at_eq {v : List Int} {j : Nat} (h : j < v.length) : at_ v j = v[j] := by simp [at_, List.getD_eq_getElem?_getD, List.getElem?_eq_getElem h]
/-- Sum of two lists, the second times q. -/
def addm (q : Int) (xs ys : List Int) : List Int := List.zipWith (fun x y => x + q * y) xs ys
/-- Entries from 0 to p - 1. -/
def box (p : Int) (v : List Int) : Prop := ∀ x ∈ v, 0 ≤ x ∧ x ≤ p - 1
variable {p : Int} {n : Nat} {W : List (List Int)}
/-- One step of the normal form. -/
def nstep (p : Int) (W : List (List Int)) (i : Nat) (v : List Int) : List Int := addm (at_ v i / p) (v.set i (at_ v i - at_ v i / p * p)) (W.getD i [])
/-- The first k steps. -/
def nrm (p : Int) (W : List (List Int)) : Nat → List Int → List Int
  | 0, v => v
  | k + 1, v => nstep p W k (nrm p W k v)
/-- The normal form. -/
def norm (p : Int) (W : List (List Int)) (v : List Int) : List Int := nrm p W W.length v
theorem getD_row {i : Nat} (h : i < W.length) : W.getD i [] = W[i] := by simp [List.getD_eq_getElem?_getD, List.getElem?_eq_getElem h]
end Go.Lie
set_option linter.unusedSimpArgs false
set_option linter.unusedVariables false
namespace Go.Proofs
open Go.Ab Go.Lie
variable {σ : PHeap} {K : PV → PHeap → Prop} {p : Int} {n : Nat} {W : List (List Int)} {B : List (List (List Int))} {vP vB : PV} {s : Nat}
theorem getD_row' {α : Type} {B : List (List α)} {i : Nat} (h : i < B.length) : B.getD i [] = B[i] := by simp [List.getD_eq_getElem?_getD, List.getElem?_eq_getElem h]
end Go.Proofs
set_option linter.unusedSimpArgs false
set_option linter.unusedVariables false
namespace Go.Proofs
open Go.Ab Go.Lie
variable {σ : PHeap} {K : PV → PHeap → Prop} {p : Int} {n : Nat} {W : List (List Int)} {B : List (List (List Int))} {vP vB vL : PV} {s : Nat}
/-- Sizes of a list. -/
structure SzL (xs : List (List Int)) : Prop where
  l : xs.length ≤ 1048576
  r : ∀ x ∈ xs, x.length ≤ 1048576
/-- The first i images, each times its coefficient, added. -/
def csum (im : List (List Int)) (c : List Int) (n : Nat) : Nat → List Int
  | 0 => List.replicate n 0
  | i + 1 => addm (at_ c i) (csum im c n i) (im.getD i [])
end Go.Proofs
set_option linter.unusedSimpArgs false
set_option linter.unusedVariables false
namespace Go.Proofs
open Go.Ab Go.Lie
variable {σ : PHeap} {K : PV → PHeap → Prop} {p p' : Int} {n : Nat} {W W' : List (List Int)} {B B' : List (List (List Int))} {vP vB vP' vB' vL : PV} {s s' : Nat} {im : List (List Int)}
/-- The image of a combination. -/
abbrev img (p : Int) (W' : List (List Int)) (im : List (List Int)) (c : List Int) : List Int := norm p W' (csum im c W'.length c.length)
end Go.Proofs
set_option linter.unusedSimpArgs false
set_option linter.unusedVariables false
namespace Go.Proofs
open Go.Ab Go.Lie
variable {σ : PHeap} {K : PV → PHeap → Prop} {p p' : Int} {n : Nat} {W W' : List (List Int)} {B B' : List (List (List Int))} {vP vB vP' vB' vL vL' : PV}
/-- The rest of what a law allows. -/
def left_ (l : Int) : Prop := 0 ≤ l ∧ l ≤ 1048576
theorem szInt64S_ok {l : Int} {xs : List Int} {v : PV} (hI : FI v xs) (hb : xs.length ≤ 9223372036854775807) (hl : left_ l) (hk : ∀ r : Int, (r = -1 ∨ (left_ r ∧ xs.length ≤ 1048576)) → K (.int .i64 r) σ) : PCalls Try.prog 56 [v, .int .i64 l] σ K := by
  obtain ⟨w, a, rfl⟩ := hI
  unfold left_ at hl
  refine pcalls_of_vp mix Try.func56 cf56 rfl ?_
  dsimp only [if56, qI, eI, nI, qD, eD]
  simp only [pwA, if_true, if_false, eq_self, nm_eq, reduceCtorEq, ↓reduceIte, Nat.reduceEqDiff, Nat.reduceLeDiff, Nat.reduceBEq, Nat.reduceAdd, Nat.reduceLT, Nat.reduceSub, Nat.reduceMul, Int.reduceEq, Int.reduceLT, Int.reduceLE, Int.reduceNeg, Int.reduceToNat, List.reduceReplicate, Int.ofNat_le, List.getElem?_drop, wrap64 (n := l - (xs.length : Int)) (by omega) (by omega)]
  refine iteI (fun h => ?_) fun h => ?_
  · exact hk _ (.inl rfl)
  · exact hk _ (.inr ⟨by unfold left_; omega, by omega⟩)
theorem szInt64SS_ok {l : Int} {xs : List (List Int)} {v : PV} (hI : FII v xs) (hb : xs.length ≤ 9223372036854775807) (hb2 : ∀ x ∈ xs, x.length ≤ 9223372036854775807) (hl : left_ l) (hk : ∀ r : Int, (r = -1 ∨ (left_ r ∧ SzL xs)) → K (.int .i64 r) σ) : PCalls Try.prog 45 [v, .int .i64 l] σ K := by
  obtain ⟨w, a, rs, rfl, hr⟩ := hI
  have hl' := hl
  unfold left_ at hl
  refine pcalls_of_vp mix Try.func45 cf45 rfl ?_
  dsimp only [if45, qI, eI, nI, qD, eD]
  simp only [pwA, if_true, if_false, eq_self, nm_eq, reduceCtorEq, ↓reduceIte, Nat.reduceEqDiff, Nat.reduceLeDiff, Nat.reduceBEq, Nat.reduceAdd, Nat.reduceLT, Nat.reduceSub, Nat.reduceMul, Int.reduceEq, Int.reduceLT, Int.reduceLE, Int.reduceNeg, Int.reduceToNat, List.reduceReplicate, Int.ofNat_le, List.getElem?_drop, wrap64 (n := l - (xs.length : Int)) (by omega) (by omega)]
  refine iteI (fun h => ?_) fun h => ?_
  · exact hk _ (.inl rfl)
  refine vp_loop (fun m vs h' => ∃ i : Nat, i ≤ xs.length ∧ m = xs.length - i ∧ ∃ r : Int, left_ r ∧ vs = [.fz w a xs.length rs, .int .i64 r, .int .i64 i] ∧ σ = h' ∧ ∀ x ∈ xs.take i, x.length ≤ 1048576) xs.length ?_ ?_
  · exact ⟨0, by omega, by omega, _, (by unfold left_; omega), rfl, rfl, by simp⟩
  rintro m vs h' ⟨i, hi, rfl, r, hr', rfl, rfl, hall⟩
  simp only [pwA, if_true, if_false, eq_self, nm_eq, reduceCtorEq, ↓reduceIte, Nat.reduceEqDiff, Nat.reduceLeDiff, Nat.reduceBEq, Nat.reduceAdd, Nat.reduceLT, Nat.reduceSub, Nat.reduceMul, Int.reduceEq, Int.reduceLT, Int.reduceLE, Int.reduceNeg, Int.reduceToNat, List.reduceReplicate, Int.ofNat_le, List.getElem?_drop]
  refine iteI (fun hlt => ?_) fun hge => ?_
  rotate_left
  · exact hk _ (.inr ⟨hr', by omega, forall_all (by omega) hall⟩)
  obtain ⟨w4, a4, hrk⟩ := hr.rowI hlt
  simp only [pwA, if_true, if_false, eq_self, nm_eq, reduceCtorEq, ↓reduceIte, Nat.reduceEqDiff, Nat.reduceLeDiff, Nat.reduceBEq, Nat.reduceAdd, Nat.reduceLT, Nat.reduceSub, Nat.reduceMul, Int.reduceEq, Int.reduceLT, Int.reduceLE, Int.reduceNeg, Int.reduceToNat, List.reduceReplicate, Int.ofNat_le, List.getElem?_drop, hlt, hrk, List.getElem?_drop]
  refine szInt64S_ok ⟨_, _, rfl⟩ (hb2 _ (List.getElem_mem hlt)) hr' fun r' h => ?_
  rcases h with rfl | ⟨h1, h2⟩
  · simp only [pwA, if_true, if_false, eq_self, nm_eq, reduceCtorEq, ↓reduceIte, Nat.reduceEqDiff, Nat.reduceLeDiff, Nat.reduceBEq, Nat.reduceAdd, Nat.reduceLT, Nat.reduceSub, Nat.reduceMul, Int.reduceEq, Int.reduceLT, Int.reduceLE, Int.reduceNeg, Int.reduceToNat, List.reduceReplicate, Int.ofNat_le, List.getElem?_drop]
    exact hk _ (.inl rfl)
  · have : ¬ r' < 0 := by unfold left_ at h1; omega
    simp only [pwA, if_true, if_false, eq_self, nm_eq, reduceCtorEq, ↓reduceIte, Nat.reduceEqDiff, Nat.reduceLeDiff, Nat.reduceBEq, Nat.reduceAdd, Nat.reduceLT, Nat.reduceSub, Nat.reduceMul, Int.reduceEq, Int.reduceLT, Int.reduceLE, Int.reduceNeg, Int.reduceToNat, List.reduceReplicate, Int.ofNat_le, List.getElem?_drop, this, wrapS hlt (by omega : xs.length ≤ 4611686018427387904)]
    exact ⟨_, by omega, i + 1, by omega, rfl, _, h1, rfl, forallA_snoc hlt hall h2⟩
/-- Sizes of a list of lists of lists. -/
structure SzM (B : List (List (List Int))) : Prop where
  l : B.length ≤ 1048576
  r : ∀ q ∈ B, SzL q
theorem szInt64SSS_ok {l : Int} {xs : List (List (List Int))} {v : PV} (hI : FIII v xs) (hb : xs.length ≤ 9223372036854775807) (hb2 : ∀ q ∈ xs, q.length ≤ 9223372036854775807 ∧ ∀ x ∈ q, x.length ≤ 9223372036854775807) (hl : left_ l) (hk : ∀ r : Int, (r = -1 ∨ (left_ r ∧ SzM xs)) → K (.int .i64 r) σ) : PCalls Try.prog 57 [v, .int .i64 l] σ K := by
  obtain ⟨w, a, rs, rfl, hr⟩ := hI
  have hl' := hl
  unfold left_ at hl
  refine pcalls_of_vp mix Try.func57 cf57 rfl ?_
  dsimp only [if57, qI, eI, nI, qD, eD]
  simp only [pwA, if_true, if_false, eq_self, nm_eq, reduceCtorEq, ↓reduceIte, Nat.reduceEqDiff, Nat.reduceLeDiff, Nat.reduceBEq, Nat.reduceAdd, Nat.reduceLT, Nat.reduceSub, Nat.reduceMul, Int.reduceEq, Int.reduceLT, Int.reduceLE, Int.reduceNeg, Int.reduceToNat, List.reduceReplicate, Int.ofNat_le, List.getElem?_drop, wrap64 (n := l - (xs.length : Int)) (by omega) (by omega)]
  refine iteI (fun h => ?_) fun h => ?_
  · exact hk _ (.inl rfl)
  refine vp_loop (fun m vs h' => ∃ i : Nat, i ≤ xs.length ∧ m = xs.length - i ∧ ∃ r : Int, left_ r ∧ vs = [.fz w a xs.length rs, .int .i64 r, .int .i64 i] ∧ σ = h' ∧ ∀ x ∈ xs.take i, SzL x) xs.length ?_ ?_
  · exact ⟨0, by omega, by omega, _, (by unfold left_; omega), rfl, rfl, by simp⟩
  rintro m vs h' ⟨i, hi, rfl, r, hr', rfl, rfl, hall⟩
  simp only [pwA, if_true, if_false, eq_self, nm_eq, reduceCtorEq, ↓reduceIte, Nat.reduceEqDiff, Nat.reduceLeDiff, Nat.reduceBEq, Nat.reduceAdd, Nat.reduceLT, Nat.reduceSub, Nat.reduceMul, Int.reduceEq, Int.reduceLT, Int.reduceLE, Int.reduceNeg, Int.reduceToNat, List.reduceReplicate, Int.ofNat_le, List.getElem?_drop]
  refine iteI (fun hlt => ?_) fun hge => ?_
  rotate_left
  · exact hk _ (.inr ⟨hr', by omega, forall_all (by omega) hall⟩)
  obtain ⟨w4, a4, rk, hrk, hrs⟩ := hr.rowL hlt
  have hbi := hb2 _ (List.getElem_mem hlt)
  simp only [pwA, if_true, if_false, eq_self, nm_eq, reduceCtorEq, ↓reduceIte, Nat.reduceEqDiff, Nat.reduceLeDiff, Nat.reduceBEq, Nat.reduceAdd, Nat.reduceLT, Nat.reduceSub, Nat.reduceMul, Int.reduceEq, Int.reduceLT, Int.reduceLE, Int.reduceNeg, Int.reduceToNat, List.reduceReplicate, Int.ofNat_le, List.getElem?_drop, hlt, hrk, List.getElem?_drop]
  refine szInt64SS_ok ⟨_, _, _, rfl, hrs⟩ hbi.1 hbi.2 hr' fun r' h => ?_
  rcases h with rfl | ⟨h1, h2⟩
  · simp only [pwA, if_true, if_false, eq_self, nm_eq, reduceCtorEq, ↓reduceIte, Nat.reduceEqDiff, Nat.reduceLeDiff, Nat.reduceBEq, Nat.reduceAdd, Nat.reduceLT, Nat.reduceSub, Nat.reduceMul, Int.reduceEq, Int.reduceLT, Int.reduceLE, Int.reduceNeg, Int.reduceToNat, List.reduceReplicate, Int.ofNat_le, List.getElem?_drop]
    exact hk _ (.inl rfl)
  · have : ¬ r' < 0 := by unfold left_ at h1; omega
    simp only [pwA, if_true, if_false, eq_self, nm_eq, reduceCtorEq, ↓reduceIte, Nat.reduceEqDiff, Nat.reduceLeDiff, Nat.reduceBEq, Nat.reduceAdd, Nat.reduceLT, Nat.reduceSub, Nat.reduceMul, Int.reduceEq, Int.reduceLT, Int.reduceLE, Int.reduceNeg, Int.reduceToNat, List.reduceReplicate, Int.ofNat_le, List.getElem?_drop, this, wrapS hlt (by omega : xs.length ≤ 4611686018427387904)]
    exact ⟨_, by omega, i + 1, by omega, rfl, _, h1, rfl, forallA_snoc hlt hall h2⟩
theorem toInt64S_ok {v : PV} {xs : List Int} (hI : FI v xs) (hb : xs.length ≤ 1048576) (hk : ∀ cap, full 1 cap xs.length → K (.sl σ.next 0 xs.length cap) (σ.new (pis xs))) : PCalls Try.prog 21 [v] σ K := by
  obtain ⟨w, a, rfl⟩ := hI
  refine pcalls_of_vp mix Try.func21 cf21 rfl ?_
  dsimp only [if21, qI, eI, nI, qD, eD]
  simp only [pwA, if_true, if_false, eq_self, nm_eq, reduceCtorEq, ↓reduceIte, Nat.reduceEqDiff, Nat.reduceLeDiff, Nat.reduceBEq, Nat.reduceAdd, Nat.reduceLT, Nat.reduceSub, Nat.reduceMul, Int.reduceEq, Int.reduceLT, Int.reduceLE, Int.reduceNeg, Int.reduceToNat, List.reduceReplicate, Int.ofNat_le, List.getElem?_drop, pis_rep, mk8 (n := xs.length) (by omega), mkL (n := xs.length) (by omega)]
  refine vp_loop (fun m vs h' => ∃ i : Nat, i ≤ xs.length ∧ m = xs.length - i ∧ vs = [.fz w a xs.length (pis xs), .sl σ.next 0 xs.length (.known xs.length), .int .i64 i] ∧ h' = σ.new (pis (xs.take i ++ List.replicate (xs.length - i) 0))) xs.length ?_ ?_
  · exact ⟨0, by omega, by omega, rfl, by rw [List.take_zero, List.nil_append, Nat.sub_zero]⟩
  rintro m vs h' ⟨i, hi, rfl, rfl, rfl⟩
  simp only [pwA, if_true, if_false, eq_self, nm_eq, reduceCtorEq, ↓reduceIte, Nat.reduceEqDiff, Nat.reduceLeDiff, Nat.reduceBEq, Nat.reduceAdd, Nat.reduceLT, Nat.reduceSub, Nat.reduceMul, Int.reduceEq, Int.reduceLT, Int.reduceLE, Int.reduceNeg, Int.reduceToNat, List.reduceReplicate, Int.ofNat_le, List.getElem?_drop]
  refine iteI (fun hlt => ?_) fun hge => ?_
  · have hlen : i + 1 ≤ (xs.take i ++ List.replicate (xs.length - i) 0).length := by simp; omega
    simp only [pwA, if_true, if_false, eq_self, nm_eq, reduceCtorEq, ↓reduceIte, Nat.reduceEqDiff, Nat.reduceLeDiff, Nat.reduceBEq, Nat.reduceAdd, Nat.reduceLT, Nat.reduceSub, Nat.reduceMul, Int.reduceEq, Int.reduceLT, Int.reduceLE, Int.reduceNeg, Int.reduceToNat, List.reduceReplicate, Int.ofNat_le, List.getElem?_drop, hlt, gi hlt, pis_get, pis_length, List.getElem?_drop, hlen, wrapS hlt (by omega : xs.length ≤ 4611686018427387904)]
    refine ⟨_, by omega, i + 1, by omega, rfl, rfl, ?_⟩
    rw [pis_set_at (by omega), take_set_rep xs 0 hlt]
  · have hie : i = xs.length := by omega
    subst hie
    rw [List.take_length, Nat.sub_self, List.replicate_zero, List.append_nil]
    exact hk _ (.inr rfl)
theorem toInt64S_fz {v : PV} {xs : List Int} (hI : FI v xs) (hb : xs.length ≤ 1048576) (hk : ∀ v, FI v xs → K v σ) : PCalls Try.prog 21 [v] σ K :=
  PCalls.fz (fun K' => toInt64S_ok hI hb) (pis_bel _ _) fun o cap => hk _ ⟨_, _, rfl⟩
/-- A list of values, one written behind those that are there. -/
theorem rows_set {rows : List PV} {z r : PV} {n i : Nat} (hl : rows.length = i) (hi : i < n) : (rows ++ List.replicate (n - i) z).take i ++ [r] ++ (rows ++ List.replicate (n - i) z).drop (i + 1) = (rows ++ [r]) ++ List.replicate (n - (i + 1)) z := by
  rw [List.take_append_of_le_length (by omega), List.take_of_length_le (by omega), List.drop_append, List.drop_eq_nil_of_le (by omega), List.nil_append, hl]
  congr 1
  obtain ⟨k, hk⟩ : ∃ k, n - i = k + 1 := ⟨n - i - 1, by omega⟩
  rw [hk, show i + 1 - i = 1 by omega, List.replicate_succ, List.drop_succ_cons, List.drop_zero]
  congr 1; omega
theorem toInt64SS_fz {v : PV} {xs : List (List Int)} (hI : FII v xs) (sz : SzL xs) (hk : ∀ v, FII v xs → K v σ) : PCalls Try.prog 47 [v] σ K := by
  obtain ⟨w, a, rs, rfl, hr⟩ := hI
  have hb := sz.l
  refine PCalls.gh ?_
  refine pcalls_of_vp mix Try.func47 cf47 rfl ?_
  dsimp only [if47, qI, eI, nI, qD, eD]
  simp only [pwA, if_true, if_false, eq_self, nm_eq, reduceCtorEq, ↓reduceIte, Nat.reduceEqDiff, Nat.reduceLeDiff, Nat.reduceBEq, Nat.reduceAdd, Nat.reduceLT, Nat.reduceSub, Nat.reduceMul, Int.reduceEq, Int.reduceLT, Int.reduceLE, Int.reduceNeg, Int.reduceToNat, List.reduceReplicate, Int.ofNat_le, List.getElem?_drop, mk24 (n := xs.length) (by omega), mkL (n := xs.length) (by omega)]
  refine vp_loop (fun m vs h' => ∃ i : Nat, i ≤ xs.length ∧ m = xs.length - i ∧ vs = [.fz w a xs.length rs, .sl σ.next 0 xs.length (.known xs.length), .int .i64 i] ∧ ∃ rows : List PV, rows.length = i ∧ All2 FI rows (xs.take i) ∧ h' = σ.new (rows ++ List.replicate (xs.length - i) (.fz true .nils 0 []))) xs.length ?_ ?_
  · exact ⟨0, by omega, by omega, rfl, [], rfl, by simpa using All2.nil _, by simp⟩
  rintro m vs h' ⟨i, hi, rfl, rfl, rows, hrl, hra, rfl⟩
  simp only [pwA, if_true, if_false, eq_self, nm_eq, reduceCtorEq, ↓reduceIte, Nat.reduceEqDiff, Nat.reduceLeDiff, Nat.reduceBEq, Nat.reduceAdd, Nat.reduceLT, Nat.reduceSub, Nat.reduceMul, Int.reduceEq, Int.reduceLT, Int.reduceLE, Int.reduceNeg, Int.reduceToNat, List.reduceReplicate, Int.ofNat_le, List.getElem?_drop]
  refine iteI (fun hlt => ?_) fun hge => ?_
  · obtain ⟨w4, a4, hrk⟩ := hr.rowI hlt
    simp only [pwA, if_true, if_false, eq_self, nm_eq, reduceCtorEq, ↓reduceIte, Nat.reduceEqDiff, Nat.reduceLeDiff, Nat.reduceBEq, Nat.reduceAdd, Nat.reduceLT, Nat.reduceSub, Nat.reduceMul, Int.reduceEq, Int.reduceLT, Int.reduceLE, Int.reduceNeg, Int.reduceToNat, List.reduceReplicate, Int.ofNat_le, List.getElem?_drop, hlt, hrk, List.getElem?_drop]
    refine toInt64S_fz ⟨_, _, rfl⟩ (sz.r _ (List.getElem_mem hlt)) fun r hr' => ?_
    have hlen : i + 1 ≤ (rows ++ List.replicate (xs.length - i) (PV.fz true .nils 0 [])).length := by simp; omega
    simp only [pwA, if_true, if_false, eq_self, nm_eq, reduceCtorEq, ↓reduceIte, Nat.reduceEqDiff, Nat.reduceLeDiff, Nat.reduceBEq, Nat.reduceAdd, Nat.reduceLT, Nat.reduceSub, Nat.reduceMul, Int.reduceEq, Int.reduceLT, Int.reduceLE, Int.reduceNeg, Int.reduceToNat, List.reduceReplicate, Int.ofNat_le, List.getElem?_drop, hlt, hlen, hr'.cells, hr'.one, wrapS hlt (by omega : xs.length ≤ 4611686018427387904)]
    refine ⟨_, by omega, i + 1, by omega, rfl, rfl, rows ++ [r], by simp [hrl], ?_, ?_⟩
    · rw [List.take_succ_eq_append_getElem hlt]; exact hra.snoc hr'
    · rw [rows_set hrl hlt]
  · have hie : i = xs.length := by omega
    subst hie
    rw [List.take_length] at hra
    rw [Nat.sub_self, List.replicate_zero, List.append_nil]
    exact Gh.finF (keep_new σ _) (by simp only [pwA, if_true, if_false, eq_self, nm_eq, reduceCtorEq, ↓reduceIte, Nat.reduceEqDiff, Nat.reduceLeDiff, Nat.reduceBEq, Nat.reduceAdd, Nat.reduceLT, Nat.reduceSub, Nat.reduceMul, Int.reduceEq, Int.reduceLT, Int.reduceLE, Int.reduceNeg, Int.reduceToNat, List.reduceReplicate, Int.ofNat_le, List.getElem?_drop]) (Nat.le_refl _) (hra.bI 0) (by simp [capOK]) fun o => hk _ ⟨_, _, _, rfl, hra⟩
theorem toInt64SSS_fz {v : PV} {xs : List (List (List Int))} (hI : FIII v xs) (sz : SzM xs) (hk : ∀ v, FIII v xs → K v σ) : PCalls Try.prog 60 [v] σ K := by
  obtain ⟨w, a, rs, rfl, hr⟩ := hI
  have hb := sz.l
  refine PCalls.gh ?_
  refine pcalls_of_vp mix Try.func60 cf60 rfl ?_
  dsimp only [if60, qI, eI, nI, qD, eD]
  simp only [pwA, if_true, if_false, eq_self, nm_eq, reduceCtorEq, ↓reduceIte, Nat.reduceEqDiff, Nat.reduceLeDiff, Nat.reduceBEq, Nat.reduceAdd, Nat.reduceLT, Nat.reduceSub, Nat.reduceMul, Int.reduceEq, Int.reduceLT, Int.reduceLE, Int.reduceNeg, Int.reduceToNat, List.reduceReplicate, Int.ofNat_le, List.getElem?_drop, mk24 (n := xs.length) (by omega), mkL (n := xs.length) (by omega)]
  refine vp_loop (fun m vs h' => ∃ i : Nat, i ≤ xs.length ∧ m = xs.length - i ∧ vs = [.fz w a xs.length rs, .sl σ.next 0 xs.length (.known xs.length), .int .i64 i] ∧ ∃ rows : List PV, rows.length = i ∧ All2 FII rows (xs.take i) ∧ h' = σ.new (rows ++ List.replicate (xs.length - i) (.fz true .nils 0 []))) xs.length ?_ ?_
  · exact ⟨0, by omega, by omega, rfl, [], rfl, by simpa using All2.nil _, by simp⟩
  rintro m vs h' ⟨i, hi, rfl, rfl, rows, hrl, hra, rfl⟩
  simp only [pwA, if_true, if_false, eq_self, nm_eq, reduceCtorEq, ↓reduceIte, Nat.reduceEqDiff, Nat.reduceLeDiff, Nat.reduceBEq, Nat.reduceAdd, Nat.reduceLT, Nat.reduceSub, Nat.reduceMul, Int.reduceEq, Int.reduceLT, Int.reduceLE, Int.reduceNeg, Int.reduceToNat, List.reduceReplicate, Int.ofNat_le, List.getElem?_drop]
  refine iteI (fun hlt => ?_) fun hge => ?_
  · obtain ⟨w4, a4, rk, hrk, hrs⟩ := hr.rowL hlt
    simp only [pwA, if_true, if_false, eq_self, nm_eq, reduceCtorEq, ↓reduceIte, Nat.reduceEqDiff, Nat.reduceLeDiff, Nat.reduceBEq, Nat.reduceAdd, Nat.reduceLT, Nat.reduceSub, Nat.reduceMul, Int.reduceEq, Int.reduceLT, Int.reduceLE, Int.reduceNeg, Int.reduceToNat, List.reduceReplicate, Int.ofNat_le, List.getElem?_drop, hlt, hrk, List.getElem?_drop]
    refine toInt64SS_fz ⟨_, _, _, rfl, hrs⟩ (sz.r _ (List.getElem_mem hlt)) fun r hr' => ?_
    have hlen : i + 1 ≤ (rows ++ List.replicate (xs.length - i) (PV.fz true .nils 0 [])).length := by simp; omega
    simp only [pwA, if_true, if_false, eq_self, nm_eq, reduceCtorEq, ↓reduceIte, Nat.reduceEqDiff, Nat.reduceLeDiff, Nat.reduceBEq, Nat.reduceAdd, Nat.reduceLT, Nat.reduceSub, Nat.reduceMul, Int.reduceEq, Int.reduceLT, Int.reduceLE, Int.reduceNeg, Int.reduceToNat, List.reduceReplicate, Int.ofNat_le, List.getElem?_drop, hlt, hlen, hr'.cells, hr'.one, wrapS hlt (by omega : xs.length ≤ 4611686018427387904)]
    refine ⟨_, by omega, i + 1, by omega, rfl, rfl, rows ++ [r], by simp [hrl], ?_, ?_⟩
    · rw [List.take_succ_eq_append_getElem hlt]; exact hra.snoc hr'
    · rw [rows_set hrl hlt]
  · have hie : i = xs.length := by omega
    subst hie
    rw [List.take_length] at hra
    rw [Nat.sub_self, List.replicate_zero, List.append_nil]
    exact Gh.finF (keep_new σ _) (by simp only [pwA, if_true, if_false, eq_self, nm_eq, reduceCtorEq, ↓reduceIte, Nat.reduceEqDiff, Nat.reduceLeDiff, Nat.reduceBEq, Nat.reduceAdd, Nat.reduceLT, Nat.reduceSub, Nat.reduceMul, Int.reduceEq, Int.reduceLT, Int.reduceLE, Int.reduceNeg, Int.reduceToNat, List.reduceReplicate, Int.ofNat_le, List.getElem?_drop]) (Nat.le_refl _) (hra.bL 0) (by simp [capOK]) fun o => hk _ ⟨_, _, _, rfl, hra⟩
theorem eqInt64S_ok {v v' : PV} {xs ys : List Int} (hI : FI v xs) (hI' : FI v' ys) (hb : xs.length ≤ 4611686018427387904) (hk : K (.bool (decide (xs = ys))) σ) : PCalls Try.prog 23 [v, v'] σ K := by
  obtain ⟨w, a, rfl⟩ := hI
  obtain ⟨w', a', rfl⟩ := hI'
  refine pcalls_of_vp mix Try.func23 cf23 rfl ?_
  dsimp only [if23, qI, eI, nI, qD, eD]
  simp only [pwA, if_true, if_false, eq_self, nm_eq, reduceCtorEq, ↓reduceIte, Nat.reduceEqDiff, Nat.reduceLeDiff, Nat.reduceBEq, Nat.reduceAdd, Nat.reduceLT, Nat.reduceSub, Nat.reduceMul, Int.reduceEq, Int.reduceLT, Int.reduceLE, Int.reduceNeg, Int.reduceToNat, List.reduceReplicate, Int.ofNat_le, List.getElem?_drop]
  refine iteI (fun hl => ?_) fun hl => ?_
  rotate_left
  · exact pkf hk fun hv => hl (by rw [hv])
  have hl : xs.length = ys.length := by omega
  refine vp_loop (fun m vs h' => ∃ i : Nat, i ≤ xs.length ∧ m = xs.length - i ∧ vs = [.fz w a xs.length (pis xs), .fz w' a' ys.length (pis ys), .int .i64 i] ∧ σ = h' ∧ xs.take i = ys.take i) xs.length ?_ ?_
  · exact ⟨0, by omega, by omega, rfl, rfl, by simp⟩
  rintro m vs h' ⟨i, hi, rfl, rfl, rfl, hall⟩
  simp only [pwA, if_true, if_false, eq_self, nm_eq, reduceCtorEq, ↓reduceIte, Nat.reduceEqDiff, Nat.reduceLeDiff, Nat.reduceBEq, Nat.reduceAdd, Nat.reduceLT, Nat.reduceSub, Nat.reduceMul, Int.reduceEq, Int.reduceLT, Int.reduceLE, Int.reduceNeg, Int.reduceToNat, List.reduceReplicate, Int.ofNat_le, List.getElem?_drop]
  refine iteI (fun hlt => ?_) fun hge => ?_
  · have hlt2 : i < ys.length := by omega
    simp only [pwA, if_true, if_false, eq_self, nm_eq, reduceCtorEq, ↓reduceIte, Nat.reduceEqDiff, Nat.reduceLeDiff, Nat.reduceBEq, Nat.reduceAdd, Nat.reduceLT, Nat.reduceSub, Nat.reduceMul, Int.reduceEq, Int.reduceLT, Int.reduceLE, Int.reduceNeg, Int.reduceToNat, List.reduceReplicate, Int.ofNat_le, List.getElem?_drop, hlt, hlt2, List.getElem?_drop, pis_get, gi hlt, gi hlt2]
    refine iteI (fun h0 => ?_) fun hn => ?_
    · simp only [pwA, if_true, if_false, eq_self, nm_eq, reduceCtorEq, ↓reduceIte, Nat.reduceEqDiff, Nat.reduceLeDiff, Nat.reduceBEq, Nat.reduceAdd, Nat.reduceLT, Nat.reduceSub, Nat.reduceMul, Int.reduceEq, Int.reduceLT, Int.reduceLE, Int.reduceNeg, Int.reduceToNat, List.reduceReplicate, Int.ofNat_le, List.getElem?_drop, wrapS hlt hb]
      exact ⟨_, by omega, i + 1, by omega, rfl, rfl, eqList hl hlt hall h0⟩
    · exact pkf hk fun hv => hn (by subst hv; rfl)
  · refine pkt hk ?_
    rwa [List.take_of_length_le (by omega), List.take_of_length_le (by omega)] at hall
theorem eqTake {α : Type} {xs ys : List α} (hl : xs.length = ys.length) {i : Nat} (hi : i < xs.length) (h : xs.take i = ys.take i) (he : xs[i] = ys[i]'(by omega)) : xs.take (i + 1) = ys.take (i + 1) := by
  rw [List.take_succ_eq_append_getElem hi, List.take_succ_eq_append_getElem (by omega : i < ys.length), h, he]
theorem eqInt64SS_ok {v v' : PV} {xs ys : List (List Int)} (hI : FII v xs) (hI' : FII v' ys) (sz : SzL xs) (hk : ∀ t : Bool, (t = true ↔ xs = ys) → K (.bool t) σ) : PCalls Try.prog 42 [v, v'] σ K := by
  obtain ⟨w, a, rs, rfl, hr⟩ := hI
  obtain ⟨w', a', rs', rfl, hr'⟩ := hI'
  have hb := sz.l
  have fl : ∀ {A : Prop}, ¬ A → ((false = true) ↔ A) := fun h => ⟨fun x => (by cases x), fun x => absurd x h⟩
  refine pcalls_of_vp mix Try.func42 cf42 rfl ?_
  dsimp only [if42, qI, eI, nI, qD, eD]
  simp only [pwA, if_true, if_false, eq_self, nm_eq, reduceCtorEq, ↓reduceIte, Nat.reduceEqDiff, Nat.reduceLeDiff, Nat.reduceBEq, Nat.reduceAdd, Nat.reduceLT, Nat.reduceSub, Nat.reduceMul, Int.reduceEq, Int.reduceLT, Int.reduceLE, Int.reduceNeg, Int.reduceToNat, List.reduceReplicate, Int.ofNat_le, List.getElem?_drop]
  refine iteI (fun hl => ?_) fun hl => ?_
  rotate_left
  · exact hk _ (fl fun hv => hl (by rw [hv]))
  have hl : xs.length = ys.length := by omega
  refine vp_loop (fun m vs h' => ∃ i : Nat, i ≤ xs.length ∧ m = xs.length - i ∧ vs = [.fz w a xs.length rs, .fz w' a' ys.length rs', .int .i64 i] ∧ σ = h' ∧ xs.take i = ys.take i) xs.length ?_ ?_
  · exact ⟨0, by omega, by omega, rfl, rfl, by simp⟩
  rintro m vs h' ⟨i, hi, rfl, rfl, rfl, hall⟩
  simp only [pwA, if_true, if_false, eq_self, nm_eq, reduceCtorEq, ↓reduceIte, Nat.reduceEqDiff, Nat.reduceLeDiff, Nat.reduceBEq, Nat.reduceAdd, Nat.reduceLT, Nat.reduceSub, Nat.reduceMul, Int.reduceEq, Int.reduceLT, Int.reduceLE, Int.reduceNeg, Int.reduceToNat, List.reduceReplicate, Int.ofNat_le, List.getElem?_drop]
  refine iteI (fun hlt => ?_) fun hge => ?_
  · have hlt2 : i < ys.length := by omega
    obtain ⟨w4, a4, h4⟩ := hr.rowI hlt
    obtain ⟨w5, a5, h5⟩ := hr'.rowI hlt2
    simp only [pwA, if_true, if_false, eq_self, nm_eq, reduceCtorEq, ↓reduceIte, Nat.reduceEqDiff, Nat.reduceLeDiff, Nat.reduceBEq, Nat.reduceAdd, Nat.reduceLT, Nat.reduceSub, Nat.reduceMul, Int.reduceEq, Int.reduceLT, Int.reduceLE, Int.reduceNeg, Int.reduceToNat, List.reduceReplicate, Int.ofNat_le, List.getElem?_drop, hlt, hlt2, List.getElem?_drop, h4, h5]
    refine eqInt64S_ok ⟨_, _, rfl⟩ ⟨_, _, rfl⟩ (by have := sz.r _ (List.getElem_mem hlt); omega) ?_
    by_cases he : xs[i] = ys[i]
    · simp only [pwA, if_true, if_false, eq_self, nm_eq, reduceCtorEq, ↓reduceIte, Nat.reduceEqDiff, Nat.reduceLeDiff, Nat.reduceBEq, Nat.reduceAdd, Nat.reduceLT, Nat.reduceSub, Nat.reduceMul, Int.reduceEq, Int.reduceLT, Int.reduceLE, Int.reduceNeg, Int.reduceToNat, List.reduceReplicate, Int.ofNat_le, List.getElem?_drop, eq_true he, wrapS hlt (by omega : xs.length ≤ 4611686018427387904)]
      exact ⟨_, by omega, i + 1, by omega, rfl, rfl, eqTake hl hlt hall he⟩
    · simp only [pwA, if_true, if_false, eq_self, nm_eq, reduceCtorEq, ↓reduceIte, Nat.reduceEqDiff, Nat.reduceLeDiff, Nat.reduceBEq, Nat.reduceAdd, Nat.reduceLT, Nat.reduceSub, Nat.reduceMul, Int.reduceEq, Int.reduceLT, Int.reduceLE, Int.reduceNeg, Int.reduceToNat, List.reduceReplicate, Int.ofNat_le, List.getElem?_drop, he]
      exact hk _ (fl fun hv => he (by subst hv; rfl))
  · refine hk _ ⟨fun _ => ?_, fun _ => rfl⟩
    rwa [List.take_of_length_le (by omega), List.take_of_length_le (by omega)] at hall
theorem eqInt64SSS_ok {v v' : PV} {xs ys : List (List (List Int))} (hI : FIII v xs) (hI' : FIII v' ys) (sz : SzM xs) (hk : ∀ t : Bool, (t = true ↔ xs = ys) → K (.bool t) σ) : PCalls Try.prog 62 [v, v'] σ K := by
  obtain ⟨w, a, rs, rfl, hr⟩ := hI
  obtain ⟨w', a', rs', rfl, hr'⟩ := hI'
  have hb := sz.l
  have fl : ∀ {A : Prop}, ¬ A → ((false = true) ↔ A) := fun h => ⟨fun x => (by cases x), fun x => absurd x h⟩
  refine pcalls_of_vp mix Try.func62 cf62 rfl ?_
  dsimp only [if62, qI, eI, nI, qD, eD]
  simp only [pwA, if_true, if_false, eq_self, nm_eq, reduceCtorEq, ↓reduceIte, Nat.reduceEqDiff, Nat.reduceLeDiff, Nat.reduceBEq, Nat.reduceAdd, Nat.reduceLT, Nat.reduceSub, Nat.reduceMul, Int.reduceEq, Int.reduceLT, Int.reduceLE, Int.reduceNeg, Int.reduceToNat, List.reduceReplicate, Int.ofNat_le, List.getElem?_drop]
  refine iteI (fun hl => ?_) fun hl => ?_
  rotate_left
  · exact hk _ (fl fun hv => hl (by rw [hv]))
  have hl : xs.length = ys.length := by omega
  refine vp_loop (fun m vs h' => ∃ i : Nat, i ≤ xs.length ∧ m = xs.length - i ∧ vs = [.fz w a xs.length rs, .fz w' a' ys.length rs', .int .i64 i] ∧ σ = h' ∧ xs.take i = ys.take i) xs.length ?_ ?_
  · exact ⟨0, by omega, by omega, rfl, rfl, by simp⟩
  rintro m vs h' ⟨i, hi, rfl, rfl, rfl, hall⟩
  simp only [pwA, if_true, if_false, eq_self, nm_eq, reduceCtorEq, ↓reduceIte, Nat.reduceEqDiff, Nat.reduceLeDiff, Nat.reduceBEq, Nat.reduceAdd, Nat.reduceLT, Nat.reduceSub, Nat.reduceMul, Int.reduceEq, Int.reduceLT, Int.reduceLE, Int.reduceNeg, Int.reduceToNat, List.reduceReplicate, Int.ofNat_le, List.getElem?_drop]
  refine iteI (fun hlt => ?_) fun hge => ?_
  · have hlt2 : i < ys.length := by omega
    obtain ⟨w4, a4, r4, h4, g4⟩ := hr.rowL hlt
    obtain ⟨w5, a5, r5, h5, g5⟩ := hr'.rowL hlt2
    simp only [pwA, if_true, if_false, eq_self, nm_eq, reduceCtorEq, ↓reduceIte, Nat.reduceEqDiff, Nat.reduceLeDiff, Nat.reduceBEq, Nat.reduceAdd, Nat.reduceLT, Nat.reduceSub, Nat.reduceMul, Int.reduceEq, Int.reduceLT, Int.reduceLE, Int.reduceNeg, Int.reduceToNat, List.reduceReplicate, Int.ofNat_le, List.getElem?_drop, hlt, hlt2, List.getElem?_drop, h4, h5]
    refine eqInt64SS_ok ⟨_, _, _, rfl, g4⟩ ⟨_, _, _, rfl, g5⟩ (sz.r _ (List.getElem_mem hlt)) fun t ht => ?_
    cases t with
    | true =>
      simp only [pwA, if_true, if_false, eq_self, nm_eq, reduceCtorEq, ↓reduceIte, Nat.reduceEqDiff, Nat.reduceLeDiff, Nat.reduceBEq, Nat.reduceAdd, Nat.reduceLT, Nat.reduceSub, Nat.reduceMul, Int.reduceEq, Int.reduceLT, Int.reduceLE, Int.reduceNeg, Int.reduceToNat, List.reduceReplicate, Int.ofNat_le, List.getElem?_drop, wrapS hlt (by omega : xs.length ≤ 4611686018427387904)]
      exact ⟨_, by omega, i + 1, by omega, rfl, rfl, eqTake hl hlt hall (ht.1 rfl)⟩
    | false =>
      simp only [pwA, if_true, if_false, eq_self, nm_eq, reduceCtorEq, ↓reduceIte, Nat.reduceEqDiff, Nat.reduceLeDiff, Nat.reduceBEq, Nat.reduceAdd, Nat.reduceLT, Nat.reduceSub, Nat.reduceMul, Int.reduceEq, Int.reduceLT, Int.reduceLE, Int.reduceNeg, Int.reduceToNat, List.reduceReplicate, Int.ofNat_le, List.getElem?_drop]
      exact hk _ (fl fun hv => by subst hv; cases ht.2 rfl)
  · refine hk _ ⟨fun _ => ?_, fun _ => rfl⟩
    rwa [List.take_of_length_le (by omega), List.take_of_length_le (by omega)] at hall
end Go.Proofs
set_option linter.unusedVariables false
set_option linter.unusedSimpArgs false
namespace Go.Grp
open Go.Ab Go.Lie
section
variable {α : Type} {S : α → Prop} {m : α → α → α} {e : α}
/-- Powers. -/
def pw (m : α → α → α) (e x : α) : Nat → α
  | 0 => e
  | k + 1 => m (pw m e x k) x
/-- k times a factor behind. -/
def rep (m : α → α → α) (x : α) : Nat → α → α
  | 0, a => a
  | k + 1, a => rep m x k (m a x)
/-- A product of powers, from t on, d of them. -/
def ph (m : α → α → α) (e : α) (h : Nat → α) (x : Nat → Nat) : Nat → Nat → α
  | t, 0 => e
  | t, d + 1 => m (pw m e (h t) (x t)) (ph m e h x (t + 1) d)
/-- .. as it is computed: from the left. -/
def fo (m : α → α → α) (h : Nat → α) (x : Nat → Nat) : Nat → Nat → α → α
  | t, 0, a => a
  | t, d + 1, a => fo m h x (t + 1) d (rep m (h t) (x t) a)
end
variable {O : List Int} {P : List (List Int)} {C : List (List (List Int))}
abbrev nx (x : List Int) (j : Nat) : Nat := (at_ x j).toNat
abbrev cvec (C : List (List (List Int))) (i j : Nat) : List Int := (C.getD i []).getD (j - i - 1) []
abbrev pvec (P : List (List Int)) (i : Nat) : List Int := P.getD i []
abbrev zv (O : List Int) : List Int := List.replicate O.length 0
/-- The product of conjugates by generator i (m: the product behind i). -/
def img (O : List Int) (C : List (List (List Int))) (m : List Int → List Int → List Int) (i : Nat) (x : List Int) : List Int := fo m (cvec C i) (nx x) (i + 1) (O.length - 1 - i) (zv O)
def iter {α : Type} (f : α → α) : Nat → α → α
  | 0, a => a
  | k + 1, a => iter f k (f a)
/-- The product in the tail of the last d generators. -/
def mu (O : List Int) (P : List (List Int)) (C : List (List (List Int))) : Nat → List Int → List Int → List Int
  | 0, _, _ => zv O
  | d + 1, a, b =>
    let i := O.length - (d + 1)
    let r := mu O P C d (iter (img O C (mu O P C d) i) (nx b i) (a.set i 0)) (b.set i 0)
    if at_ a i + at_ b i ≥ at_ O i then (mu O P C d (pvec P i) r).set i (at_ a i + at_ b i - at_ O i) else r.set i (at_ a i + at_ b i)
end Go.Grp
set_option linter.unusedVariables false
set_option linter.unusedSimpArgs false
namespace Go.Grp
open Go.Ab Go.Lie
variable {O : List Int} {P : List (List Int)} {C : List (List (List Int))} {α : Type} {S : α → Prop} {m : α → α → α} {e : α} {h : Nat → α} {t0 : Nat}
/-- What generators with these values say of a vector: the last d generators. -/
abbrev Ph (O : List Int) (m : α → α → α) (e : α) (h : Nat → α) (d : Nat) (x : List Int) : α := ph m e h (nx x) (O.length - d) d
/-- The relations hold, from t0 on. -/
structure Rel (O : List Int) (P : List (List Int)) (C : List (List (List Int))) (S : α → Prop) (m : α → α → α) (e : α) (h : Nat → α) (t0 : Nat) : Prop where
  mem : ∀ j, t0 ≤ j → j < O.length → S (h j)
  pow : ∀ j, t0 ≤ j → j < O.length → pw m e (h j) (nx O j) = Ph O m e h (O.length - (j + 1)) (pvec P j)
  cj : ∀ j k, t0 ≤ j → j < k → k < O.length → m (h k) (h j) = m (h j) (Ph O m e h (O.length - (j + 1)) (cvec C j k))
end Go.Grp
set_option linter.unusedVariables false
set_option linter.unusedSimpArgs false
namespace Go.Grp
open Go.Ab Go.Lie
variable {O : List Int} {P : List (List Int)} {C : List (List (List Int))} {α : Type} {S : α → Prop} {m : α → α → α} {e : α} {h : Nat → α}
section
variable {d i : Nat}
/-- The map of a level. -/
abbrev al (O : List Int) (P : List (List Int)) (C : List (List (List Int))) (d i : Nat) : List Int → List Int := img O C (mu O P C d) i
end
end Go.Grp
set_option linter.unusedSimpArgs false
set_option linter.unusedVariables false
namespace Go.Proofs
open Go.Ab Go.Lie Go.Grp
variable {σ : PHeap} {K : PV → PHeap → Prop} {O : List Int} {P : List (List Int)} {C : List (List (List Int))} {vO vP vC vx : PV} {s : Nat} {x : List Int}
/-- The values of a presentation. -/
structure IsPr (vO vP vC : PV) (O : List Int) (P : List (List Int)) (C : List (List (List Int))) : Prop where
  O : FI vO O
  P : FII vP P
  C : FIII vC C
/-- Sizes of a presentation. -/
structure SzP (O : List Int) (P : List (List Int)) (C : List (List (List Int))) : Prop where
  O : O.length ≤ 1048576
  P : SzL P
  C : SzM C
/-- A struct of three cells behind a pointer. -/
structure PtrG (σ : PHeap) (s : Nat) (vO vP vC : PV) : Prop where
  obj : σ.obj s = some [vO, vP, vC]
  lt : s < σ.next
/-- Entries in the ranges of the orders. -/
def isExp (O x : List Int) : Prop := x.length = O.length ∧ ∀ j, j < x.length → 0 ≤ at_ x j ∧ at_ x j ≤ at_ O j - 1
def isTail (O : List Int) (t : Nat) (x : List Int) : Prop := isExp O x ∧ isZ (x.take t)
def prodL : List Int → Int
  | [] => 1
  | o :: O => o * prodL O
def rowPr (O : List Int) (P : List (List Int)) (C : List (List (List Int))) (i : Nat) : Prop := isTail O (i + 1) (P.getD i []) ∧ (C.getD i []).length = O.length - 1 - i ∧ ∀ k, k < (C.getD i []).length → isTail O (i + 1) ((C.getD i []).getD k [])
def isPres (O : List Int) (P : List (List Int)) (C : List (List (List Int))) : Prop :=
  O.length ≤ 6 ∧ P.length = O.length ∧ C.length = O.length ∧ (∀ o ∈ O, isP o) ∧ prodL O ≤ 729 ∧ ∀ i, i < O.length → rowPr O P C i
theorem isExponents_ok (hs : PtrG σ s vO vP vC) (hO : FI vO O) (szO : O.length ≤ 1048576) (bO : ∀ o ∈ O, isP o) (hx : FI vx x) (hb : x.length ≤ 1048576) (hk : ∀ t : Bool, (t = true ↔ isExp O x) → K (.bool t) σ) : PCalls Try.prog 67 [.ptr s 0, vx] σ K := by
  have fl : ∀ {A : Prop}, ¬ A → ((false = true) ↔ A) := fun h => ⟨fun x => (by cases x), fun x => absurd x h⟩
  obtain ⟨wo, ao, rfl⟩ := hO
  obtain ⟨wx, ax, rfl⟩ := hx
  have e0 : σ.rd1 s 0 = some (.fz wo ao O.length (pis O)) := by rw [obj_rd1 hs.obj]; rfl
  refine pcalls_of_vp mix Try.func67 cf67 rfl ?_
  dsimp only [if67, qI, eI, nI, qD, eD]
  simp only [pwA, if_true, if_false, eq_self, nm_eq, reduceCtorEq, ↓reduceIte, Nat.reduceEqDiff, Nat.reduceLeDiff, Nat.reduceBEq, Nat.reduceAdd, Nat.reduceLT, Nat.reduceSub, Nat.reduceMul, Int.reduceEq, Int.reduceLT, Int.reduceLE, Int.reduceNeg, Int.reduceToNat, List.reduceReplicate, Int.ofNat_le, List.getElem?_drop, e0]
  refine iteI (fun hl => ?_) fun hl => ?_
  rotate_left
  · exact hk _ (fl fun h => hl (by rw [h.1]))
  have hl : x.length = O.length := by omega
  refine vp_loop (fun m vs h' => ∃ i : Nat, i ≤ x.length ∧ m = x.length - i ∧ vs = [.ptr s 0, .fz wx ax x.length (pis x), .int .i64 x.length, .int .i64 i] ∧ σ = h' ∧ ∀ j, j < i → 0 ≤ at_ x j ∧ at_ x j ≤ at_ O j - 1) x.length ?_ ?_
  · exact ⟨0, by omega, by omega, rfl, rfl, fun j hj => by omega⟩
  rintro m vs h' ⟨i, hi, rfl, rfl, rfl, hall⟩
  simp only [pwA, if_true, if_false, eq_self, nm_eq, reduceCtorEq, ↓reduceIte, Nat.reduceEqDiff, Nat.reduceLeDiff, Nat.reduceBEq, Nat.reduceAdd, Nat.reduceLT, Nat.reduceSub, Nat.reduceMul, Int.reduceEq, Int.reduceLT, Int.reduceLE, Int.reduceNeg, Int.reduceToNat, List.reduceReplicate, Int.ofNat_le, List.getElem?_drop]
  refine iteI (fun hlt => ?_) fun hge => ?_
  · have hO' : i < O.length := by omega
    have bo := (bO _ (List.getElem_mem hO')).bd
    simp only [pwA, if_true, if_false, eq_self, nm_eq, reduceCtorEq, ↓reduceIte, Nat.reduceEqDiff, Nat.reduceLeDiff, Nat.reduceBEq, Nat.reduceAdd, Nat.reduceLT, Nat.reduceSub, Nat.reduceMul, Int.reduceEq, Int.reduceLT, Int.reduceLE, Int.reduceNeg, Int.reduceToNat, List.reduceReplicate, Int.ofNat_le, List.getElem?_drop, hlt, hO', e0, gi hlt, gi hO', pis_get, List.getElem?_drop, wrap64 (n := O[i] - 1) (by omega) (by omega)]
    refine inside_ok ?_
    by_cases hin : 0 ≤ x[i] ∧ x[i] ≤ O[i] - 1
    · simp only [pwA, if_true, if_false, eq_self, nm_eq, reduceCtorEq, ↓reduceIte, Nat.reduceEqDiff, Nat.reduceLeDiff, Nat.reduceBEq, Nat.reduceAdd, Nat.reduceLT, Nat.reduceSub, Nat.reduceMul, Int.reduceEq, Int.reduceLT, Int.reduceLE, Int.reduceNeg, Int.reduceToNat, List.reduceReplicate, Int.ofNat_le, List.getElem?_drop, hin, wrapS hlt (by omega : x.length ≤ 4611686018427387904)]
      refine ⟨_, by omega, i + 1, by omega, rfl, rfl, fun j hj => ?_⟩
      by_cases e : j = i
      · subst e; rw [at_eq hlt, at_eq hO']; exact hin
      · exact hall j (by omega)
    · simp only [pwA, if_true, if_false, eq_self, nm_eq, reduceCtorEq, ↓reduceIte, Nat.reduceEqDiff, Nat.reduceLeDiff, Nat.reduceBEq, Nat.reduceAdd, Nat.reduceLT, Nat.reduceSub, Nat.reduceMul, Int.reduceEq, Int.reduceLT, Int.reduceLE, Int.reduceNeg, Int.reduceToNat, List.reduceReplicate, Int.ofNat_le, List.getElem?_drop, hin]
      exact hk _ (fl fun h => hin (by have := h.2 i hlt; rwa [at_eq hlt, at_eq hO'] at this))
  · exact hk _ ⟨fun _ => ⟨hl, fun j hj => hall j (by omega)⟩, fun _ => rfl⟩
theorem tailVector_ok {i : Nat} (hs : PtrG σ s vO vP vC) (hO : FI vO O) (szO : O.length ≤ 1048576) (bO : ∀ o ∈ O, isP o) (hx : FI vx x) (hb : x.length ≤ 1048576) (hi : i < O.length) (hk : ∀ t : Bool, (t = true ↔ isTail O (i + 1) x) → K (.bool t) σ) : PCalls Try.prog 135 [.ptr s 0, .int .i64 i, vx] σ K := by
  have fl : ∀ {A : Prop}, ¬ A → ((false = true) ↔ A) := fun h => ⟨fun x => (by cases x), fun x => absurd x h⟩
  refine pcalls_of_vp mix Try.func135 cf135 rfl ?_
  dsimp only [if135, qI, eI, nI, qD, eD]
  simp only [pwA, if_true, if_false, eq_self, nm_eq, reduceCtorEq, ↓reduceIte, Nat.reduceEqDiff, Nat.reduceLeDiff, Nat.reduceBEq, Nat.reduceAdd, Nat.reduceLT, Nat.reduceSub, Nat.reduceMul, Int.reduceEq, Int.reduceLT, Int.reduceLE, Int.reduceNeg, Int.reduceToNat, List.reduceReplicate, Int.ofNat_le, List.getElem?_drop]
  refine isExponents_ok hs hO szO bO hx hb fun t ht => ?_
  cases t with
  | false =>
    simp only [pwA, if_true, if_false, eq_self, nm_eq, reduceCtorEq, ↓reduceIte, Nat.reduceEqDiff, Nat.reduceLeDiff, Nat.reduceBEq, Nat.reduceAdd, Nat.reduceLT, Nat.reduceSub, Nat.reduceMul, Int.reduceEq, Int.reduceLT, Int.reduceLE, Int.reduceNeg, Int.reduceToNat, List.reduceReplicate, Int.ofNat_le, List.getElem?_drop]
    exact hk _ (fl fun h => by cases ht.2 h.1)
  | true =>
    have he := ht.1 rfl
    have hl := he.1
    obtain ⟨wx, ax, rfl⟩ := hx
    have hle2 : ((i + 1 : Nat) : Int) ≤ (x.length : Int) := by omega
    have hle3 : i + 1 ≤ x.length := by omega
    simp only [pwA, if_true, if_false, eq_self, nm_eq, reduceCtorEq, ↓reduceIte, Nat.reduceEqDiff, Nat.reduceLeDiff, Nat.reduceBEq, Nat.reduceAdd, Nat.reduceLT, Nat.reduceSub, Nat.reduceMul, Int.reduceEq, Int.reduceLT, Int.reduceLE, Int.reduceNeg, Int.reduceToNat, List.reduceReplicate, Int.ofNat_le, List.getElem?_drop, wrapS hi (by omega : O.length ≤ 4611686018427387904), hle2, hle3, pis_take, Nat.sub_zero]
    refine isZero_ok (by simp; omega) (by simp; omega) ?_
    by_cases hz : isZ (x.take (i + 1))
    · simp only [pwA, if_true, if_false, eq_self, nm_eq, reduceCtorEq, ↓reduceIte, Nat.reduceEqDiff, Nat.reduceLeDiff, Nat.reduceBEq, Nat.reduceAdd, Nat.reduceLT, Nat.reduceSub, Nat.reduceMul, Int.reduceEq, Int.reduceLT, Int.reduceLE, Int.reduceNeg, Int.reduceToNat, List.reduceReplicate, Int.ofNat_le, List.getElem?_drop, hz]
      exact hk _ ⟨fun _ => ⟨he, hz⟩, fun _ => rfl⟩
    · simp only [pwA, if_true, if_false, eq_self, nm_eq, reduceCtorEq, ↓reduceIte, Nat.reduceEqDiff, Nat.reduceLeDiff, Nat.reduceBEq, Nat.reduceAdd, Nat.reduceLT, Nat.reduceSub, Nat.reduceMul, Int.reduceEq, Int.reduceLT, Int.reduceLE, Int.reduceNeg, Int.reduceToNat, List.reduceReplicate, Int.ofNat_le, List.getElem?_drop, hz]
      exact hk _ (fl fun h => hz h.2)
theorem prodL_append : ∀ (a b : List Int), prodL (a ++ b) = prodL a * prodL b
  | [], b => by simp [prodL]
  | x :: a, b => by simp [prodL, prodL_append a b, Int.mul_assoc]
theorem prodL_snoc {i : Nat} (hi : i < O.length) : prodL (O.take (i + 1)) = prodL (O.take i) * O[i] := by
  rw [List.take_succ_eq_append_getElem hi, prodL_append]; simp [prodL]
theorem prodL_pos : ∀ {O : List Int}, (∀ o ∈ O, isP o) → 1 ≤ prodL O
  | [], _ => by simp [prodL]
  | o :: O, h => by
    have h1 := (h o (by simp)).bd
    have h2 := prodL_pos (O := O) fun q hq => h q (by simp [hq])
    simp only [prodL]
    have := Int.mul_le_mul h1.1 h2 (by omega) (by omega)
    omega
theorem prodL_take (h : ∀ o ∈ O, isP o) (i : Nat) : prodL (O.take i) ≤ prodL O := by
  have h1 := prodL_pos fun o ho => h o (List.mem_of_mem_take (i := i) ho)
  have h2 := prodL_pos fun o ho => h o (List.mem_of_mem_drop (i := i) ho)
  have : prodL O = prodL (O.take i) * prodL (O.drop i) := by rw [← prodL_append, List.take_append_drop]
  have h3 := Int.mul_le_mul (Int.le_refl (prodL (O.take i))) h2 (by omega) (by omega)
  omega
theorem IsPresentation_ok (hR : IsPr vO vP vC O P C) (sz : SzP O P C) (hk : ∀ t : Bool, (t = true ↔ isPres O P C) → K (.bool t) σ) : PCalls Try.prog 125 [.agg [vO, vP, vC]] σ K := by
  have hFO := hR.O
  have ho1 := hR.O.one
  have szP := sz.P
  have szC := sz.C
  obtain ⟨⟨w0, a0, rfl⟩, ⟨w1, a1, rP, rfl, hP⟩, ⟨w3, a3, rC, rfl, hC⟩⟩ := hR
  refine PCalls.gh ?_
  have fin : ∀ {t : Bool} {σ' : PHeap}, (t = true ↔ isPres O P C) → Keep σ σ' → Gh σ K (.bool t) σ' := fun h k => Gh.fin0 k trivial (hk _ h)
  have no : ∀ {σ' : PHeap}, ¬ isPres O P C → Keep σ σ' → Gh σ K (.bool false) σ' := fun h k => fin ⟨fun x => (by cases x), fun x => absurd x h⟩ k
  have hkp := keep_new σ [.fz w0 a0 O.length (pis O), .fz w1 a1 P.length rP, .fz w3 a3 C.length rC]
  have hpt : PtrG (σ.new [.fz w0 a0 O.length (pis O), .fz w1 a1 P.length rP, .fz w3 a3 C.length rC]) σ.next (.fz w0 a0 O.length (pis O)) (.fz w1 a1 P.length rP) (.fz w3 a3 C.length rC) := ⟨by simp only [pwA, if_true, if_false, eq_self, nm_eq, reduceCtorEq, ↓reduceIte, Nat.reduceEqDiff, Nat.reduceLeDiff, Nat.reduceBEq, Nat.reduceAdd, Nat.reduceLT, Nat.reduceSub, Nat.reduceMul, Int.reduceEq, Int.reduceLT, Int.reduceLE, Int.reduceNeg, Int.reduceToNat, List.reduceReplicate, Int.ofNat_le, List.getElem?_drop], by simp only [pwA, if_true, if_false, eq_self, nm_eq, reduceCtorEq, ↓reduceIte, Nat.reduceEqDiff, Nat.reduceLeDiff, Nat.reduceBEq, Nat.reduceAdd, Nat.reduceLT, Nat.reduceSub, Nat.reduceMul, Int.reduceEq, Int.reduceLT, Int.reduceLE, Int.reduceNeg, Int.reduceToNat, List.reduceReplicate, Int.ofNat_le, List.getElem?_drop]⟩
  refine pcalls_of_vp mix Try.func125 cf125 rfl ?_
  dsimp only [if125, qI, eI, nI, qD, eD]
  simp only [pwA, if_true, if_false, eq_self, nm_eq, reduceCtorEq, ↓reduceIte, Nat.reduceEqDiff, Nat.reduceLeDiff, Nat.reduceBEq, Nat.reduceAdd, Nat.reduceLT, Nat.reduceSub, Nat.reduceMul, Int.reduceEq, Int.reduceLT, Int.reduceLE, Int.reduceNeg, Int.reduceToNat, List.reduceReplicate, Int.ofNat_le, List.getElem?_drop]
  by_cases h6 : O.length ≤ 6
  rotate_left
  · have h6' : (6 : Int) < (O.length : Int) := by omega
    simp only [pwA, if_true, if_false, eq_self, nm_eq, reduceCtorEq, ↓reduceIte, Nat.reduceEqDiff, Nat.reduceLeDiff, Nat.reduceBEq, Nat.reduceAdd, Nat.reduceLT, Nat.reduceSub, Nat.reduceMul, Int.reduceEq, Int.reduceLT, Int.reduceLE, Int.reduceNeg, Int.reduceToNat, List.reduceReplicate, Int.ofNat_le, List.getElem?_drop, h6']
    exact no (fun h => h6 h.1) hkp
  have h6' : ¬ (6 : Int) < (O.length : Int) := by omega
  by_cases hPl : P.length = O.length
  rotate_left
  · have hPl' : ¬ (P.length : Int) = (O.length : Int) := by omega
    simp only [pwA, if_true, if_false, eq_self, nm_eq, reduceCtorEq, ↓reduceIte, Nat.reduceEqDiff, Nat.reduceLeDiff, Nat.reduceBEq, Nat.reduceAdd, Nat.reduceLT, Nat.reduceSub, Nat.reduceMul, Int.reduceEq, Int.reduceLT, Int.reduceLE, Int.reduceNeg, Int.reduceToNat, List.reduceReplicate, Int.ofNat_le, List.getElem?_drop, h6', hPl']
    exact no (fun h => hPl h.2.1) hkp
  have hPl' : (P.length : Int) = (O.length : Int) := by omega
  by_cases hCl : C.length = O.length
  rotate_left
  · have hCl' : ¬ (C.length : Int) = (O.length : Int) := by omega
    simp only [pwA, if_true, if_false, eq_self, nm_eq, reduceCtorEq, ↓reduceIte, Nat.reduceEqDiff, Nat.reduceLeDiff, Nat.reduceBEq, Nat.reduceAdd, Nat.reduceLT, Nat.reduceSub, Nat.reduceMul, Int.reduceEq, Int.reduceLT, Int.reduceLE, Int.reduceNeg, Int.reduceToNat, List.reduceReplicate, Int.ofNat_le, List.getElem?_drop, h6', eq_true hPl', hCl']
    exact no (fun h => hCl h.2.2.1) hkp
  have hCl' : (C.length : Int) = (O.length : Int) := by omega
  simp only [pwA, if_true, if_false, eq_self, nm_eq, reduceCtorEq, ↓reduceIte, Nat.reduceEqDiff, Nat.reduceLeDiff, Nat.reduceBEq, Nat.reduceAdd, Nat.reduceLT, Nat.reduceSub, Nat.reduceMul, Int.reduceEq, Int.reduceLT, Int.reduceLE, Int.reduceNeg, Int.reduceToNat, List.reduceReplicate, Int.ofNat_le, List.getElem?_drop, h6', eq_true hPl', eq_true hCl']
  refine vp_loop (fun m vs h' => ∃ i : Nat, i ≤ O.length ∧ m = O.length - i ∧ vs = [.ptr σ.next 0, .int .i64 O.length, .int .i64 (prodL (O.take i)), .fz w0 a0 O.length (pis O), .int .i64 O.length, .int .i64 i] ∧ h' = σ.new [.fz w0 a0 O.length (pis O), .fz w1 a1 P.length rP, .fz w3 a3 C.length rC] ∧ (∀ o ∈ O.take i, isP o) ∧ prodL (O.take i) ≤ 729) O.length ?_ ?_
  · exact ⟨0, by omega, by omega, rfl, rfl, by simp, by simp [prodL]⟩
  rintro m vs h' ⟨i, hi, rfl, rfl, rfl, hall, hpr⟩
  simp only [pwA, if_true, if_false, eq_self, nm_eq, reduceCtorEq, ↓reduceIte, Nat.reduceEqDiff, Nat.reduceLeDiff, Nat.reduceBEq, Nat.reduceAdd, Nat.reduceLT, Nat.reduceSub, Nat.reduceMul, Int.reduceEq, Int.reduceLT, Int.reduceLE, Int.reduceNeg, Int.reduceToNat, List.reduceReplicate, Int.ofNat_le, List.getElem?_drop]
  refine iteI (fun hlt => ?_) fun hge => ?_
  · simp only [pwA, if_true, if_false, eq_self, nm_eq, reduceCtorEq, ↓reduceIte, Nat.reduceEqDiff, Nat.reduceLeDiff, Nat.reduceBEq, Nat.reduceAdd, Nat.reduceLT, Nat.reduceSub, Nat.reduceMul, Int.reduceEq, Int.reduceLT, Int.reduceLE, Int.reduceNeg, Int.reduceToNat, List.reduceReplicate, Int.ofNat_le, List.getElem?_drop, hlt, gi hlt, pis_get, List.getElem?_drop]
    refine IsGroupPrime_ok ?_
    by_cases hp : isP O[i]
    rotate_left
    · simp only [pwA, if_true, if_false, eq_self, nm_eq, reduceCtorEq, ↓reduceIte, Nat.reduceEqDiff, Nat.reduceLeDiff, Nat.reduceBEq, Nat.reduceAdd, Nat.reduceLT, Nat.reduceSub, Nat.reduceMul, Int.reduceEq, Int.reduceLT, Int.reduceLE, Int.reduceNeg, Int.reduceToNat, List.reduceReplicate, Int.ofNat_le, List.getElem?_drop, hp]
      exact no (fun h => hp (h.2.2.2.1 _ (List.getElem_mem hlt))) hkp
    have hpb := hp.bd
    have h1 := prodL_pos hall
    have hm1 : 0 ≤ prodL (O.take i) * O[i] := Int.mul_nonneg (by omega) (by omega)
    have hm2 := Int.mul_le_mul hpr hpb.2 (by omega) (by omega)
    have hw : IntKind.i64.wrap (prodL (O.take i) * O[i]) = prodL (O.take i) * O[i] := wrap64 (by omega) (by omega)
    by_cases ho : prodL (O.take i) * O[i] ≤ 729
    · have ho' : ¬ (729 : Int) < prodL (O.take i) * O[i] := by omega
      simp only [pwA, if_true, if_false, eq_self, nm_eq, reduceCtorEq, ↓reduceIte, Nat.reduceEqDiff, Nat.reduceLeDiff, Nat.reduceBEq, Nat.reduceAdd, Nat.reduceLT, Nat.reduceSub, Nat.reduceMul, Int.reduceEq, Int.reduceLT, Int.reduceLE, Int.reduceNeg, Int.reduceToNat, List.reduceReplicate, Int.ofNat_le, List.getElem?_drop, hp, hw, ho', hlt, gi hlt, pis_get, List.getElem?_drop, wrapS hlt (by omega : O.length ≤ 4611686018427387904)]
      refine ⟨_, by omega, i + 1, by omega, rfl, ?_, forallA_snoc hlt hall hp, ?_⟩
      · rw [prodL_snoc hlt]
      · rw [prodL_snoc hlt]; exact ho
    · have ho' : (729 : Int) < prodL (O.take i) * O[i] := by omega
      simp only [pwA, if_true, if_false, eq_self, nm_eq, reduceCtorEq, ↓reduceIte, Nat.reduceEqDiff, Nat.reduceLeDiff, Nat.reduceBEq, Nat.reduceAdd, Nat.reduceLT, Nat.reduceSub, Nat.reduceMul, Int.reduceEq, Int.reduceLT, Int.reduceLE, Int.reduceNeg, Int.reduceToNat, List.reduceReplicate, Int.ofNat_le, List.getElem?_drop, hp, hw, ho']
      refine no (fun h => ?_) hkp
      have := prodL_take h.2.2.2.1 (i + 1)
      rw [prodL_snoc hlt] at this
      have := h.2.2.2.2.1
      omega
  have hie : i = O.length := by omega
  subst hie
  rw [List.take_length] at hall hpr
  refine vp_loop (fun m vs h' => ∃ i : Nat, i ≤ O.length ∧ m = O.length - i ∧ vs = [.ptr σ.next 0, .int .i64 O.length, .int .i64 O.length, .int .i64 i] ∧ h' = σ.new [.fz w0 a0 O.length (pis O), .fz w1 a1 P.length rP, .fz w3 a3 C.length rC] ∧ ∀ j, j < i → rowPr O P C j) O.length ?_ ?_
  · exact ⟨0, by omega, by omega, rfl, rfl, fun j hj => by omega⟩
  rintro m vs h' ⟨i, hi, rfl, rfl, rfl, hrow⟩
  simp only [pwA, if_true, if_false, eq_self, nm_eq, reduceCtorEq, ↓reduceIte, Nat.reduceEqDiff, Nat.reduceLeDiff, Nat.reduceBEq, Nat.reduceAdd, Nat.reduceLT, Nat.reduceSub, Nat.reduceMul, Int.reduceEq, Int.reduceLT, Int.reduceLE, Int.reduceNeg, Int.reduceToNat, List.reduceReplicate, Int.ofNat_le, List.getElem?_drop]
  refine iteI (fun hlt => ?_) fun hge => ?_
  rotate_left
  · exact fin ⟨fun _ => ⟨h6, hPl, hCl, hall, hpr, fun j hj => hrow j (by omega)⟩, fun _ => rfl⟩ hkp
  have hiP : i < P.length := by omega
  have hiC : i < C.length := by omega
  obtain ⟨w4, a4, hr⟩ := hP.rowI hiP
  obtain ⟨w5, a5, rs, hrb, hrs⟩ := hC.rowL hiC
  have hwl := szP.r _ (List.getElem_mem hiP)
  have hbl := (szC.r _ (List.getElem_mem hiC)).l
  have bad : (isTail O (i + 1) P[i] → C[i].length = O.length - 1 - i → (∀ k (h : k < C[i].length), isTail O (i + 1) C[i][k]) → False) → ¬ isPres O P C := fun hb hsh => by
    obtain ⟨q1, q3, q4⟩ := hsh.2.2.2.2.2 i hlt
    rw [getD_row hiP] at q1
    rw [getD_row' hiC] at q3
    refine hb q1 q3 fun k h => ?_
    have := q4 k (by rw [getD_row' hiC]; exact h)
    rwa [getD_row' hiC, getD_row' h] at this
  simp only [pwA, if_true, if_false, eq_self, nm_eq, reduceCtorEq, ↓reduceIte, Nat.reduceEqDiff, Nat.reduceLeDiff, Nat.reduceBEq, Nat.reduceAdd, Nat.reduceLT, Nat.reduceSub, Nat.reduceMul, Int.reduceEq, Int.reduceLT, Int.reduceLE, Int.reduceNeg, Int.reduceToNat, List.reduceReplicate, Int.ofNat_le, List.getElem?_drop, hiP, hr, List.getElem?_drop]
  refine tailVector_ok hpt hFO sz.O hall ⟨_, _, rfl⟩ hwl hlt fun t ht => ?_
  cases t with
  | false =>
    simp only [pwA, if_true, if_false, eq_self, nm_eq, reduceCtorEq, ↓reduceIte, Nat.reduceEqDiff, Nat.reduceLeDiff, Nat.reduceBEq, Nat.reduceAdd, Nat.reduceLT, Nat.reduceSub, Nat.reduceMul, Int.reduceEq, Int.reduceLT, Int.reduceLE, Int.reduceNeg, Int.reduceToNat, List.reduceReplicate, Int.ofNat_le, List.getElem?_drop]
    exact no (bad fun q _ _ => by cases ht.2 q) hkp
  | true =>
  have hv := ht.1 rfl
  have e1 : IntKind.i64.wrap ((O.length : Int) - 1) = (O.length : Int) - 1 := wrap64 (by omega) (by omega)
  have e2 : IntKind.i64.wrap ((O.length : Int) - 1 - (i : Int)) = (O.length : Int) - 1 - (i : Int) := wrap64 (by omega) (by omega)
  by_cases hlen : C[i].length = O.length - 1 - i
  rotate_left
  · have hlen' : ¬ (C[i].length : Int) = (O.length : Int) - 1 - (i : Int) := by omega
    simp only [pwA, if_true, if_false, eq_self, nm_eq, reduceCtorEq, ↓reduceIte, Nat.reduceEqDiff, Nat.reduceLeDiff, Nat.reduceBEq, Nat.reduceAdd, Nat.reduceLT, Nat.reduceSub, Nat.reduceMul, Int.reduceEq, Int.reduceLT, Int.reduceLE, Int.reduceNeg, Int.reduceToNat, List.reduceReplicate, Int.ofNat_le, List.getElem?_drop, hlt, hiC, hrb, List.getElem?_drop, e1, e2, hlen']
    exact no (bad fun _ q _ => hlen q) hkp
  have hlen' : (C[i].length : Int) = (O.length : Int) - 1 - (i : Int) := by omega
  simp only [pwA, if_true, if_false, eq_self, nm_eq, reduceCtorEq, ↓reduceIte, Nat.reduceEqDiff, Nat.reduceLeDiff, Nat.reduceBEq, Nat.reduceAdd, Nat.reduceLT, Nat.reduceSub, Nat.reduceMul, Int.reduceEq, Int.reduceLT, Int.reduceLE, Int.reduceNeg, Int.reduceToNat, List.reduceReplicate, Int.ofNat_le, List.getElem?_drop, hlt, hiC, hrb, List.getElem?_drop, e1, e2, eq_true hlen']
  refine vp_loop (fun m vs h' => ∃ k : Nat, k ≤ C[i].length ∧ m = C[i].length - k ∧ vs = [.ptr σ.next 0, .int .i64 O.length, .int .i64 i, .int .i64 O.length, .int .i64 i, .fz w5 a5 C[i].length rs, .int .i64 C[i].length, .int .i64 k] ∧
    h' = σ.new [.fz w0 a0 O.length (pis O), .fz w1 a1 P.length rP, .fz w3 a3 C.length rC] ∧ ∀ j (h : j < C[i].length), j < k → isTail O (i + 1) C[i][j]) C[i].length ?_ ?_
  · exact ⟨0, by omega, by omega, rfl, rfl, fun j h hj => by omega⟩
  rintro m vs h' ⟨k, hk', rfl, rfl, rfl, hall2⟩
  simp only [pwA, if_true, if_false, eq_self, nm_eq, reduceCtorEq, ↓reduceIte, Nat.reduceEqDiff, Nat.reduceLeDiff, Nat.reduceBEq, Nat.reduceAdd, Nat.reduceLT, Nat.reduceSub, Nat.reduceMul, Int.reduceEq, Int.reduceLT, Int.reduceLE, Int.reduceNeg, Int.reduceToNat, List.reduceReplicate, Int.ofNat_le, List.getElem?_drop]
  refine iteI (fun hlt2 => ?_) fun hge => ?_
  · obtain ⟨w6, a6, hrk⟩ := hrs.rowI hlt2
    have hcl := (szC.r _ (List.getElem_mem hiC)).r _ (List.getElem_mem hlt2)
    simp only [pwA, if_true, if_false, eq_self, nm_eq, reduceCtorEq, ↓reduceIte, Nat.reduceEqDiff, Nat.reduceLeDiff, Nat.reduceBEq, Nat.reduceAdd, Nat.reduceLT, Nat.reduceSub, Nat.reduceMul, Int.reduceEq, Int.reduceLT, Int.reduceLE, Int.reduceNeg, Int.reduceToNat, List.reduceReplicate, Int.ofNat_le, List.getElem?_drop, hlt2, hrk, List.getElem?_drop]
    refine tailVector_ok hpt hFO sz.O hall ⟨_, _, rfl⟩ hcl hlt fun t ht => ?_
    cases t with
    | false =>
      simp only [pwA, if_true, if_false, eq_self, nm_eq, reduceCtorEq, ↓reduceIte, Nat.reduceEqDiff, Nat.reduceLeDiff, Nat.reduceBEq, Nat.reduceAdd, Nat.reduceLT, Nat.reduceSub, Nat.reduceMul, Int.reduceEq, Int.reduceLT, Int.reduceLE, Int.reduceNeg, Int.reduceToNat, List.reduceReplicate, Int.ofNat_le, List.getElem?_drop]
      exact no (bad fun _ _ q => by cases ht.2 (q k hlt2)) hkp
    | true =>
      simp only [pwA, if_true, if_false, eq_self, nm_eq, reduceCtorEq, ↓reduceIte, Nat.reduceEqDiff, Nat.reduceLeDiff, Nat.reduceBEq, Nat.reduceAdd, Nat.reduceLT, Nat.reduceSub, Nat.reduceMul, Int.reduceEq, Int.reduceLT, Int.reduceLE, Int.reduceNeg, Int.reduceToNat, List.reduceReplicate, Int.ofNat_le, List.getElem?_drop, wrapS hlt2 (by omega : C[i].length ≤ 4611686018427387904)]
      refine ⟨_, by omega, k + 1, by omega, rfl, rfl, fun j h hj => ?_⟩
      by_cases e : j = k
      · subst e; exact ht.1 rfl
      · exact hall2 j h (by omega)
  · simp only [pwA, if_true, if_false, eq_self, nm_eq, reduceCtorEq, ↓reduceIte, Nat.reduceEqDiff, Nat.reduceLeDiff, Nat.reduceBEq, Nat.reduceAdd, Nat.reduceLT, Nat.reduceSub, Nat.reduceMul, Int.reduceEq, Int.reduceLT, Int.reduceLE, Int.reduceNeg, Int.reduceToNat, List.reduceReplicate, Int.ofNat_le, List.getElem?_drop, wrapS hlt (by omega : O.length ≤ 4611686018427387904)]
    refine ⟨_, by omega, i + 1, by omega, rfl, rfl, fun j hj => ?_⟩
    by_cases e : j = i
    · subst e
      refine ⟨by rw [getD_row hiP]; exact hv, by rw [getD_row' hiC]; exact hlen, fun t ht => ?_⟩
      rw [getD_row' hiC] at ht ⊢
      rw [getD_row' ht]
      exact hall2 t ht (by omega)
    · exact hrow j (by omega)
end Go.Proofs
set_option linter.unusedSimpArgs false
set_option linter.unusedVariables false
namespace Go.Proofs
open Go.Ab Go.Lie Go.Grp
variable {σ : PHeap} {K : PV → PHeap → Prop} {O : List Int} {P : List (List Int)} {C : List (List (List Int))} {vO vP vC vx : PV} {s : Nat} {x : List Int}
/-- zeros: t - 1. -/
theorem l07Exponents_ok {t : Nat} {z : Int} (hz : z = (t : Int) - 1) (ht : t ≤ O.length) (hO : FI vO O) (szO : O.length ≤ 1048576) (bO : ∀ o ∈ O, isP o) (hx : FI vx x) (hb : x.length ≤ 1048576) (hk : ∀ b : Bool, (b = true ↔ isTail O t x) → K (.bool b) σ) : PCalls Try.prog 109 [vO, vx, .int .i64 z] σ K := by
  have fl : ∀ {A : Prop}, ¬ A → ((false = true) ↔ A) := fun h => ⟨fun x => (by cases x), fun x => absurd x h⟩
  obtain ⟨wo, ao, rfl⟩ := hO
  obtain ⟨wx, ax, rfl⟩ := hx
  subst hz
  refine pcalls_of_vp mix Try.func109 cf109 rfl ?_
  dsimp only [if109, qI, eI, nI, qD, eD]
  simp only [pwA, if_true, if_false, eq_self, nm_eq, reduceCtorEq, ↓reduceIte, Nat.reduceEqDiff, Nat.reduceLeDiff, Nat.reduceBEq, Nat.reduceAdd, Nat.reduceLT, Nat.reduceSub, Nat.reduceMul, Int.reduceEq, Int.reduceLT, Int.reduceLE, Int.reduceNeg, Int.reduceToNat, List.reduceReplicate, Int.ofNat_le, List.getElem?_drop]
  refine iteI (fun hl => ?_) fun hl => ?_
  rotate_left
  · exact hk _ (fl fun h => hl (by rw [h.1.1]))
  have hl : x.length = O.length := by omega
  refine vp_loop (fun m vs h' => ∃ i : Nat, i ≤ x.length ∧ m = x.length - i ∧ vs = [.fz wo ao O.length (pis O), .fz wx ax x.length (pis x), .int .i64 ((t : Int) - 1), .int .i64 i] ∧ σ = h' ∧ ∀ j, j < i → (0 ≤ at_ x j ∧ at_ x j ≤ at_ O j - 1) ∧ (j < t → at_ x j = 0)) x.length ?_ ?_
  · exact ⟨0, by omega, by omega, rfl, rfl, fun j hj => by omega⟩
  rintro m vs h' ⟨i, hi, rfl, rfl, rfl, hall⟩
  simp only [pwA, if_true, if_false, eq_self, nm_eq, reduceCtorEq, ↓reduceIte, Nat.reduceEqDiff, Nat.reduceLeDiff, Nat.reduceBEq, Nat.reduceAdd, Nat.reduceLT, Nat.reduceSub, Nat.reduceMul, Int.reduceEq, Int.reduceLT, Int.reduceLE, Int.reduceNeg, Int.reduceToNat, List.reduceReplicate, Int.ofNat_le, List.getElem?_drop]
  refine iteI (fun hlt => ?_) fun hge => ?_
  rotate_left
  · refine hk _ ⟨fun _ => ⟨⟨hl, fun j hj => (hall j (by omega)).1⟩, fun y hy => ?_⟩, fun _ => rfl⟩
    rw [List.mem_take_iff_getElem] at hy
    obtain ⟨j, hj, rfl⟩ := hy
    have := (hall j (by omega)).2 (by omega)
    rwa [at_eq (by omega)] at this
  have hO' : i < O.length := by omega
  have bo := (bO _ (List.getElem_mem hO')).bd
  simp only [pwA, if_true, if_false, eq_self, nm_eq, reduceCtorEq, ↓reduceIte, Nat.reduceEqDiff, Nat.reduceLeDiff, Nat.reduceBEq, Nat.reduceAdd, Nat.reduceLT, Nat.reduceSub, Nat.reduceMul, Int.reduceEq, Int.reduceLT, Int.reduceLE, Int.reduceNeg, Int.reduceToNat, List.reduceReplicate, Int.ofNat_le, List.getElem?_drop, hlt, hO', gi hlt, gi hO', pis_get, List.getElem?_drop, wrap64 (n := O[i] - 1) (by omega) (by omega)]
  refine l01In_ok ?_
  by_cases hin : 0 ≤ x[i] ∧ x[i] ≤ O[i] - 1
  rotate_left
  · simp only [pwA, if_true, if_false, eq_self, nm_eq, reduceCtorEq, ↓reduceIte, Nat.reduceEqDiff, Nat.reduceLeDiff, Nat.reduceBEq, Nat.reduceAdd, Nat.reduceLT, Nat.reduceSub, Nat.reduceMul, Int.reduceEq, Int.reduceLT, Int.reduceLE, Int.reduceNeg, Int.reduceToNat, List.reduceReplicate, Int.ofNat_le, List.getElem?_drop, hin]
    exact hk _ (fl fun h => hin (by have := h.1.2 i hlt; rwa [at_eq hlt, at_eq hO'] at this))
  have next : (i < t → x[i] = 0) → ∃ n', n' < x.length - i ∧ ∃ i' : Nat, i' ≤ x.length ∧ n' = x.length - i' ∧ [PV.fz wo ao O.length (pis O), .fz wx ax x.length (pis x), .int .i64 ((t : Int) - 1), .int .i64 ((i + 1 : Nat) : Int)] = [.fz wo ao O.length (pis O), .fz wx ax x.length (pis x), .int .i64 ((t : Int) - 1), .int .i64 i'] ∧ ∀ j, j < i' → (0 ≤ at_ x j ∧ at_ x j ≤ at_ O j - 1) ∧ (j < t → at_ x j = 0) := fun h0 => by
    refine ⟨_, by omega, i + 1, by omega, rfl, rfl, fun j hj => ?_⟩
    by_cases e : j = i
    · subst e; rw [at_eq hlt, at_eq hO']; exact ⟨hin, h0⟩
    · exact hall j (by omega)
  by_cases hle : (i : Int) ≤ (t : Int) - 1
  · simp only [pwA, if_true, if_false, eq_self, nm_eq, reduceCtorEq, ↓reduceIte, Nat.reduceEqDiff, Nat.reduceLeDiff, Nat.reduceBEq, Nat.reduceAdd, Nat.reduceLT, Nat.reduceSub, Nat.reduceMul, Int.reduceEq, Int.reduceLT, Int.reduceLE, Int.reduceNeg, Int.reduceToNat, List.reduceReplicate, Int.ofNat_le, List.getElem?_drop, hin, hle, hlt, gi hlt, pis_get, List.getElem?_drop]
    refine iteI (fun h0 => ?_) fun h0 => ?_
    · simp only [pwA, if_true, if_false, eq_self, nm_eq, reduceCtorEq, ↓reduceIte, Nat.reduceEqDiff, Nat.reduceLeDiff, Nat.reduceBEq, Nat.reduceAdd, Nat.reduceLT, Nat.reduceSub, Nat.reduceMul, Int.reduceEq, Int.reduceLT, Int.reduceLE, Int.reduceNeg, Int.reduceToNat, List.reduceReplicate, Int.ofNat_le, List.getElem?_drop, wrapS hlt (by omega : x.length ≤ 4611686018427387904)]
      exact next fun _ => h0
    · refine hk _ (fl fun h => h0 ?_)
      exact h.2 _ (by rw [List.mem_take_iff_getElem]; exact ⟨i, by omega, rfl⟩)
  · simp only [pwA, if_true, if_false, eq_self, nm_eq, reduceCtorEq, ↓reduceIte, Nat.reduceEqDiff, Nat.reduceLeDiff, Nat.reduceBEq, Nat.reduceAdd, Nat.reduceLT, Nat.reduceSub, Nat.reduceMul, Int.reduceEq, Int.reduceLT, Int.reduceLE, Int.reduceNeg, Int.reduceToNat, List.reduceReplicate, Int.ofNat_le, List.getElem?_drop, hin, hle, hlt, wrapS hlt (by omega : x.length ≤ 4611686018427387904)]
    exact next fun h => absurd h (by omega)
theorem l07Product_ok (hO : FI vO O) (szO : O.length ≤ 6) (bO : ∀ o ∈ O, isP o) (hk : ∀ r : Int, (r ≤ 729 ↔ prodL O ≤ 729) → K (.int .i64 r) σ) : PCalls Try.prog 123 [vO] σ K := by
  obtain ⟨wo, ao, rfl⟩ := hO
  refine pcalls_of_vp mix Try.func123 cf123 rfl ?_
  dsimp only [if123, qI, eI, nI, qD, eD]
  simp only [pwA, if_true, if_false, eq_self, nm_eq, reduceCtorEq, ↓reduceIte, Nat.reduceEqDiff, Nat.reduceLeDiff, Nat.reduceBEq, Nat.reduceAdd, Nat.reduceLT, Nat.reduceSub, Nat.reduceMul, Int.reduceEq, Int.reduceLT, Int.reduceLE, Int.reduceNeg, Int.reduceToNat, List.reduceReplicate, Int.ofNat_le, List.getElem?_drop]
  refine vp_loop (fun m vs h' => ∃ (i : Nat) (r : Int), i ≤ O.length ∧ m = O.length - i ∧ vs = [.fz wo ao O.length (pis O), .int .i64 r, .int .i64 i] ∧ σ = h' ∧ (r = prodL (O.take i) ∨ (729 < r ∧ 729 < prodL (O.take i)))) O.length ?_ ?_
  · exact ⟨0, 1, by omega, by omega, rfl, rfl, .inl (by simp [prodL])⟩
  rintro m vs h' ⟨i, r, hi, rfl, rfl, rfl, hr⟩
  simp only [pwA, if_true, if_false, eq_self, nm_eq, reduceCtorEq, ↓reduceIte, Nat.reduceEqDiff, Nat.reduceLeDiff, Nat.reduceBEq, Nat.reduceAdd, Nat.reduceLT, Nat.reduceSub, Nat.reduceMul, Int.reduceEq, Int.reduceLT, Int.reduceLE, Int.reduceNeg, Int.reduceToNat, List.reduceReplicate, Int.ofNat_le, List.getElem?_drop]
  refine iteI (fun hlt => ?_) fun hge => ?_
  rotate_left
  · have hie : i = O.length := by omega
    subst hie
    rw [List.take_length] at hr
    exact hk _ (by omega)
  have bt : ∀ o ∈ O.take i, isP o := fun o ho => bO o (List.mem_of_mem_take ho)
  have h1 := prodL_pos bt
  have hp := bO _ (List.getElem_mem hlt)
  have hpb := hp.bd
  have hs := prodL_snoc hlt
  refine iteI (fun hle => ?_) fun hgt => ?_
  · have hre : r = prodL (O.take i) := by omega
    subst hre
    have hm1 : 0 ≤ prodL (O.take i) * O[i] := Int.mul_nonneg (by omega) (by omega)
    have hm2 := Int.mul_le_mul hle hpb.2 (by omega) (by omega)
    simp only [pwA, if_true, if_false, eq_self, nm_eq, reduceCtorEq, ↓reduceIte, Nat.reduceEqDiff, Nat.reduceLeDiff, Nat.reduceBEq, Nat.reduceAdd, Nat.reduceLT, Nat.reduceSub, Nat.reduceMul, Int.reduceEq, Int.reduceLT, Int.reduceLE, Int.reduceNeg, Int.reduceToNat, List.reduceReplicate, Int.ofNat_le, List.getElem?_drop, hlt, gi hlt, pis_get, List.getElem?_drop, wrap64 (n := prodL (O.take i) * O[i]) (by omega) (by omega), wrapS hlt (by omega : O.length ≤ 4611686018427387904)]
    exact ⟨_, by omega, i + 1, _, by omega, rfl, rfl, .inl hs.symm⟩
  · simp only [pwA, if_true, if_false, eq_self, nm_eq, reduceCtorEq, ↓reduceIte, Nat.reduceEqDiff, Nat.reduceLeDiff, Nat.reduceBEq, Nat.reduceAdd, Nat.reduceLT, Nat.reduceSub, Nat.reduceMul, Int.reduceEq, Int.reduceLT, Int.reduceLE, Int.reduceNeg, Int.reduceToNat, List.reduceReplicate, Int.ofNat_le, List.getElem?_drop, wrapS hlt (by omega : O.length ≤ 4611686018427387904)]
    refine ⟨_, by omega, i + 1, _, by omega, rfl, rfl, .inr ⟨by omega, ?_⟩⟩
    have hm2 := Int.mul_le_mul (Int.le_refl (prodL (O.take i))) hpb.1 (by omega) (by omega)
    omega
theorem l07IsPresentation_ok (hR : IsPr vO vP vC O P C) (sz : SzP O P C) (hk : ∀ t : Bool, (t = true ↔ isPres O P C) → K (.bool t) σ) : PCalls Try.prog 92 [.agg [vO, vP, vC]] σ K := by
  have hFO := hR.O
  have szP := sz.P
  have szC := sz.C
  obtain ⟨⟨w0, a0, rfl⟩, ⟨w1, a1, rP, rfl, hP⟩, ⟨w3, a3, rC, rfl, hC⟩⟩ := hR
  refine PCalls.gh ?_
  have fin : ∀ {t : Bool} {σ' : PHeap}, (t = true ↔ isPres O P C) → Keep σ σ' → Gh σ K (.bool t) σ' := fun h k => Gh.fin0 k trivial (hk _ h)
  have no : ∀ {σ' : PHeap}, ¬ isPres O P C → Keep σ σ' → Gh σ K (.bool false) σ' := fun h k => fin ⟨fun x => (by cases x), fun x => absurd x h⟩ k
  have hkp := keep_new σ [.fz w0 a0 O.length (pis O), .fz w1 a1 P.length rP, .fz w3 a3 C.length rC]
  refine pcalls_of_vp mix Try.func92 cf92 rfl ?_
  dsimp only [if92, qI, eI, nI, qD, eD]
  simp only [pwA, if_true, if_false, eq_self, nm_eq, reduceCtorEq, ↓reduceIte, Nat.reduceEqDiff, Nat.reduceLeDiff, Nat.reduceBEq, Nat.reduceAdd, Nat.reduceLT, Nat.reduceSub, Nat.reduceMul, Int.reduceEq, Int.reduceLT, Int.reduceLE, Int.reduceNeg, Int.reduceToNat, List.reduceReplicate, Int.ofNat_le, List.getElem?_drop]
  by_cases h6 : O.length ≤ 6
  rotate_left
  · have h6' : (6 : Int) < (O.length : Int) := by omega
    simp only [pwA, if_true, if_false, eq_self, nm_eq, reduceCtorEq, ↓reduceIte, Nat.reduceEqDiff, Nat.reduceLeDiff, Nat.reduceBEq, Nat.reduceAdd, Nat.reduceLT, Nat.reduceSub, Nat.reduceMul, Int.reduceEq, Int.reduceLT, Int.reduceLE, Int.reduceNeg, Int.reduceToNat, List.reduceReplicate, Int.ofNat_le, List.getElem?_drop, h6']
    exact no (fun h => h6 h.1) hkp
  have h6' : ¬ (6 : Int) < (O.length : Int) := by omega
  by_cases hPl : P.length = O.length
  rotate_left
  · have hPl' : ¬ (P.length : Int) = (O.length : Int) := by omega
    simp only [pwA, if_true, if_false, eq_self, nm_eq, reduceCtorEq, ↓reduceIte, Nat.reduceEqDiff, Nat.reduceLeDiff, Nat.reduceBEq, Nat.reduceAdd, Nat.reduceLT, Nat.reduceSub, Nat.reduceMul, Int.reduceEq, Int.reduceLT, Int.reduceLE, Int.reduceNeg, Int.reduceToNat, List.reduceReplicate, Int.ofNat_le, List.getElem?_drop, h6', hPl']
    exact no (fun h => hPl h.2.1) hkp
  have hPl' : (P.length : Int) = (O.length : Int) := by omega
  by_cases hCl : C.length = O.length
  rotate_left
  · have hCl' : ¬ (C.length : Int) = (O.length : Int) := by omega
    simp only [pwA, if_true, if_false, eq_self, nm_eq, reduceCtorEq, ↓reduceIte, Nat.reduceEqDiff, Nat.reduceLeDiff, Nat.reduceBEq, Nat.reduceAdd, Nat.reduceLT, Nat.reduceSub, Nat.reduceMul, Int.reduceEq, Int.reduceLT, Int.reduceLE, Int.reduceNeg, Int.reduceToNat, List.reduceReplicate, Int.ofNat_le, List.getElem?_drop, h6', eq_true hPl', hCl']
    exact no (fun h => hCl h.2.2.1) hkp
  have hCl' : (C.length : Int) = (O.length : Int) := by omega
  simp only [pwA, if_true, if_false, eq_self, nm_eq, reduceCtorEq, ↓reduceIte, Nat.reduceEqDiff, Nat.reduceLeDiff, Nat.reduceBEq, Nat.reduceAdd, Nat.reduceLT, Nat.reduceSub, Nat.reduceMul, Int.reduceEq, Int.reduceLT, Int.reduceLE, Int.reduceNeg, Int.reduceToNat, List.reduceReplicate, Int.ofNat_le, List.getElem?_drop, h6', eq_true hPl', eq_true hCl']
  refine vp_loop (fun m vs h' => ∃ i : Nat, i ≤ O.length ∧ m = O.length - i ∧ vs = [.ptr σ.next 0, .int .i64 O.length, .int .i64 i] ∧ h' = σ.new [.fz w0 a0 O.length (pis O), .fz w1 a1 P.length rP, .fz w3 a3 C.length rC] ∧ (∀ o ∈ O.take i, isP o)) O.length ?_ ?_
  · exact ⟨0, by omega, by omega, rfl, rfl, by simp⟩
  rintro m vs h' ⟨i, hi, rfl, rfl, rfl, hall⟩
  simp only [pwA, if_true, if_false, eq_self, nm_eq, reduceCtorEq, ↓reduceIte, Nat.reduceEqDiff, Nat.reduceLeDiff, Nat.reduceBEq, Nat.reduceAdd, Nat.reduceLT, Nat.reduceSub, Nat.reduceMul, Int.reduceEq, Int.reduceLT, Int.reduceLE, Int.reduceNeg, Int.reduceToNat, List.reduceReplicate, Int.ofNat_le, List.getElem?_drop]
  refine iteI (fun hlt => ?_) fun hge => ?_
  · simp only [pwA, if_true, if_false, eq_self, nm_eq, reduceCtorEq, ↓reduceIte, Nat.reduceEqDiff, Nat.reduceLeDiff, Nat.reduceBEq, Nat.reduceAdd, Nat.reduceLT, Nat.reduceSub, Nat.reduceMul, Int.reduceEq, Int.reduceLT, Int.reduceLE, Int.reduceNeg, Int.reduceToNat, List.reduceReplicate, Int.ofNat_le, List.getElem?_drop, hlt, gi hlt, pis_get, List.getElem?_drop]
    refine l01Prime_ok ?_
    by_cases hp : isP O[i]
    rotate_left
    · simp only [pwA, if_true, if_false, eq_self, nm_eq, reduceCtorEq, ↓reduceIte, Nat.reduceEqDiff, Nat.reduceLeDiff, Nat.reduceBEq, Nat.reduceAdd, Nat.reduceLT, Nat.reduceSub, Nat.reduceMul, Int.reduceEq, Int.reduceLT, Int.reduceLE, Int.reduceNeg, Int.reduceToNat, List.reduceReplicate, Int.ofNat_le, List.getElem?_drop, hp]
      exact no (fun h => hp (h.2.2.2.1 _ (List.getElem_mem hlt))) hkp
    simp only [pwA, if_true, if_false, eq_self, nm_eq, reduceCtorEq, ↓reduceIte, Nat.reduceEqDiff, Nat.reduceLeDiff, Nat.reduceBEq, Nat.reduceAdd, Nat.reduceLT, Nat.reduceSub, Nat.reduceMul, Int.reduceEq, Int.reduceLT, Int.reduceLE, Int.reduceNeg, Int.reduceToNat, List.reduceReplicate, Int.ofNat_le, List.getElem?_drop, hp, wrapS hlt (by omega : O.length ≤ 4611686018427387904)]
    exact ⟨_, by omega, i + 1, by omega, rfl, rfl, forallA_snoc hlt hall hp⟩
  have hie : i = O.length := by omega
  subst hie
  rw [List.take_length] at hall
  simp only [pwA, if_true, if_false, eq_self, nm_eq, reduceCtorEq, ↓reduceIte, Nat.reduceEqDiff, Nat.reduceLeDiff, Nat.reduceBEq, Nat.reduceAdd, Nat.reduceLT, Nat.reduceSub, Nat.reduceMul, Int.reduceEq, Int.reduceLT, Int.reduceLE, Int.reduceNeg, Int.reduceToNat, List.reduceReplicate, Int.ofNat_le, List.getElem?_drop]
  refine l07Product_ok hFO h6 hall fun r hr => ?_
  by_cases hpr : prodL O ≤ 729
  rotate_left
  · have : (729 : Int) < r := by omega
    simp only [pwA, if_true, if_false, eq_self, nm_eq, reduceCtorEq, ↓reduceIte, Nat.reduceEqDiff, Nat.reduceLeDiff, Nat.reduceBEq, Nat.reduceAdd, Nat.reduceLT, Nat.reduceSub, Nat.reduceMul, Int.reduceEq, Int.reduceLT, Int.reduceLE, Int.reduceNeg, Int.reduceToNat, List.reduceReplicate, Int.ofNat_le, List.getElem?_drop, this]
    exact no (fun h => hpr h.2.2.2.2.1) hkp
  have : ¬ (729 : Int) < r := by omega
  simp only [pwA, if_true, if_false, eq_self, nm_eq, reduceCtorEq, ↓reduceIte, Nat.reduceEqDiff, Nat.reduceLeDiff, Nat.reduceBEq, Nat.reduceAdd, Nat.reduceLT, Nat.reduceSub, Nat.reduceMul, Int.reduceEq, Int.reduceLT, Int.reduceLE, Int.reduceNeg, Int.reduceToNat, List.reduceReplicate, Int.ofNat_le, List.getElem?_drop, this]
  refine vp_loop (fun m vs h' => ∃ i : Nat, i ≤ O.length ∧ m = O.length - i ∧ vs = [.ptr σ.next 0, .int .i64 O.length, .int .i64 i] ∧ h' = σ.new [.fz w0 a0 O.length (pis O), .fz w1 a1 P.length rP, .fz w3 a3 C.length rC] ∧ ∀ j, j < i → rowPr O P C j) O.length ?_ ?_
  · exact ⟨0, by omega, by omega, rfl, rfl, fun j hj => by omega⟩
  rintro m vs h' ⟨i, hi, rfl, rfl, rfl, hrow⟩
  simp only [pwA, if_true, if_false, eq_self, nm_eq, reduceCtorEq, ↓reduceIte, Nat.reduceEqDiff, Nat.reduceLeDiff, Nat.reduceBEq, Nat.reduceAdd, Nat.reduceLT, Nat.reduceSub, Nat.reduceMul, Int.reduceEq, Int.reduceLT, Int.reduceLE, Int.reduceNeg, Int.reduceToNat, List.reduceReplicate, Int.ofNat_le, List.getElem?_drop]
  refine iteI (fun hlt => ?_) fun hge => ?_
  rotate_left
  · exact fin ⟨fun _ => ⟨h6, hPl, hCl, hall, hpr, fun j hj => hrow j (by omega)⟩, fun _ => rfl⟩ hkp
  have hiP : i < P.length := by omega
  have hiC : i < C.length := by omega
  obtain ⟨w4, a4, hr⟩ := hP.rowI hiP
  obtain ⟨w5, a5, rs, hrb, hrs⟩ := hC.rowL hiC
  have hwl := szP.r _ (List.getElem_mem hiP)
  have hbl := (szC.r _ (List.getElem_mem hiC)).l
  have bad : (isTail O (i + 1) P[i] → C[i].length = O.length - 1 - i → (∀ k (h : k < C[i].length), isTail O (i + 1) C[i][k]) → False) → ¬ isPres O P C := fun hb hsh => by
    obtain ⟨q1, q3, q4⟩ := hsh.2.2.2.2.2 i hlt
    rw [getD_row hiP] at q1
    rw [getD_row' hiC] at q3
    refine hb q1 q3 fun k h => ?_
    have := q4 k (by rw [getD_row' hiC]; exact h)
    rwa [getD_row' hiC, getD_row' h] at this
  simp only [pwA, if_true, if_false, eq_self, nm_eq, reduceCtorEq, ↓reduceIte, Nat.reduceEqDiff, Nat.reduceLeDiff, Nat.reduceBEq, Nat.reduceAdd, Nat.reduceLT, Nat.reduceSub, Nat.reduceMul, Int.reduceEq, Int.reduceLT, Int.reduceLE, Int.reduceNeg, Int.reduceToNat, List.reduceReplicate, Int.ofNat_le, List.getElem?_drop, hiP, hr, List.getElem?_drop]
  refine l07Exponents_ok (t := i + 1) (by omega) (by omega) hFO sz.O hall ⟨_, _, rfl⟩ hwl fun t ht => ?_
  cases t with
  | false =>
    simp only [pwA, if_true, if_false, eq_self, nm_eq, reduceCtorEq, ↓reduceIte, Nat.reduceEqDiff, Nat.reduceLeDiff, Nat.reduceBEq, Nat.reduceAdd, Nat.reduceLT, Nat.reduceSub, Nat.reduceMul, Int.reduceEq, Int.reduceLT, Int.reduceLE, Int.reduceNeg, Int.reduceToNat, List.reduceReplicate, Int.ofNat_le, List.getElem?_drop]
    exact no (bad fun q _ _ => by cases ht.2 q) hkp
  | true =>
  have hv := ht.1 rfl
  have e1 : IntKind.i64.wrap ((O.length : Int) - 1) = (O.length : Int) - 1 := wrap64 (by omega) (by omega)
  have e2 : IntKind.i64.wrap ((O.length : Int) - 1 - (i : Int)) = (O.length : Int) - 1 - (i : Int) := wrap64 (by omega) (by omega)
  by_cases hlen : C[i].length = O.length - 1 - i
  rotate_left
  · have hlen' : ¬ (C[i].length : Int) = (O.length : Int) - 1 - (i : Int) := by omega
    simp only [pwA, if_true, if_false, eq_self, nm_eq, reduceCtorEq, ↓reduceIte, Nat.reduceEqDiff, Nat.reduceLeDiff, Nat.reduceBEq, Nat.reduceAdd, Nat.reduceLT, Nat.reduceSub, Nat.reduceMul, Int.reduceEq, Int.reduceLT, Int.reduceLE, Int.reduceNeg, Int.reduceToNat, List.reduceReplicate, Int.ofNat_le, List.getElem?_drop, hlt, hiC, hrb, List.getElem?_drop, e1, e2, hlen']
    exact no (bad fun _ q _ => hlen q) hkp
  have hlen' : (C[i].length : Int) = (O.length : Int) - 1 - (i : Int) := by omega
  simp only [pwA, if_true, if_false, eq_self, nm_eq, reduceCtorEq, ↓reduceIte, Nat.reduceEqDiff, Nat.reduceLeDiff, Nat.reduceBEq, Nat.reduceAdd, Nat.reduceLT, Nat.reduceSub, Nat.reduceMul, Int.reduceEq, Int.reduceLT, Int.reduceLE, Int.reduceNeg, Int.reduceToNat, List.reduceReplicate, Int.ofNat_le, List.getElem?_drop, hlt, hiC, hrb, List.getElem?_drop, e1, e2, eq_true hlen']
  refine vp_loop (fun m vs h' => ∃ k : Nat, k ≤ C[i].length ∧ m = C[i].length - k ∧ vs = [.ptr σ.next 0, .int .i64 O.length, .int .i64 i, .int .i64 k] ∧
    h' = σ.new [.fz w0 a0 O.length (pis O), .fz w1 a1 P.length rP, .fz w3 a3 C.length rC] ∧ ∀ j (h : j < C[i].length), j < k → isTail O (i + 1) C[i][j]) C[i].length ?_ ?_
  · exact ⟨0, by omega, by omega, rfl, rfl, fun j h hj => by omega⟩
  rintro m vs h' ⟨k, hk', rfl, rfl, rfl, hall2⟩
  simp only [pwA, if_true, if_false, eq_self, nm_eq, reduceCtorEq, ↓reduceIte, Nat.reduceEqDiff, Nat.reduceLeDiff, Nat.reduceBEq, Nat.reduceAdd, Nat.reduceLT, Nat.reduceSub, Nat.reduceMul, Int.reduceEq, Int.reduceLT, Int.reduceLE, Int.reduceNeg, Int.reduceToNat, List.reduceReplicate, Int.ofNat_le, List.getElem?_drop, hiC, hrb, List.getElem?_drop]
  refine iteI (fun hlt2 => ?_) fun hge => ?_
  · obtain ⟨w6, a6, hrk⟩ := hrs.rowI hlt2
    have hcl := (szC.r _ (List.getElem_mem hiC)).r _ (List.getElem_mem hlt2)
    simp only [pwA, if_true, if_false, eq_self, nm_eq, reduceCtorEq, ↓reduceIte, Nat.reduceEqDiff, Nat.reduceLeDiff, Nat.reduceBEq, Nat.reduceAdd, Nat.reduceLT, Nat.reduceSub, Nat.reduceMul, Int.reduceEq, Int.reduceLT, Int.reduceLE, Int.reduceNeg, Int.reduceToNat, List.reduceReplicate, Int.ofNat_le, List.getElem?_drop, hiC, hrb, hlt2, hrk, List.getElem?_drop]
    refine l07Exponents_ok (t := i + 1) (by omega) (by omega) hFO sz.O hall ⟨_, _, rfl⟩ hcl fun t ht => ?_
    cases t with
    | false =>
      simp only [pwA, if_true, if_false, eq_self, nm_eq, reduceCtorEq, ↓reduceIte, Nat.reduceEqDiff, Nat.reduceLeDiff, Nat.reduceBEq, Nat.reduceAdd, Nat.reduceLT, Nat.reduceSub, Nat.reduceMul, Int.reduceEq, Int.reduceLT, Int.reduceLE, Int.reduceNeg, Int.reduceToNat, List.reduceReplicate, Int.ofNat_le, List.getElem?_drop]
      exact no (bad fun _ _ q => by cases ht.2 (q k hlt2)) hkp
    | true =>
      simp only [pwA, if_true, if_false, eq_self, nm_eq, reduceCtorEq, ↓reduceIte, Nat.reduceEqDiff, Nat.reduceLeDiff, Nat.reduceBEq, Nat.reduceAdd, Nat.reduceLT, Nat.reduceSub, Nat.reduceMul, Int.reduceEq, Int.reduceLT, Int.reduceLE, Int.reduceNeg, Int.reduceToNat, List.reduceReplicate, Int.ofNat_le, List.getElem?_drop, wrapS hlt2 (by omega : C[i].length ≤ 4611686018427387904)]
      refine ⟨_, by omega, k + 1, by omega, rfl, rfl, fun j h hj => ?_⟩
      by_cases e : j = k
      · subst e; exact ht.1 rfl
      · exact hall2 j h (by omega)
  · simp only [pwA, if_true, if_false, eq_self, nm_eq, reduceCtorEq, ↓reduceIte, Nat.reduceEqDiff, Nat.reduceLeDiff, Nat.reduceBEq, Nat.reduceAdd, Nat.reduceLT, Nat.reduceSub, Nat.reduceMul, Int.reduceEq, Int.reduceLT, Int.reduceLE, Int.reduceNeg, Int.reduceToNat, List.reduceReplicate, Int.ofNat_le, List.getElem?_drop, wrapS hlt (by omega : O.length ≤ 4611686018427387904)]
    refine ⟨_, by omega, i + 1, by omega, rfl, rfl, fun j hj => ?_⟩
    by_cases e : j = i
    · subst e
      refine ⟨by rw [getD_row hiP]; exact hv, by rw [getD_row' hiC]; exact hlen, fun t ht => ?_⟩
      rw [getD_row' hiC] at ht ⊢
      rw [getD_row' ht]
      exact hall2 t ht (by omega)
    · exact hrow j (by omega)
end Go.Proofs
set_option linter.unusedSimpArgs false
set_option linter.unusedVariables false
namespace Go.Proofs
open Go.Ab Go.Lie Go.Grp
variable {σ : PHeap} {K : PV → PHeap → Prop} {O O' : List Int} {P P' : List (List Int)} {C C' : List (List (List Int))} {vO vP vC vO' vP' vC' : PV}
/-- Lengths as they may be of what lies in memory. -/
structure MxP (O : List Int) (P : List (List Int)) (C : List (List (List Int))) : Prop where
  o : O.length ≤ 9223372036854775807
  a : P.length ≤ 9223372036854775807
  b : ∀ x ∈ P, x.length ≤ 9223372036854775807
  c : C.length ≤ 9223372036854775807
  d : ∀ q ∈ C, q.length ≤ 9223372036854775807 ∧ ∀ x ∈ q, x.length ≤ 9223372036854775807
theorem szPresentation_ok {l : Int} (hR : IsPr vO vP vC O P C) (mx : MxP O P C) (hl : left_ l) (hk : ∀ r : Int, (r = -1 ∨ (left_ r ∧ SzP O P C)) → K (.int .i64 r) σ) : PCalls Try.prog 12 [.agg [vO, vP, vC], .int .i64 l] σ K := by
  have h0 := hR.O.one
  have h1 := hR.P.one
  have h2 := hR.C.one
  refine PCalls.gh ?_
  have hkp := keep_new σ [vO, vP, vC]
  refine pcalls_of_vp mix Try.func12 cf12 rfl ?_
  dsimp only [if12, qI, eI, nI, qD, eD]
  simp only [pwA, if_true, if_false, eq_self, nm_eq, reduceCtorEq, ↓reduceIte, Nat.reduceEqDiff, Nat.reduceLeDiff, Nat.reduceBEq, Nat.reduceAdd, Nat.reduceLT, Nat.reduceSub, Nat.reduceMul, Int.reduceEq, Int.reduceLT, Int.reduceLE, Int.reduceNeg, Int.reduceToNat, List.reduceReplicate, Int.ofNat_le, List.getElem?_drop, h0, h1, h2]
  refine szInt64S_ok hR.O mx.o hl fun r h => ?_
  rcases h with rfl | ⟨f1, f2⟩
  · simp only [pwA, if_true, if_false, eq_self, nm_eq, reduceCtorEq, ↓reduceIte, Nat.reduceEqDiff, Nat.reduceLeDiff, Nat.reduceBEq, Nat.reduceAdd, Nat.reduceLT, Nat.reduceSub, Nat.reduceMul, Int.reduceEq, Int.reduceLT, Int.reduceLE, Int.reduceNeg, Int.reduceToNat, List.reduceReplicate, Int.ofNat_le, List.getElem?_drop]
    exact Gh.fin0 hkp trivial (hk _ (.inl rfl))
  have : ¬ r < 0 := by unfold left_ at f1; omega
  simp only [pwA, if_true, if_false, eq_self, nm_eq, reduceCtorEq, ↓reduceIte, Nat.reduceEqDiff, Nat.reduceLeDiff, Nat.reduceBEq, Nat.reduceAdd, Nat.reduceLT, Nat.reduceSub, Nat.reduceMul, Int.reduceEq, Int.reduceLT, Int.reduceLE, Int.reduceNeg, Int.reduceToNat, List.reduceReplicate, Int.ofNat_le, List.getElem?_drop, this, h0, h1, h2]
  refine szInt64SS_ok hR.P mx.a mx.b f1 fun r h => ?_
  rcases h with rfl | ⟨g1, g2⟩
  · simp only [pwA, if_true, if_false, eq_self, nm_eq, reduceCtorEq, ↓reduceIte, Nat.reduceEqDiff, Nat.reduceLeDiff, Nat.reduceBEq, Nat.reduceAdd, Nat.reduceLT, Nat.reduceSub, Nat.reduceMul, Int.reduceEq, Int.reduceLT, Int.reduceLE, Int.reduceNeg, Int.reduceToNat, List.reduceReplicate, Int.ofNat_le, List.getElem?_drop]
    exact Gh.fin0 hkp trivial (hk _ (.inl rfl))
  have : ¬ r < 0 := by unfold left_ at g1; omega
  simp only [pwA, if_true, if_false, eq_self, nm_eq, reduceCtorEq, ↓reduceIte, Nat.reduceEqDiff, Nat.reduceLeDiff, Nat.reduceBEq, Nat.reduceAdd, Nat.reduceLT, Nat.reduceSub, Nat.reduceMul, Int.reduceEq, Int.reduceLT, Int.reduceLE, Int.reduceNeg, Int.reduceToNat, List.reduceReplicate, Int.ofNat_le, List.getElem?_drop, this, h0, h1, h2]
  refine szInt64SSS_ok hR.C mx.c mx.d g1 fun r' h => ?_
  rcases h with rfl | ⟨g3, g4⟩
  · simp only [pwA, if_true, if_false, eq_self, nm_eq, reduceCtorEq, ↓reduceIte, Nat.reduceEqDiff, Nat.reduceLeDiff, Nat.reduceBEq, Nat.reduceAdd, Nat.reduceLT, Nat.reduceSub, Nat.reduceMul, Int.reduceEq, Int.reduceLT, Int.reduceLE, Int.reduceNeg, Int.reduceToNat, List.reduceReplicate, Int.ofNat_le, List.getElem?_drop]
    exact Gh.fin0 hkp trivial (hk _ (.inl rfl))
  have : ¬ r' < 0 := by unfold left_ at g3; omega
  simp only [pwA, if_true, if_false, eq_self, nm_eq, reduceCtorEq, ↓reduceIte, Nat.reduceEqDiff, Nat.reduceLeDiff, Nat.reduceBEq, Nat.reduceAdd, Nat.reduceLT, Nat.reduceSub, Nat.reduceMul, Int.reduceEq, Int.reduceLT, Int.reduceLE, Int.reduceNeg, Int.reduceToNat, List.reduceReplicate, Int.ofNat_le, List.getElem?_drop, this]
  exact Gh.fin0 hkp trivial (hk _ (.inr ⟨g3, f2, g2, g4⟩))
theorem toPresentation_fz (hR : IsPr vO vP vC O P C) (sz : SzP O P C) (hk : ∀ vO vP vC, IsPr vO vP vC O P C → K (.agg [vO, vP, vC]) σ) : PCalls Try.prog 15 [.agg [vO, vP, vC]] σ K := by
  have h0 := hR.O.one
  have h1 := hR.P.one
  have h2 := hR.C.one
  refine PCalls.gh ?_
  refine pcalls_of_vp mix Try.func15 cf15 rfl ?_
  dsimp only [if15, qI, eI, nI, qD, eD]
  simp only [pwA, if_true, if_false, eq_self, nm_eq, reduceCtorEq, ↓reduceIte, Nat.reduceEqDiff, Nat.reduceLeDiff, Nat.reduceBEq, Nat.reduceAdd, Nat.reduceLT, Nat.reduceSub, Nat.reduceMul, Int.reduceEq, Int.reduceLT, Int.reduceLE, Int.reduceNeg, Int.reduceToNat, List.reduceReplicate, Int.ofNat_le, List.getElem?_drop, h0, h1, h2]
  refine toInt64S_fz hR.O sz.O fun v0 hv0 => ?_
  simp only [pwA, if_true, if_false, eq_self, nm_eq, reduceCtorEq, ↓reduceIte, Nat.reduceEqDiff, Nat.reduceLeDiff, Nat.reduceBEq, Nat.reduceAdd, Nat.reduceLT, Nat.reduceSub, Nat.reduceMul, Int.reduceEq, Int.reduceLT, Int.reduceLE, Int.reduceNeg, Int.reduceToNat, List.reduceReplicate, Int.ofNat_le, List.getElem?_drop, hv0.cells, hv0.one]
  refine toInt64SS_fz hR.P sz.P fun v1 hv1 => ?_
  simp only [pwA, if_true, if_false, eq_self, nm_eq, reduceCtorEq, ↓reduceIte, Nat.reduceEqDiff, Nat.reduceLeDiff, Nat.reduceBEq, Nat.reduceAdd, Nat.reduceLT, Nat.reduceSub, Nat.reduceMul, Int.reduceEq, Int.reduceLT, Int.reduceLE, Int.reduceNeg, Int.reduceToNat, List.reduceReplicate, Int.ofNat_le, List.getElem?_drop, hv0.one, hv1.cells, hv1.one]
  refine toInt64SSS_fz hR.C sz.C fun v2 hv2 => ?_
  simp only [pwA, if_true, if_false, eq_self, nm_eq, reduceCtorEq, ↓reduceIte, Nat.reduceEqDiff, Nat.reduceLeDiff, Nat.reduceBEq, Nat.reduceAdd, Nat.reduceLT, Nat.reduceSub, Nat.reduceMul, Int.reduceEq, Int.reduceLT, Int.reduceLE, Int.reduceNeg, Int.reduceToNat, List.reduceReplicate, Int.ofNat_le, List.getElem?_drop, hv2.cells, hv2.one, hv1.one, hv0.one]
  exact Gh.fin0 (v := .agg [v0, v1, v2]) (((keep_new σ _).new _).new _) ⟨hv0.bel _, hv1.bel _, hv2.bel _, trivial⟩ (hk v0 v1 v2 ⟨hv0, hv1, hv2⟩)
theorem eqPresentation_ok (hR : IsPr vO vP vC O P C) (hR' : IsPr vO' vP' vC' O' P' C') (sz : SzP O P C) (hk : ∀ t : Bool, (t = true ↔ O = O' ∧ P = P' ∧ C = C') → K (.bool t) σ) : PCalls Try.prog 18 [.agg [vO, vP, vC], .agg [vO', vP', vC']] σ K := by
  have h0 := hR.O.one
  have h1 := hR.P.one
  have h2 := hR.C.one
  have h0' := hR'.O.one
  have h1' := hR'.P.one
  have h2' := hR'.C.one
  refine PCalls.gh ?_
  have hkp : Keep σ ((σ.new [vO, vP, vC]).new [vO', vP', vC']) := (keep_new σ _).new _
  have fin : ∀ {t : Bool}, (t = true ↔ O = O' ∧ P = P' ∧ C = C') → Gh σ K (.bool t) ((σ.new [vO, vP, vC]).new [vO', vP', vC']) := fun h => Gh.fin0 hkp trivial (hk _ h)
  have fl : ∀ {A : Prop}, ¬ A → ((false = true) ↔ A) := fun h => ⟨fun x => (by cases x), fun x => absurd x h⟩
  refine pcalls_of_vp mix Try.func18 cf18 rfl ?_
  dsimp only [if18, qI, eI, nI, qD, eD]
  simp only [pwA, if_true, if_false, eq_self, nm_eq, reduceCtorEq, ↓reduceIte, Nat.reduceEqDiff, Nat.reduceLeDiff, Nat.reduceBEq, Nat.reduceAdd, Nat.reduceLT, Nat.reduceSub, Nat.reduceMul, Int.reduceEq, Int.reduceLT, Int.reduceLE, Int.reduceNeg, Int.reduceToNat, List.reduceReplicate, Int.ofNat_le, List.getElem?_drop, h0, h1, h2, h0', h1', h2']
  refine eqInt64S_ok hR.O hR'.O (by have := sz.O; omega) ?_
  by_cases ho : O = O'
  rotate_left
  · simp only [pwA, if_true, if_false, eq_self, nm_eq, reduceCtorEq, ↓reduceIte, Nat.reduceEqDiff, Nat.reduceLeDiff, Nat.reduceBEq, Nat.reduceAdd, Nat.reduceLT, Nat.reduceSub, Nat.reduceMul, Int.reduceEq, Int.reduceLT, Int.reduceLE, Int.reduceNeg, Int.reduceToNat, List.reduceReplicate, Int.ofNat_le, List.getElem?_drop, ho]
    exact fin (fl fun h => ho h.1)
  simp only [pwA, if_true, if_false, eq_self, nm_eq, reduceCtorEq, ↓reduceIte, Nat.reduceEqDiff, Nat.reduceLeDiff, Nat.reduceBEq, Nat.reduceAdd, Nat.reduceLT, Nat.reduceSub, Nat.reduceMul, Int.reduceEq, Int.reduceLT, Int.reduceLE, Int.reduceNeg, Int.reduceToNat, List.reduceReplicate, Int.ofNat_le, List.getElem?_drop, eq_true ho, h0, h1, h2, h0', h1', h2']
  refine eqInt64SS_ok hR.P hR'.P sz.P fun t ht => ?_
  cases t with
  | false =>
    simp only [pwA, if_true, if_false, eq_self, nm_eq, reduceCtorEq, ↓reduceIte, Nat.reduceEqDiff, Nat.reduceLeDiff, Nat.reduceBEq, Nat.reduceAdd, Nat.reduceLT, Nat.reduceSub, Nat.reduceMul, Int.reduceEq, Int.reduceLT, Int.reduceLE, Int.reduceNeg, Int.reduceToNat, List.reduceReplicate, Int.ofNat_le, List.getElem?_drop]
    exact fin (fl fun h => by cases ht.2 h.2.1)
  | true =>
  simp only [pwA, if_true, if_false, eq_self, nm_eq, reduceCtorEq, ↓reduceIte, Nat.reduceEqDiff, Nat.reduceLeDiff, Nat.reduceBEq, Nat.reduceAdd, Nat.reduceLT, Nat.reduceSub, Nat.reduceMul, Int.reduceEq, Int.reduceLT, Int.reduceLE, Int.reduceNeg, Int.reduceToNat, List.reduceReplicate, Int.ofNat_le, List.getElem?_drop, h0, h1, h2, h0', h1', h2']
  refine eqInt64SSS_ok hR.C hR'.C sz.C fun t ht' => ?_
  have := fin (t := t) ⟨fun h => ⟨ho, ht.1 rfl, ht'.1 h⟩, fun h => ht'.2 h.2.2⟩
  cases t with
  | false =>
    simp only [pwA, if_true, if_false, eq_self, nm_eq, reduceCtorEq, ↓reduceIte, Nat.reduceEqDiff, Nat.reduceLeDiff, Nat.reduceBEq, Nat.reduceAdd, Nat.reduceLT, Nat.reduceSub, Nat.reduceMul, Int.reduceEq, Int.reduceLT, Int.reduceLE, Int.reduceNeg, Int.reduceToNat, List.reduceReplicate, Int.ofNat_le, List.getElem?_drop]
    exact this
  | true =>
    simp only [pwA, if_true, if_false, eq_self, nm_eq, reduceCtorEq, ↓reduceIte, Nat.reduceEqDiff, Nat.reduceLeDiff, Nat.reduceBEq, Nat.reduceAdd, Nat.reduceLT, Nat.reduceSub, Nat.reduceMul, Int.reduceEq, Int.reduceLT, Int.reduceLE, Int.reduceNeg, Int.reduceToNat, List.reduceReplicate, Int.ofNat_le, List.getElem?_drop]
    exact this
end Go.Proofs
set_option linter.unusedVariables false
set_option linter.unusedSimpArgs false
namespace Go.Mx
open Go.Ab Go.Lie Go.Grp
variable {p : Int} {n m d : Nat} {v w : List Int} {A B C : List (List Int)}
def row (A : List (List Int)) (i : Nat) : List Int := A.getD i []
def vstep (p : Int) (x : Int) (r out : List Int) : List Int := List.zipWith (fun o b => (o + x * b) % p) out r
/-- The first i entries of v times the rows of A. -/
def vmul (p : Int) (n : Nat) (v : List Int) (A : List (List Int)) : Nat → List Int
  | 0 => List.replicate n 0
  | i + 1 => vstep p (at_ v i) (row A i) (vmul p n v A i)
abbrev vt (p : Int) (n : Nat) (v : List Int) (A : List (List Int)) : List Int := vmul p n v A v.length
end Go.Mx
set_option linter.unusedVariables false
set_option linter.unusedSimpArgs false
namespace Go.Mx
open Go.Ab Go.Lie Go.Grp
variable {p : Int} {n d : Nat} {As : List (List (List Int))} {X : List (List Int)}
/-- The normal word of the first i entries. -/
def nword (x : List Int) : Nat → List Int
  | 0 => []
  | i + 1 => nword x i ++ List.replicate (nx x i) ((i : Int) + 1)
abbrev nw (x : List Int) : List Int := nword x x.length
abbrev mat (As : List (List (List Int))) (i : Nat) : List (List Int) := As.getD i []
variable {O : List Int} {P : List (List Int)} {C : List (List (List Int))}
/-- v plus c times w. -/
def vadd (p c : Int) (v w : List Int) : List Int := vstep p c w v
/-- The step of a derivation's value by a generator. -/
abbrev vs (p : Int) (n : Nat) (As : List (List (List Int))) (vals : List (List Int)) (v : List Int) (i : Nat) : List Int := vadd p 1 (vt p n v (mat As i)) (vals.getD i [])
end Go.Mx
