/- Numbers and lists of numbers. -/
import Derived.Test.YtngdcibjjomfjaaCAbPy
import Derived.Test.YtngdcibjjomfjaaChecked
namespace Go.Proofs
open Go.Ab
theorem mix : Try.prog.follows .mixedOrders = true := by kernel_rfl
/-- loop.example/g01076/laws.szLieRing -/
def if11 : IFn := ⟨[0, 1], [(.tmp 4)], (.seq (.region [1, 2] [eI 2 (.box (.t 0)), qI 4 (.mv (.c (.int .i64 0)))])
  (.seq (.region [1, 2] [qI 5 (.fieldAddr 1 (.t 2)), qI 6 (.load false 1 (.t 5)), qI 7 (.mv (.t 1)), eI 8 (.call 42 [(.t 6), (.t 7)]), qI 1 (.mv (.t 8))])
  (.seq (.seq (.region [1, 2, 10] [qI 9 (.mv (.t 1)), qI 10 (.bin .lss .other (.t 9) (.c (.int .i64 0)))])
  (.cond (.t 10) (.seq (.region [4] [qI 4 (.mv (.c (.int .i64 (-1))))])
  .ret) .skip))
  (.seq (.region [1] [qI 11 (.fieldAddr 2 (.t 2)), qI 12 (.load false 1 (.t 11)), qI 13 (.mv (.t 1)), eI 14 (.call 43 [(.t 12), (.t 13)]), qI 1 (.mv (.t 14))])
  (.seq (.seq (.region [1, 16] [qI 15 (.mv (.t 1)), qI 16 (.bin .lss .other (.t 15) (.c (.int .i64 0)))])
  (.cond (.t 16) (.seq (.region [4] [qI 4 (.mv (.c (.int .i64 (-1))))])
  .ret) .skip))
  (.seq (.region [4] [qI 17 (.mv (.t 1)), qI 4 (.mv (.t 17))])
  .ret))))))⟩
theorem cf11 : cF Try.prog Try.f11 = some if11 := by kernel_rfl
/-- loop.example/g01076/laws.toLieRing -/
def if13 : IFn := ⟨[0], [(.cell 2 true 3)], (.seq (.region [1, 2] [eI 1 (.box (.t 0)), eI 2 (.alloc [(.int .i64 0), .nils, .nils])])
  (.seq (.region [1, 2, 3] [eI 3 (.alloc [(.int .i64 0), .nils, .nils])])
  (.seq (.region [1, 2, 3] [qI 4 (.fieldAddr 0 (.t 1)), qI 5 (.load false 1 (.t 4)), qI 6 (.fieldAddr 0 (.t 3)), nI (.store 1 (.t 6) (.t 5))])
  (.seq (.region [1, 2, 3] [qI 7 (.fieldAddr 1 (.t 1)), qI 8 (.load false 1 (.t 7)), eI 9 (.call 46 [(.t 8)]), qI 10 (.fieldAddr 1 (.t 3)), nI (.store 1 (.t 10) (.t 9))])
  (.seq (.region [2, 3] [qI 11 (.fieldAddr 2 (.t 1)), qI 12 (.load false 1 (.t 11)), eI 13 (.call 47 [(.t 12)]), qI 14 (.fieldAddr 2 (.t 3)), nI (.store 1 (.t 14) (.t 13))])
  (.seq (.region [2] [qI 15 (.load true 3 (.t 3)), nI (.store 3 (.t 2) (.t 15))])
  .ret))))))⟩
theorem cf13 : cF Try.prog Try.f13 = some if13 := by kernel_rfl
/-- loop.example/g01076/laws.toInt64S -/
def if14 : IFn := ⟨[0], [(.tmp 2)], (.seq (.region [0] [qI 2 (.mv (.c .nils))])
  (.seq (.region [0, 3] [qI 5 (.mv (.t 0)), qI 6 (.len (.t 5)), eI 7 (.makeSl 1 8 [(.int .i64 0)] (.t 6) (.t 6)), qI 3 (.mv (.t 7))])
  (.seq (.seq (.region [0, 3, 4] [qI 4 (.mv (.c (.int .i64 0)))])
  (.block 0 (.loop [0, 3, 4] (.seq (.seq (.region [0, 3, 4, 11] [qI 8 (.mv (.t 4)), qI 9 (.mv (.t 0)), qI 10 (.len (.t 9)), qI 11 (.bin .lss .other (.t 8) (.t 10))])
  (.cond (.t 11) .skip (.exit 0)))
  (.seq (.block 1 (.region [0, 3, 4] [qI 14 (.mv (.t 3)), qI 15 (.mv (.t 4)), qI 16 (.mv (.t 0)), qI 17 (.mv (.t 4)), qI 18 (.indexAddr 1 (.t 16) (.t 17)), qI 19 (.load false 1 (.t 18)), qI 20 (.indexAddr 1 (.t 14) (.t 15)), nI (.store 1 (.t 20) (.t 19))]))
  (.region [0, 3, 4] [qI 12 (.mv (.t 4)), qI 13 (.bin .add .other (.t 12) (.c (.int .i64 1))), qI 4 (.mv (.t 13))]))))))
  (.seq (.region [2] [qI 21 (.mv (.t 3)), qI 2 (.mv (.t 21))])
  .ret))))⟩
theorem cf14 : cF Try.prog Try.f14 = some if14 := by kernel_rfl
/-- loop.example/g01076/laws.eqInt64S -/
def if16 : IFn := ⟨[0, 1], [(.tmp 4)], (.seq (.region [0, 1] [qI 4 (.mv (.c (.bool false)))])
  (.seq (.seq (.region [0, 1, 10] [qI 6 (.mv (.t 0)), qI 7 (.len (.t 6)), qI 8 (.mv (.t 1)), qI 9 (.len (.t 8)), qI 10 (.bin .neq .other (.t 7) (.t 9))])
  (.cond (.t 10) (.seq (.region [4] [qI 4 (.mv (.c (.bool false)))])
  .ret) .skip))
  (.seq (.seq (.region [0, 1, 5] [qI 5 (.mv (.c (.int .i64 0)))])
  (.block 0 (.loop [0, 1, 5] (.seq (.seq (.region [0, 1, 5, 14] [qI 11 (.mv (.t 5)), qI 12 (.mv (.t 0)), qI 13 (.len (.t 12)), qI 14 (.bin .lss .other (.t 11) (.t 13))])
  (.cond (.t 14) .skip (.exit 0)))
  (.seq (.block 1 (.seq (.draw [0, 1, 5, 25] [] [qD 17 (.mv (.t 0)) 0, qD 18 (.mv (.t 5)) 1, qD 19 (.indexAddr 1 (.t 17) (.t 18)) 2, qD 20 (.load false 1 (.t 19)) 3, qD 21 (.mv (.t 1)) 4, qD 22 (.mv (.t 5)) 5, qD 23 (.indexAddr 1 (.t 21) (.t 22)) 6, qD 24 (.load false 1 (.t 23)) 7, qD 25 (.bin .neq .other (.t 20) (.t 24)) 8])
  (.cond (.t 25) (.seq (.region [4] [qI 4 (.mv (.c (.bool false)))])
  .ret) .skip)))
  (.region [0, 1, 5] [qI 15 (.mv (.t 5)), qI 16 (.bin .add .other (.t 15) (.c (.int .i64 1))), qI 5 (.mv (.t 16))]))))))
  (.seq (.region [4] [qI 4 (.mv (.c (.bool true)))])
  .ret))))⟩
theorem cf16 : cF Try.prog Try.f16 = some if16 := by kernel_rfl
/-- loop.example/g01076/laws.eqLieRing -/
def if17 : IFn := ⟨[0, 1], [(.tmp 4)], (.seq (.region [2, 3] [eI 2 (.box (.t 0)), eI 3 (.box (.t 1)), qI 4 (.mv (.c (.bool false)))])
  (.seq (.seq (.region [2, 3, 9] [qI 5 (.fieldAddr 0 (.t 2)), qI 6 (.load false 1 (.t 5)), qI 7 (.fieldAddr 0 (.t 3)), qI 8 (.load false 1 (.t 7)), qI 9 (.bin .neq .other (.t 6) (.t 8))])
  (.cond (.t 9) (.seq (.region [4] [qI 4 (.mv (.c (.bool false)))])
  .ret) .skip))
  (.seq (.seq (.region [2, 3, 15] [qI 10 (.fieldAddr 1 (.t 2)), qI 11 (.load false 1 (.t 10)), qI 12 (.fieldAddr 1 (.t 3)), qI 13 (.load false 1 (.t 12)), eI 14 (.call 50 [(.t 11), (.t 13)]), qI 15 (.un .not (.t 14))])
  (.cond (.t 15) (.seq (.region [4] [qI 4 (.mv (.c (.bool false)))])
  .ret) .skip))
  (.seq (.seq (.region [21] [qI 16 (.fieldAddr 2 (.t 2)), qI 17 (.load false 1 (.t 16)), qI 18 (.fieldAddr 2 (.t 3)), qI 19 (.load false 1 (.t 18)), eI 20 (.call 51 [(.t 17), (.t 19)]), qI 21 (.un .not (.t 20))])
  (.cond (.t 21) (.seq (.region [4] [qI 4 (.mv (.c (.bool false)))])
  .ret) .skip))
  (.seq (.region [4] [qI 4 (.mv (.c (.bool true)))])
  .ret)))))⟩
theorem cf17 : cF Try.prog Try.f17 = some if17 := by kernel_rfl
/-- loop.example/g01076/spec.CountLieAutomorphisms -/
def if23 : IFn := ⟨[0], [(.tmp 2), (.tmp 3)], (.seq (.region [1] [eI 1 (.box (.t 0)), qI 2 (.mv (.c (.int .i64 0))), qI 3 (.mv (.c (.int .i64 0)))])
  (.seq (.seq (.region [1, 9] [qI 7 (.load true 3 (.t 1)), eI 8 (.call 56 [(.t 7)]), qI 9 (.un .not (.t 8))])
  (.cond (.t 9) (.seq (.region [2, 3] [qI 2 (.mv (.c (.int .i64 0))), qI 3 (.mv (.c (.int .i64 1)))])
  .ret) .skip))
  (.seq (.seq (.region [1, 16] [qI 10 (.fieldAddr 0 (.t 1)), qI 11 (.load false 1 (.t 10)), qI 12 (.fieldAddr 1 (.t 1)), qI 13 (.load false 1 (.t 12)), qI 14 (.len (.t 13)), eI 15 (.call 57 [(.t 11), (.t 14)]), qI 16 (.bin .gtr .other (.t 15) (.c (.int .i64 27)))])
  (.cond (.t 16) (.seq (.region [2, 3] [qI 2 (.mv (.c (.int .i64 0))), qI 3 (.mv (.c (.int .i64 3)))])
  .ret) .skip))
  (.seq (.region [1, 4] [qI 17 (.fieldAddr 1 (.t 1)), qI 18 (.load false 1 (.t 17)), qI 19 (.len (.t 18)), qI 4 (.mv (.t 19))])
  (.seq (.region [1, 4, 5] [qI 20 (.mv (.t 4)), eI 21 (.makeSl 1 24 [.nils] (.t 20) (.t 20)), qI 5 (.mv (.t 21))])
  (.seq (.seq (.region [1, 4, 5, 6] [qI 6 (.mv (.c (.int .i64 0)))])
  (.block 0 (.loop [1, 4, 5, 6] (.seq (.seq (.region [1, 4, 5, 6, 24] [qI 22 (.mv (.t 6)), qI 23 (.mv (.t 4)), qI 24 (.bin .lss .other (.t 22) (.t 23))])
  (.cond (.t 24) .skip (.exit 0)))
  (.seq (.block 1 (.region [1, 4, 5, 6] [qI 27 (.mv (.t 5)), qI 28 (.mv (.t 6)), qI 29 (.load true 3 (.t 1)), eI 30 (.call 58 [(.t 29)]), qI 31 (.indexAddr 1 (.t 27) (.t 28)), nI (.store 1 (.t 31) (.t 30))]))
  (.region [1, 4, 5, 6] [qI 25 (.mv (.t 6)), qI 26 (.bin .add .other (.t 25) (.c (.int .i64 1))), qI 6 (.mv (.t 26))]))))))
  (.seq (.region [2, 3] [qI 32 (.load true 3 (.t 1)), qI 33 (.mv (.t 5)), qI 34 (.mv (.t 4)), eI 35 (.call 59 [(.t 32), (.t 33), (.t 34)]), qI 2 (.mv (.t 35)), qI 3 (.mv (.c (.int .i64 0)))])
  .ret)))))))⟩
theorem cf23 : cF Try.prog Try.f23 = some if23 := by kernel_rfl
/-- loop.example/g01076/impl.CountLieAutomorphisms -/
def if24 : IFn := ⟨[0], [(.tmp 2), (.tmp 3)], (.seq (.region [1] [eI 1 (.box (.t 0)), qI 2 (.mv (.c (.int .i64 0))), qI 3 (.mv (.c (.int .i64 0)))])
  (.seq (.seq (.region [1, 6] [qI 4 (.load true 3 (.t 1)), eI 5 (.call 60 [(.t 4)]), qI 6 (.un .not (.t 5))])
  (.cond (.t 6) (.seq (.region [2, 3] [qI 2 (.mv (.c (.int .i64 0))), qI 3 (.mv (.c (.int .i64 1)))])
  .ret) .skip))
  (.seq (.seq (.region [1, 13] [qI 7 (.fieldAddr 0 (.t 1)), qI 8 (.load false 1 (.t 7)), qI 9 (.fieldAddr 1 (.t 1)), qI 10 (.load false 1 (.t 9)), qI 11 (.len (.t 10)), eI 12 (.call 61 [(.t 8), (.t 11)]), qI 13 (.bin .gtr .other (.t 12) (.c (.int .i64 27)))])
  (.cond (.t 13) (.seq (.region [2, 3] [qI 2 (.mv (.c (.int .i64 0))), qI 3 (.mv (.c (.int .i64 3)))])
  .ret) .skip))
  (.seq (.draw [2, 3] [] [qD 14 (.fieldAddr 1 (.t 1)) 0, qD 15 (.load false 1 (.t 14)) 1, qD 16 (.len (.t 15)) 2, qD 18 (.fieldAddr 1 (.t 1)) 4, qD 19 (.load false 1 (.t 18)) 5, qD 20 (.len (.t 19)) 6, qD 21 (.bin .sub .other (.t 20) (.c (.int .i64 1))) 7, eD 17 (.makeSl 1 24 [.nils] (.t 16) (.t 16)) 3 [5], eD 22 (.call 62 [(.t 1), (.t 17), (.t 21)]) 8 [], qD 2 (.mv (.t 22)) 9, qD 3 (.mv (.c (.int .i64 0))) 10])
  .ret))))⟩
theorem cf24 : cF Try.prog Try.f24 = some if24 := by kernel_rfl
/-- loop.example/g01076/laws.szInt64SS -/
def if42 : IFn := ⟨[0, 1], [(.tmp 4)], (.seq (.region [0, 1] [qI 4 (.mv (.c (.int .i64 0)))])
  (.seq (.region [0, 1] [qI 6 (.mv (.t 1)), qI 7 (.mv (.t 0)), qI 8 (.len (.t 7)), qI 9 (.bin .sub .other (.t 6) (.t 8)), qI 1 (.mv (.t 9))])
  (.seq (.seq (.region [0, 1, 11] [qI 10 (.mv (.t 1)), qI 11 (.bin .lss .other (.t 10) (.c (.int .i64 0)))])
  (.cond (.t 11) (.seq (.region [4] [qI 4 (.mv (.c (.int .i64 (-1))))])
  .ret) .skip))
  (.seq (.seq (.region [0, 1, 5] [qI 5 (.mv (.c (.int .i64 0)))])
  (.block 0 (.loop [0, 1, 5] (.seq (.seq (.region [0, 1, 5, 15] [qI 12 (.mv (.t 5)), qI 13 (.mv (.t 0)), qI 14 (.len (.t 13)), qI 15 (.bin .lss .other (.t 12) (.t 14))])
  (.cond (.t 15) .skip (.exit 0)))
  (.seq (.block 1 (.seq (.region [0, 1, 5] [qI 18 (.mv (.t 0)), qI 19 (.mv (.t 5)), qI 20 (.indexAddr 1 (.t 18) (.t 19)), qI 21 (.load false 1 (.t 20)), qI 22 (.mv (.t 1)), eI 23 (.call 63 [(.t 21), (.t 22)]), qI 1 (.mv (.t 23))])
  (.seq (.region [0, 1, 5, 25] [qI 24 (.mv (.t 1)), qI 25 (.bin .lss .other (.t 24) (.c (.int .i64 0)))])
  (.cond (.t 25) (.seq (.region [4] [qI 4 (.mv (.c (.int .i64 (-1))))])
  .ret) .skip))))
  (.region [0, 1, 5] [qI 16 (.mv (.t 5)), qI 17 (.bin .add .other (.t 16) (.c (.int .i64 1))), qI 5 (.mv (.t 17))]))))))
  (.seq (.region [4] [qI 26 (.mv (.t 1)), qI 4 (.mv (.t 26))])
  .ret)))))⟩
theorem cf42 : cF Try.prog Try.f42 = some if42 := by kernel_rfl
/-- loop.example/g01076/laws.szInt64SSS -/
def if43 : IFn := ⟨[0, 1], [(.tmp 4)], (.seq (.region [0, 1] [qI 4 (.mv (.c (.int .i64 0)))])
  (.seq (.region [0, 1] [qI 6 (.mv (.t 1)), qI 7 (.mv (.t 0)), qI 8 (.len (.t 7)), qI 9 (.bin .sub .other (.t 6) (.t 8)), qI 1 (.mv (.t 9))])
  (.seq (.seq (.region [0, 1, 11] [qI 10 (.mv (.t 1)), qI 11 (.bin .lss .other (.t 10) (.c (.int .i64 0)))])
  (.cond (.t 11) (.seq (.region [4] [qI 4 (.mv (.c (.int .i64 (-1))))])
  .ret) .skip))
  (.seq (.seq (.region [0, 1, 5] [qI 5 (.mv (.c (.int .i64 0)))])
  (.block 0 (.loop [0, 1, 5] (.seq (.seq (.region [0, 1, 5, 15] [qI 12 (.mv (.t 5)), qI 13 (.mv (.t 0)), qI 14 (.len (.t 13)), qI 15 (.bin .lss .other (.t 12) (.t 14))])
  (.cond (.t 15) .skip (.exit 0)))
  (.seq (.block 1 (.seq (.region [0, 1, 5] [qI 18 (.mv (.t 0)), qI 19 (.mv (.t 5)), qI 20 (.indexAddr 1 (.t 18) (.t 19)), qI 21 (.load false 1 (.t 20)), qI 22 (.mv (.t 1)), eI 23 (.call 42 [(.t 21), (.t 22)]), qI 1 (.mv (.t 23))])
  (.seq (.region [0, 1, 5, 25] [qI 24 (.mv (.t 1)), qI 25 (.bin .lss .other (.t 24) (.c (.int .i64 0)))])
  (.cond (.t 25) (.seq (.region [4] [qI 4 (.mv (.c (.int .i64 (-1))))])
  .ret) .skip))))
  (.region [0, 1, 5] [qI 16 (.mv (.t 5)), qI 17 (.bin .add .other (.t 16) (.c (.int .i64 1))), qI 5 (.mv (.t 17))]))))))
  (.seq (.region [4] [qI 26 (.mv (.t 1)), qI 4 (.mv (.t 26))])
  .ret)))))⟩
theorem cf43 : cF Try.prog Try.f43 = some if43 := by kernel_rfl
/-- loop.example/g01076/laws.toInt64SS -/
def if46 : IFn := ⟨[0], [(.tmp 2)], (.seq (.region [0] [qI 2 (.mv (.c .nils))])
  (.seq (.region [0, 3] [qI 5 (.mv (.t 0)), qI 6 (.len (.t 5)), eI 7 (.makeSl 1 24 [.nils] (.t 6) (.t 6)), qI 3 (.mv (.t 7))])
  (.seq (.seq (.region [0, 3, 4] [qI 4 (.mv (.c (.int .i64 0)))])
  (.block 0 (.loop [0, 3, 4] (.seq (.seq (.region [0, 3, 4, 11] [qI 8 (.mv (.t 4)), qI 9 (.mv (.t 0)), qI 10 (.len (.t 9)), qI 11 (.bin .lss .other (.t 8) (.t 10))])
  (.cond (.t 11) .skip (.exit 0)))
  (.seq (.block 1 (.region [0, 3, 4] [qI 14 (.mv (.t 3)), qI 15 (.mv (.t 4)), qI 16 (.mv (.t 0)), qI 17 (.mv (.t 4)), qI 18 (.indexAddr 1 (.t 16) (.t 17)), qI 19 (.load false 1 (.t 18)), eI 20 (.call 14 [(.t 19)]), qI 21 (.indexAddr 1 (.t 14) (.t 15)), nI (.store 1 (.t 21) (.t 20))]))
  (.region [0, 3, 4] [qI 12 (.mv (.t 4)), qI 13 (.bin .add .other (.t 12) (.c (.int .i64 1))), qI 4 (.mv (.t 13))]))))))
  (.seq (.region [2] [qI 22 (.mv (.t 3)), qI 2 (.mv (.t 22))])
  .ret))))⟩
theorem cf46 : cF Try.prog Try.f46 = some if46 := by kernel_rfl
/-- loop.example/g01076/laws.toInt64SSS -/
def if47 : IFn := ⟨[0], [(.tmp 2)], (.seq (.region [0] [qI 2 (.mv (.c .nils))])
  (.seq (.region [0, 3] [qI 5 (.mv (.t 0)), qI 6 (.len (.t 5)), eI 7 (.makeSl 1 24 [.nils] (.t 6) (.t 6)), qI 3 (.mv (.t 7))])
  (.seq (.seq (.region [0, 3, 4] [qI 4 (.mv (.c (.int .i64 0)))])
  (.block 0 (.loop [0, 3, 4] (.seq (.seq (.region [0, 3, 4, 11] [qI 8 (.mv (.t 4)), qI 9 (.mv (.t 0)), qI 10 (.len (.t 9)), qI 11 (.bin .lss .other (.t 8) (.t 10))])
  (.cond (.t 11) .skip (.exit 0)))
  (.seq (.block 1 (.region [0, 3, 4] [qI 14 (.mv (.t 3)), qI 15 (.mv (.t 4)), qI 16 (.mv (.t 0)), qI 17 (.mv (.t 4)), qI 18 (.indexAddr 1 (.t 16) (.t 17)), qI 19 (.load false 1 (.t 18)), eI 20 (.call 46 [(.t 19)]), qI 21 (.indexAddr 1 (.t 14) (.t 15)), nI (.store 1 (.t 21) (.t 20))]))
  (.region [0, 3, 4] [qI 12 (.mv (.t 4)), qI 13 (.bin .add .other (.t 12) (.c (.int .i64 1))), qI 4 (.mv (.t 13))]))))))
  (.seq (.region [2] [qI 22 (.mv (.t 3)), qI 2 (.mv (.t 22))])
  .ret))))⟩
theorem cf47 : cF Try.prog Try.f47 = some if47 := by kernel_rfl
/-- loop.example/g01076/laws.eqInt64SS -/
def if50 : IFn := ⟨[0, 1], [(.tmp 4)], (.seq (.region [0, 1] [qI 4 (.mv (.c (.bool false)))])
  (.seq (.seq (.region [0, 1, 10] [qI 6 (.mv (.t 0)), qI 7 (.len (.t 6)), qI 8 (.mv (.t 1)), qI 9 (.len (.t 8)), qI 10 (.bin .neq .other (.t 7) (.t 9))])
  (.cond (.t 10) (.seq (.region [4] [qI 4 (.mv (.c (.bool false)))])
  .ret) .skip))
  (.seq (.seq (.region [0, 1, 5] [qI 5 (.mv (.c (.int .i64 0)))])
  (.block 0 (.loop [0, 1, 5] (.seq (.seq (.region [0, 1, 5, 14] [qI 11 (.mv (.t 5)), qI 12 (.mv (.t 0)), qI 13 (.len (.t 12)), qI 14 (.bin .lss .other (.t 11) (.t 13))])
  (.cond (.t 14) .skip (.exit 0)))
  (.seq (.block 1 (.seq (.draw [0, 1, 5, 26] [] [qD 17 (.mv (.t 0)) 0, qD 18 (.mv (.t 5)) 1, qD 19 (.indexAddr 1 (.t 17) (.t 18)) 2, qD 20 (.load false 1 (.t 19)) 3, qD 21 (.mv (.t 1)) 4, qD 22 (.mv (.t 5)) 5, qD 23 (.indexAddr 1 (.t 21) (.t 22)) 6, qD 24 (.load false 1 (.t 23)) 7, eD 25 (.call 16 [(.t 20), (.t 24)]) 8 [], qD 26 (.un .not (.t 25)) 9])
  (.cond (.t 26) (.seq (.region [4] [qI 4 (.mv (.c (.bool false)))])
  .ret) .skip)))
  (.region [0, 1, 5] [qI 15 (.mv (.t 5)), qI 16 (.bin .add .other (.t 15) (.c (.int .i64 1))), qI 5 (.mv (.t 16))]))))))
  (.seq (.region [4] [qI 4 (.mv (.c (.bool true)))])
  .ret))))⟩
theorem cf50 : cF Try.prog Try.f50 = some if50 := by kernel_rfl
/-- loop.example/g01076/laws.eqInt64SSS -/
def if51 : IFn := ⟨[0, 1], [(.tmp 4)], (.seq (.region [0, 1] [qI 4 (.mv (.c (.bool false)))])
  (.seq (.seq (.region [0, 1, 10] [qI 6 (.mv (.t 0)), qI 7 (.len (.t 6)), qI 8 (.mv (.t 1)), qI 9 (.len (.t 8)), qI 10 (.bin .neq .other (.t 7) (.t 9))])
  (.cond (.t 10) (.seq (.region [4] [qI 4 (.mv (.c (.bool false)))])
  .ret) .skip))
  (.seq (.seq (.region [0, 1, 5] [qI 5 (.mv (.c (.int .i64 0)))])
  (.block 0 (.loop [0, 1, 5] (.seq (.seq (.region [0, 1, 5, 14] [qI 11 (.mv (.t 5)), qI 12 (.mv (.t 0)), qI 13 (.len (.t 12)), qI 14 (.bin .lss .other (.t 11) (.t 13))])
  (.cond (.t 14) .skip (.exit 0)))
  (.seq (.block 1 (.seq (.draw [0, 1, 5, 26] [] [qD 17 (.mv (.t 0)) 0, qD 18 (.mv (.t 5)) 1, qD 19 (.indexAddr 1 (.t 17) (.t 18)) 2, qD 20 (.load false 1 (.t 19)) 3, qD 21 (.mv (.t 1)) 4, qD 22 (.mv (.t 5)) 5, qD 23 (.indexAddr 1 (.t 21) (.t 22)) 6, qD 24 (.load false 1 (.t 23)) 7, eD 25 (.call 50 [(.t 20), (.t 24)]) 8 [], qD 26 (.un .not (.t 25)) 9])
  (.cond (.t 26) (.seq (.region [4] [qI 4 (.mv (.c (.bool false)))])
  .ret) .skip)))
  (.region [0, 1, 5] [qI 15 (.mv (.t 5)), qI 16 (.bin .add .other (.t 15) (.c (.int .i64 1))), qI 5 (.mv (.t 16))]))))))
  (.seq (.region [4] [qI 4 (.mv (.c (.bool true)))])
  .ret))))⟩
theorem cf51 : cF Try.prog Try.f51 = some if51 := by kernel_rfl
/-- loop.example/g01076/spec.IsLieRing -/
def if56 : IFn := ⟨[0], [(.tmp 2)], (.seq (.region [1] [eI 1 (.box (.t 0)), qI 2 (.mv (.c (.bool false)))])
  (.seq (.seq (.region [1, 9] [qI 7 (.load true 3 (.t 1)), eI 8 (.call 99 [(.t 7)]), qI 9 (.un .not (.t 8))])
  (.cond (.t 9) (.seq (.region [2] [qI 2 (.mv (.c (.bool false)))])
  .ret) .skip))
  (.seq (.region [3] [qI 11 (.load true 3 (.t 1)), eI 12 (.call 100 [(.t 11)]), qI 10 (.mv (.t 12)), qI 13 (.extract (.t 10) 0), qI 14 (.extract (.t 10) 1), qI 15 (.extract (.t 10) 2), qI 16 (.extract (.t 10) 3), qI 3 (.mv (.t 13)), qI 4 (.mv (.t 14)), qI 5 (.mv (.t 15)), qI 6 (.mv (.t 16))])
  (.seq (.region [2] [qI 17 (.mv (.t 3)), qI 18 (.bin .eql .other (.t 17) (.c (.int .i64 0))), qI 2 (.mv (.t 18))])
  .ret))))⟩
theorem cf56 : cF Try.prog Try.f56 = some if56 := by kernel_rfl
/-- loop.example/g01076/spec.l31Size -/
def if57 : IFn := ⟨[0, 1], [(.tmp 4)], (.seq (.region [0, 1] [qI 4 (.mv (.c (.int .i64 0)))])
  (.seq (.region [0, 1, 5] [qI 5 (.mv (.c (.int .i64 1)))])
  (.seq (.seq (.region [0, 1, 5, 6] [qI 6 (.mv (.c (.int .i64 0)))])
  (.block 0 (.loop [0, 1, 5, 6] (.seq (.seq (.region [0, 1, 5, 6, 13] [qI 7 (.mv (.t 6)), qI 8 (.mv (.t 1)), qI 9 (.bin .lss .other (.t 7) (.t 8)), qI 10 (.mv (.t 9)), ⟨(some 11), .mv (.t 5), true, (some (10, true))⟩, ⟨(some 12), .bin .leq .other (.t 11) (.c (.int .i64 729)), true, (some (10, true))⟩, qI 13 (.pick (.t 10) (.t 12) (.c (.bool false)))])
  (.cond (.t 13) .skip (.exit 0)))
  (.seq (.block 1 (.region [0, 1, 5, 6] [qI 16 (.mv (.t 5)), qI 17 (.mv (.t 0)), qI 18 (.bin .mul .other (.t 16) (.t 17)), qI 5 (.mv (.t 18))]))
  (.region [0, 1, 5, 6] [qI 14 (.mv (.t 6)), qI 15 (.bin .add .other (.t 14) (.c (.int .i64 1))), qI 6 (.mv (.t 15))]))))))
  (.seq (.region [4] [qI 19 (.mv (.t 5)), qI 4 (.mv (.t 19))])
  .ret))))⟩
theorem cf57 : cF Try.prog Try.f57 = some if57 := by kernel_rfl
/-- loop.example/g01076/spec.l31Zero -/
def if58 : IFn := ⟨[0], [(.tmp 2)], (.seq (.region [1] [eI 1 (.box (.t 0)), qI 2 (.mv (.c .nils))])
  (.seq (.region [2] [qI 3 (.fieldAddr 1 (.t 1)), qI 4 (.load false 1 (.t 3)), qI 5 (.len (.t 4)), eI 6 (.makeSl 1 8 [(.int .i64 0)] (.t 5) (.t 5)), qI 2 (.mv (.t 6))])
  .ret))⟩
theorem cf58 : cF Try.prog Try.f58 = some if58 := by kernel_rfl
/-- loop.example/g01076/spec.l34Count -/
def if59 : IFn := ⟨[0, 1, 2], [(.tmp 6)], (.seq (.region [1, 2, 3] [eI 3 (.box (.t 0)), qI 6 (.mv (.c (.int .i64 0)))])
  (.seq (.seq (.region [1, 2, 3, 11] [qI 10 (.mv (.t 2)), qI 11 (.bin .eql .other (.t 10) (.c (.int .i64 0)))])
  (.cond (.t 11) (.seq (.region [6] [qI 6 (.mv (.c (.int .i64 1)))])
  .ret) .skip))
  (.seq (.region [1, 2, 3, 7] [qI 7 (.mv (.c (.int .i64 0)))])
  (.seq (.seq (.region [1, 2, 3, 7, 8] [qI 8 (.mv (.c (.int .i64 0)))])
  (.block 0 (.loop [1, 2, 3, 7, 8] (.seq (.seq (.region [1, 2, 3, 7, 8, 19] [qI 12 (.mv (.t 8)), qI 13 (.fieldAddr 0 (.t 3)), qI 14 (.load false 1 (.t 13)), qI 15 (.fieldAddr 1 (.t 3)), qI 16 (.load false 1 (.t 15)), qI 17 (.len (.t 16)), eI 18 (.call 57 [(.t 14), (.t 17)]), qI 19 (.bin .lss .other (.t 12) (.t 18))])
  (.cond (.t 19) .skip (.exit 0)))
  (.seq (.block 1 (.seq (.region [1, 2, 3, 7, 8, 9] [eI 22 (.buildSl 1 0 [.nils] []), qI 23 (.mv (.t 1)), eI 24 (.append 1 24 (.t 22) (.t 23)), qI 9 (.mv (.t 24))])
  (.seq (.region [1, 2, 3, 7, 8, 9] [qI 25 (.mv (.t 9)), qI 26 (.mv (.t 2)), qI 27 (.bin .sub .other (.t 26) (.c (.int .i64 1))), qI 28 (.load true 3 (.t 3)), qI 29 (.mv (.t 8)), eI 30 (.call 101 [(.t 28), (.t 29)]), qI 31 (.indexAddr 1 (.t 25) (.t 27)), nI (.store 1 (.t 31) (.t 30))])
  (.seq (.draw [1, 2, 3, 7, 8, 9, 52] [] [qD 32 (.load true 3 (.t 3)) 0, qD 33 (.mv (.t 9)) 1, qD 34 (.mv (.t 2)) 2, qD 35 (.bin .sub .other (.t 34) (.c (.int .i64 1))) 3, qD 36 (.slice 1 (.t 33) (some (.t 35)) none none) 4, qD 39 (.mv (.t 9)) 7, qD 40 (.len (.t 39)) 8, qD 41 (.mv (.t 2)) 9, qD 42 (.bin .sub .other (.t 40) (.t 41)) 10, qD 43 (.bin .add .other (.t 42) (.c (.int .i64 1))) 11, eD 37 (.call 102 [(.t 32), (.t 36)]) 5 [], qD 38 (.len (.t 37)) 6, qD 44 (.bin .eql .other (.t 38) (.t 43)) 12, qD 45 (.mv (.t 44)) 13, ⟨⟨(some 46), .load true 3 (.t 3), true, (some (45, true))⟩, 14, []⟩, ⟨⟨(some 47), .load true 3 (.t 3), true, (some (45, true))⟩, 15, []⟩, ⟨⟨(some 48), .mv (.t 9), true, (some (45, true))⟩, 16, []⟩, ⟨⟨(some 49), .mv (.t 2), true, (some (45, true))⟩, 17, []⟩, ⟨⟨(some 50), .bin .sub .other (.t 49) (.c (.int .i64 1)), true, (some (45, true))⟩, 18, []⟩, ⟨⟨(some 51), .call 103 [(.t 46), (.t 47), (.t 48), (.t 50)], false, (some (45, true))⟩, 19, []⟩, qD 52 (.pick (.t 45) (.t 51) (.c (.bool false))) 20])
  (.cond (.t 52) (.region [1, 2, 3, 7, 8] [qI 53 (.mv (.t 7)), qI 54 (.load true 3 (.t 3)), qI 55 (.mv (.t 9)), qI 56 (.mv (.t 2)), qI 57 (.bin .sub .other (.t 56) (.c (.int .i64 1))), eI 58 (.call 59 [(.t 54), (.t 55), (.t 57)]), qI 59 (.bin .add .other (.t 53) (.t 58)), qI 7 (.mv (.t 59))]) .skip)))))
  (.region [1, 2, 3, 7, 8] [qI 20 (.mv (.t 8)), qI 21 (.bin .add .other (.t 20) (.c (.int .i64 1))), qI 8 (.mv (.t 21))]))))))
  (.seq (.region [6] [qI 60 (.mv (.t 7)), qI 6 (.mv (.t 60))])
  .ret)))))⟩
theorem cf59 : cF Try.prog Try.f59 = some if59 := by kernel_rfl
/-- loop.example/g01076/impl.IsLieRing -/
def if60 : IFn := ⟨[0], [(.tmp 2)], (.seq (.region [1] [eI 1 (.box (.t 0)), qI 2 (.mv (.c (.bool false)))])
  (.seq (.seq (.region [1, 9] [qI 7 (.load true 3 (.t 1)), eI 8 (.call 104 [(.t 7)]), qI 9 (.un .not (.t 8))])
  (.cond (.t 9) (.seq (.region [2] [qI 2 (.mv (.c (.bool false)))])
  .ret) .skip))
  (.seq (.region [3] [eI 11 (.call 105 [(.t 1)]), qI 10 (.mv (.t 11)), qI 12 (.extract (.t 10) 0), qI 13 (.extract (.t 10) 1), qI 14 (.extract (.t 10) 2), qI 15 (.extract (.t 10) 3), qI 3 (.mv (.t 12)), qI 4 (.mv (.t 13)), qI 5 (.mv (.t 14)), qI 6 (.mv (.t 15))])
  (.seq (.region [2] [qI 16 (.mv (.t 3)), qI 17 (.bin .eql .other (.t 16) (.c (.int .i64 0))), qI 2 (.mv (.t 17))])
  .ret))))⟩
theorem cf60 : cF Try.prog Try.f60 = some if60 := by kernel_rfl
/-- loop.example/g01076/impl.integerPower -/
def if61 : IFn := ⟨[0, 1], [(.tmp 4)], (.seq (.region [0, 1] [qI 4 (.mv (.c (.int .i64 0)))])
  (.seq (.region [0, 1, 5] [qI 5 (.mv (.c (.int .i64 1)))])
  (.seq (.seq (.region [0, 5, 6, 7] [qI 6 (.mv (.t 1)), qI 7 (.mv (.c (.int .i64 0)))])
  (.block 0 (.loop [0, 5, 6, 7] (.seq (.region [0, 5, 6, 7, 8] [qI 8 (.bin .lss .other (.t 7) (.t 6))])
  (.seq (.cond (.t 8) .skip (.exit 0))
  (.seq (.block 1 (.region [0, 5, 6, 7] [qI 9 (.mv (.t 5)), qI 10 (.mv (.t 0)), qI 11 (.bin .mul .other (.t 9) (.t 10)), qI 5 (.mv (.t 11))]))
  (.region [0, 5, 6, 7] [qI 12 (.bin .add .other (.t 7) (.c (.int .i64 1))), qI 7 (.mv (.t 12))])))))))
  (.seq (.region [4] [qI 13 (.mv (.t 5)), qI 4 (.mv (.t 13))])
  .ret))))⟩
theorem cf61 : cF Try.prog Try.f61 = some if61 := by kernel_rfl
/-- loop.example/g01076/impl.countLieMaps -/
def if62 : IFn := ⟨[0, 1, 2], [(.tmp 6)], (.seq (.region [0, 1, 2] [qI 6 (.mv (.c (.int .i64 0)))])
  (.seq (.seq (.region [0, 1, 2, 12] [qI 11 (.mv (.t 2)), qI 12 (.bin .lss .other (.t 11) (.c (.int .i64 0)))])
  (.cond (.t 12) (.seq (.region [6] [qI 6 (.mv (.c (.int .i64 1)))])
  .ret) .skip))
  (.seq (.region [0, 1, 2, 7] [qI 7 (.mv (.c (.int .i64 0)))])
  (.seq (.region [0, 1, 2, 7, 8] [qI 13 (.mv (.t 0)), qI 14 (.mv (.t 1)), qI 15 (.mv (.t 2)), qI 16 (.bin .add .other (.t 15) (.c (.int .i64 1))), qI 17 (.slice 1 (.t 14) (some (.t 16)) none none), eI 18 (.call 106 [(.t 13), (.t 17)]), qI 8 (.mv (.t 18))])
  (.seq (.seq (.region [0, 1, 2, 7, 8, 20, 21, 22] [qI 19 (.mv (.t 0)), eI 20 (.call 107 [(.t 19)]), qI 21 (.len (.t 20)), qI 22 (.mv (.c (.int .i64 0)))])
  (.block 0 (.loop [0, 1, 2, 7, 8, 20, 21, 22] (.seq (.region [0, 1, 2, 7, 8, 20, 21, 22, 23] [qI 23 (.bin .lss .other (.t 22) (.t 21))])
  (.seq (.cond (.t 23) .skip (.exit 0))
  (.seq (.block 1 (.seq (.region [0, 1, 2, 7, 8, 10, 20, 21, 22] [qI 24 (.indexAddr 1 (.t 20) (.t 22)), qI 25 (.load false 1 (.t 24)), qI 10 (.mv (.t 25))])
  (.seq (.region [0, 1, 2, 7, 8, 10, 20, 21, 22] [qI 26 (.mv (.t 1)), qI 27 (.mv (.t 2)), qI 28 (.mv (.t 10)), qI 29 (.indexAddr 1 (.t 26) (.t 27)), nI (.store 1 (.t 29) (.t 28))])
  (.seq (.region [0, 1, 2, 7, 8, 20, 21, 22, 42] [qI 30 (.mv (.t 0)), qI 31 (.mv (.t 8)), qI 32 (.mv (.t 10)), eI 33 (.call 109 [(.t 30), (.t 31), (.t 32)]), eI 34 (.call 108 [(.t 33)]), qI 35 (.un .not (.t 34)), qI 36 (.mv (.t 35)), ⟨(some 37), .mv (.t 0), true, (some (36, true))⟩, ⟨(some 38), .mv (.t 0), true, (some (36, true))⟩, ⟨(some 39), .mv (.t 1), true, (some (36, true))⟩, ⟨(some 40), .mv (.t 2), true, (some (36, true))⟩, ⟨(some 41), .call 110 [(.t 37), (.t 38), (.t 39), (.t 40)], false, (some (36, true))⟩, qI 42 (.pick (.t 36) (.t 41) (.c (.bool false)))])
  (.cond (.t 42) (.region [0, 1, 2, 7, 8, 20, 21, 22] [qI 43 (.mv (.t 7)), qI 44 (.mv (.t 0)), qI 45 (.mv (.t 1)), qI 46 (.mv (.t 2)), qI 47 (.bin .sub .other (.t 46) (.c (.int .i64 1))), eI 48 (.call 62 [(.t 44), (.t 45), (.t 47)]), qI 49 (.bin .add .other (.t 43) (.t 48)), qI 7 (.mv (.t 49))]) .skip)))))
  (.region [0, 1, 2, 7, 8, 20, 21, 22] [qI 50 (.bin .add .other (.t 22) (.c (.int .i64 1))), qI 22 (.mv (.t 50))])))))))
  (.seq (.region [6] [qI 51 (.mv (.t 7)), qI 6 (.mv (.t 51))])
  .ret))))))⟩
theorem cf62 : cF Try.prog Try.f62 = some if62 := by kernel_rfl
/-- loop.example/g01076/laws.szInt64S -/
def if63 : IFn := ⟨[0, 1], [(.tmp 4)], (.seq (.region [0, 1] [qI 4 (.mv (.c (.int .i64 0)))])
  (.seq (.region [1] [qI 5 (.mv (.t 1)), qI 6 (.mv (.t 0)), qI 7 (.len (.t 6)), qI 8 (.bin .sub .other (.t 5) (.t 7)), qI 1 (.mv (.t 8))])
  (.seq (.seq (.region [1, 10] [qI 9 (.mv (.t 1)), qI 10 (.bin .lss .other (.t 9) (.c (.int .i64 0)))])
  (.cond (.t 10) (.seq (.region [4] [qI 4 (.mv (.c (.int .i64 (-1))))])
  .ret) .skip))
  (.seq (.region [4] [qI 11 (.mv (.t 1)), qI 4 (.mv (.t 11))])
  .ret))))⟩
theorem cf63 : cF Try.prog Try.f63 = some if63 := by kernel_rfl
/-- loop.example/g01076/spec.l01Zero -/
def if65 : IFn := ⟨[0], [(.tmp 2)], (.seq (.region [0] [qI 2 (.mv (.c (.bool false)))])
  (.seq (.seq (.region [0, 3] [qI 3 (.mv (.c (.int .i64 0)))])
  (.block 0 (.loop [0, 3] (.seq (.seq (.region [0, 3, 7] [qI 4 (.mv (.t 3)), qI 5 (.mv (.t 0)), qI 6 (.len (.t 5)), qI 7 (.bin .lss .other (.t 4) (.t 6))])
  (.cond (.t 7) .skip (.exit 0)))
  (.seq (.block 1 (.seq (.region [0, 3, 14] [qI 10 (.mv (.t 0)), qI 11 (.mv (.t 3)), qI 12 (.indexAddr 1 (.t 10) (.t 11)), qI 13 (.load false 1 (.t 12)), qI 14 (.bin .neq .other (.t 13) (.c (.int .i64 0)))])
  (.cond (.t 14) (.seq (.region [2] [qI 2 (.mv (.c (.bool false)))])
  .ret) .skip)))
  (.region [0, 3] [qI 8 (.mv (.t 3)), qI 9 (.bin .add .other (.t 8) (.c (.int .i64 1))), qI 3 (.mv (.t 9))]))))))
  (.seq (.region [2] [qI 2 (.mv (.c (.bool true)))])
  .ret)))⟩
theorem cf65 : cF Try.prog Try.f65 = some if65 := by kernel_rfl
/-- loop.example/g01076/spec.l31Mix -/
def if92 : IFn := ⟨[0, 1, 2, 3, 4], [(.tmp 10)], (.seq (.region [1, 2, 3, 4, 5] [eI 5 (.box (.t 0)), qI 10 (.mv (.c .nils))])
  (.seq (.region [1, 2, 3, 4, 5, 11] [qI 13 (.mv (.t 2)), qI 14 (.len (.t 13)), eI 15 (.makeSl 1 8 [(.int .i64 0)] (.t 14) (.t 14)), qI 11 (.mv (.t 15))])
  (.seq (.seq (.region [1, 2, 3, 4, 5, 11, 12] [qI 12 (.mv (.c (.int .i64 0)))])
  (.block 0 (.loop [1, 2, 3, 4, 5, 11, 12] (.seq (.seq (.region [1, 2, 3, 4, 5, 11, 12, 19] [qI 16 (.mv (.t 12)), qI 17 (.mv (.t 2)), qI 18 (.len (.t 17)), qI 19 (.bin .lss .other (.t 16) (.t 18))])
  (.cond (.t 19) .skip (.exit 0)))
  (.seq (.block 1 (.draw [1, 2, 3, 4, 5, 11, 12] [] [qD 22 (.mv (.t 11)) 0, qD 23 (.mv (.t 12)) 1, qD 24 (.mv (.t 1)) 2, qD 25 (.mv (.t 2)) 3, qD 26 (.mv (.t 12)) 4, qD 27 (.indexAddr 1 (.t 25) (.t 26)) 5, qD 28 (.load false 1 (.t 27)) 6, qD 29 (.bin .mul .other (.t 24) (.t 28)) 7, qD 30 (.mv (.t 3)) 8, qD 31 (.mv (.t 4)) 9, qD 32 (.mv (.t 12)) 10, qD 33 (.indexAddr 1 (.t 31) (.t 32)) 11, qD 34 (.load false 1 (.t 33)) 12, qD 35 (.bin .mul .other (.t 30) (.t 34)) 13, qD 36 (.bin .add .other (.t 29) (.t 35)) 14, qD 37 (.indexAddr 1 (.t 22) (.t 23)) 15, ⟨nI (.store 1 (.t 37) (.t 36)), 16, []⟩]))
  (.region [1, 2, 3, 4, 5, 11, 12] [qI 20 (.mv (.t 12)), qI 21 (.bin .add .other (.t 20) (.c (.int .i64 1))), qI 12 (.mv (.t 21))]))))))
  (.seq (.region [10] [qI 38 (.load true 3 (.t 5)), qI 39 (.mv (.t 11)), eI 40 (.call 143 [(.t 38), (.t 39)]), qI 10 (.mv (.t 40))])
  .ret))))⟩
theorem cf92 : cF Try.prog Try.f92 = some if92 := by kernel_rfl
/-- loop.example/g01076/spec.l31Unit -/
def if93 : IFn := ⟨[0, 1], [(.tmp 4)], (.seq (.region [1, 2] [eI 2 (.box (.t 0)), qI 4 (.mv (.c .nils))])
  (.seq (.region [1, 5] [qI 6 (.load true 3 (.t 2)), eI 7 (.call 58 [(.t 6)]), qI 5 (.mv (.t 7))])
  (.seq (.region [5] [qI 8 (.mv (.t 5)), qI 9 (.mv (.t 1)), qI 10 (.indexAddr 1 (.t 8) (.t 9)), nI (.store 1 (.t 10) (.c (.int .i64 1)))])
  (.seq (.region [4] [qI 11 (.mv (.t 5)), qI 4 (.mv (.t 11))])
  .ret))))⟩
theorem cf93 : cF Try.prog Try.f93 = some if93 := by kernel_rfl
/-- loop.example/g01076/impl.timesLie -/
def if97 : IFn := ⟨[0, 1, 2], [(.tmp 6)], (.seq (.region [0, 1, 2] [qI 6 (.mv (.c .nils))])
  (.seq (.region [0, 1, 2, 7] [qI 8 (.mv (.t 2)), qI 9 (.len (.t 8)), eI 10 (.makeSl 1 8 [(.int .i64 0)] (.t 9) (.t 9)), qI 7 (.mv (.t 10))])
  (.seq (.region [0, 7] [qI 11 (.mv (.t 7)), qI 12 (.mv (.t 2)), qI 13 (.mv (.t 1)), qI 14 (.un .neg (.t 13)), eI 15 (.call 148 [(.t 11), (.t 12), (.t 14)])])
  (.seq (.region [6] [qI 16 (.mv (.t 0)), qI 17 (.mv (.t 7)), eI 18 (.call 149 [(.t 16), (.t 17)]), qI 6 (.mv (.t 18))])
  .ret))))⟩
theorem cf97 : cF Try.prog Try.f97 = some if97 := by kernel_rfl
/-- loop.example/g01076/impl.unitVector -/
def if98 : IFn := ⟨[0, 1], [(.tmp 4)], (.seq (.region [0, 1] [qI 4 (.mv (.c .nils))])
  (.seq (.region [1, 5] [qI 6 (.mv (.t 0)), eI 7 (.makeSl 1 8 [(.int .i64 0)] (.t 6) (.t 6)), qI 5 (.mv (.t 7))])
  (.seq (.region [5] [qI 8 (.mv (.t 5)), qI 9 (.mv (.t 1)), qI 10 (.indexAddr 1 (.t 8) (.t 9)), nI (.store 1 (.t 10) (.c (.int .i64 1)))])
  (.seq (.region [4] [qI 11 (.mv (.t 5)), qI 4 (.mv (.t 11))])
  .ret))))⟩
theorem cf98 : cF Try.prog Try.f98 = some if98 := by kernel_rfl
/-- loop.example/g01076/spec.IsLieShape -/
def if99 : IFn := ⟨[0], [(.tmp 2)], (.seq (.region [1] [eI 1 (.box (.t 0)), qI 2 (.mv (.c (.bool false)))])
  (.seq (.region [1, 3] [qI 7 (.fieldAddr 1 (.t 1)), qI 8 (.load false 1 (.t 7)), qI 9 (.len (.t 8)), qI 3 (.mv (.t 9))])
  (.seq (.seq (.region [1, 3, 31] [qI 10 (.fieldAddr 0 (.t 1)), qI 11 (.load false 1 (.t 10)), eI 12 (.call 124 [(.t 11)]), qI 13 (.un .not (.t 12)), qI 14 (.mv (.t 13)), ⟨(some 15), .mv (.t 3), true, (some (14, false))⟩, ⟨(some 16), .bin .gtr .other (.t 15) (.c (.int .i64 6)), true, (some (14, false))⟩, qI 17 (.pick (.t 14) (.c (.bool true)) (.t 16)), qI 18 (.mv (.t 17)), ⟨(some 19), .fieldAddr 2 (.t 1), true, (some (18, false))⟩, ⟨(some 20), .load false 1 (.t 19), true, (some (18, false))⟩, ⟨(some 21), .len (.t 20), true, (some (18, false))⟩, ⟨(some 22), .mv (.t 3), true, (some (18, false))⟩, ⟨(some 23), .bin .neq .other (.t 21) (.t 22), true, (some (18, false))⟩, qI 24 (.pick (.t 18) (.c (.bool true)) (.t 23)), qI 25 (.mv (.t 24)), ⟨(some 26), .fieldAddr 0 (.t 1), true, (some (25, false))⟩, ⟨(some 27), .load false 1 (.t 26), true, (some (25, false))⟩, ⟨(some 28), .mv (.t 3), true, (some (25, false))⟩, ⟨(some 29), .call 57 [(.t 27), (.t 28)], false, (some (25, false))⟩, ⟨(some 30), .bin .gtr .other (.t 29) (.c (.int .i64 729)), true, (some (25, false))⟩, qI 31 (.pick (.t 25) (.c (.bool true)) (.t 30))])
  (.cond (.t 31) (.seq (.region [2] [qI 2 (.mv (.c (.bool false)))])
  .ret) .skip))
  (.seq (.seq (.region [1, 3, 4] [qI 4 (.mv (.c (.int .i64 0)))])
  (.block 0 (.loop [1, 3, 4] (.seq (.seq (.region [1, 3, 4, 34] [qI 32 (.mv (.t 4)), qI 33 (.mv (.t 3)), qI 34 (.bin .lss .other (.t 32) (.t 33))])
  (.cond (.t 34) .skip (.exit 0)))
  (.seq (.block 1 (.seq (.seq (.draw [1, 3, 4, 69] [] [qD 37 (.fieldAddr 1 (.t 1)) 0, qD 38 (.load false 1 (.t 37)) 1, qD 39 (.mv (.t 4)) 2, qD 40 (.indexAddr 1 (.t 38) (.t 39)) 3, qD 41 (.load false 1 (.t 40)) 4, qD 42 (.fieldAddr 0 (.t 1)) 5, qD 43 (.load false 1 (.t 42)) 6, qD 44 (.mv (.t 3)) 7, eD 45 (.call 150 [(.t 41), (.t 43), (.t 44)]) 8 [], qD 46 (.un .not (.t 45)) 9, qD 47 (.mv (.t 46)) 10, ⟨⟨(some 48), .fieldAddr 1 (.t 1), true, (some (47, false))⟩, 11, []⟩, ⟨⟨(some 49), .load false 1 (.t 48), true, (some (47, false))⟩, 12, []⟩, ⟨⟨(some 50), .mv (.t 4), true, (some (47, false))⟩, 13, []⟩, ⟨⟨(some 51), .indexAddr 1 (.t 49) (.t 50), true, (some (47, false))⟩, 14, []⟩, ⟨⟨(some 52), .load false 1 (.t 51), true, (some (47, false))⟩, 15, []⟩, ⟨⟨(some 53), .mv (.t 4), true, (some (47, false))⟩, 16, []⟩, ⟨⟨(some 54), .call 151 [(.t 52), (.t 53)], false, (some (47, false))⟩, 17, []⟩, ⟨⟨(some 55), .un .not (.t 54), true, (some (47, false))⟩, 18, []⟩, qD 56 (.pick (.t 47) (.c (.bool true)) (.t 55)) 19, qD 57 (.mv (.t 56)) 20, ⟨⟨(some 58), .fieldAddr 2 (.t 1), true, (some (57, false))⟩, 21, []⟩, ⟨⟨(some 59), .load false 1 (.t 58), true, (some (57, false))⟩, 22, []⟩, ⟨⟨(some 60), .mv (.t 4), true, (some (57, false))⟩, 23, []⟩, ⟨⟨(some 61), .indexAddr 1 (.t 59) (.t 60), true, (some (57, false))⟩, 24, []⟩, ⟨⟨(some 62), .load false 1 (.t 61), true, (some (57, false))⟩, 25, []⟩, ⟨⟨(some 63), .len (.t 62), true, (some (57, false))⟩, 26, []⟩, ⟨⟨(some 64), .mv (.t 3), true, (some (57, false))⟩, 27, []⟩, ⟨⟨(some 65), .bin .sub .other (.t 64) (.c (.int .i64 1)), true, (some (57, false))⟩, 28, []⟩, ⟨⟨(some 66), .mv (.t 4), true, (some (57, false))⟩, 29, []⟩, ⟨⟨(some 67), .bin .sub .other (.t 65) (.t 66), true, (some (57, false))⟩, 30, []⟩, ⟨⟨(some 68), .bin .neq .other (.t 63) (.t 67), true, (some (57, false))⟩, 31, []⟩, qD 69 (.pick (.t 57) (.c (.bool true)) (.t 68)) 32])
  (.cond (.t 69) (.seq (.region [2] [qI 2 (.mv (.c (.bool false)))])
  .ret) .skip))
  (.seq (.region [1, 3, 4, 5] [qI 70 (.mv (.t 4)), qI 71 (.bin .add .other (.t 70) (.c (.int .i64 1))), qI 5 (.mv (.t 71))])
  (.block 2 (.loop [1, 3, 4, 5] (.seq (.seq (.region [1, 3, 4, 5, 74] [qI 72 (.mv (.t 5)), qI 73 (.mv (.t 3)), qI 74 (.bin .lss .other (.t 72) (.t 73))])
  (.cond (.t 74) .skip (.exit 2)))
  (.seq (.block 3 (.seq (.region [1, 3, 4, 5, 6] [qI 77 (.fieldAddr 2 (.t 1)), qI 78 (.load false 1 (.t 77)), qI 79 (.mv (.t 4)), qI 80 (.indexAddr 1 (.t 78) (.t 79)), qI 81 (.load false 1 (.t 80)), qI 82 (.mv (.t 5)), qI 83 (.mv (.t 4)), qI 84 (.bin .sub .other (.t 82) (.t 83)), qI 85 (.bin .sub .other (.t 84) (.c (.int .i64 1))), qI 86 (.indexAddr 1 (.t 81) (.t 85)), qI 87 (.load false 1 (.t 86)), qI 6 (.mv (.t 87))])
  (.seq (.region [1, 3, 4, 5, 99] [qI 88 (.mv (.t 6)), qI 89 (.fieldAddr 0 (.t 1)), qI 90 (.load false 1 (.t 89)), qI 91 (.mv (.t 3)), eI 92 (.call 150 [(.t 88), (.t 90), (.t 91)]), qI 93 (.un .not (.t 92)), qI 94 (.mv (.t 93)), ⟨(some 95), .mv (.t 6), true, (some (94, false))⟩, ⟨(some 96), .mv (.t 5), true, (some (94, false))⟩, ⟨(some 97), .call 151 [(.t 95), (.t 96)], false, (some (94, false))⟩, ⟨(some 98), .un .not (.t 97), true, (some (94, false))⟩, qI 99 (.pick (.t 94) (.c (.bool true)) (.t 98))])
  (.cond (.t 99) (.seq (.region [2] [qI 2 (.mv (.c (.bool false)))])
  .ret) .skip))))
  (.region [1, 3, 4, 5] [qI 75 (.mv (.t 5)), qI 76 (.bin .add .other (.t 75) (.c (.int .i64 1))), qI 5 (.mv (.t 76))]))))))))
  (.region [1, 3, 4] [qI 35 (.mv (.t 4)), qI 36 (.bin .add .other (.t 35) (.c (.int .i64 1))), qI 4 (.mv (.t 36))]))))))
  (.seq (.region [2] [qI 2 (.mv (.c (.bool true)))])
  .ret)))))⟩
theorem cf99 : cF Try.prog Try.f99 = some if99 := by kernel_rfl
/-- loop.example/g01076/spec.l31Fault -/
def if100 : IFn := ⟨[0], [(.tmp 2), (.tmp 3), (.tmp 4), (.tmp 5)], (.seq (.region [1] [eI 1 (.box (.t 0)), qI 2 (.mv (.c (.int .i64 0))), qI 3 (.mv (.c (.int .i64 0))), qI 4 (.mv (.c (.int .i64 0))), qI 5 (.mv (.c (.int .i64 0)))])
  (.seq (.region [1, 6] [qI 17 (.fieldAddr 1 (.t 1)), qI 18 (.load false 1 (.t 17)), qI 19 (.len (.t 18)), qI 6 (.mv (.t 19))])
  (.seq (.seq (.region [1, 6, 7] [qI 7 (.mv (.c (.int .i64 0)))])
  (.block 0 (.loop [1, 6, 7] (.seq (.seq (.region [1, 6, 7, 22] [qI 20 (.mv (.t 7)), qI 21 (.mv (.t 6)), qI 22 (.bin .lss .other (.t 20) (.t 21))])
  (.cond (.t 22) .skip (.exit 0)))
  (.seq (.block 1 (.seq (.region [1, 6, 7, 8] [qI 8 (.mv (.c (.int .i64 0)))])
  (.block 2 (.loop [1, 6, 7, 8] (.seq (.seq (.region [1, 6, 7, 8, 27] [qI 25 (.mv (.t 8)), qI 26 (.mv (.t 6)), qI 27 (.bin .lss .other (.t 25) (.t 26))])
  (.cond (.t 27) .skip (.exit 2)))
  (.seq (.block 3 (.seq (.draw [1, 6, 7, 8, 9] [] [qD 30 (.load true 3 (.t 1)) 0, qD 31 (.fieldAddr 0 (.t 1)) 1, qD 32 (.load false 1 (.t 31)) 2, qD 33 (.load true 3 (.t 1)) 3, qD 34 (.load true 3 (.t 1)) 4, qD 35 (.mv (.t 7)) 5, qD 37 (.load true 3 (.t 1)) 7, qD 38 (.mv (.t 8)) 8, qD 41 (.load true 3 (.t 1)) 11, eD 36 (.call 93 [(.t 34), (.t 35)]) 6 [0, 2, 3, 7, 11], eD 39 (.call 93 [(.t 37), (.t 38)]) 9 [0, 2, 3, 11], eD 40 (.call 152 [(.t 33), (.t 36), (.t 39)]) 10 [0, 2, 11], eD 42 (.call 58 [(.t 41)]) 12 [0, 2], eD 43 (.call 92 [(.t 30), (.t 32), (.t 40), (.c (.int .i64 0)), (.t 42)]) 13 [], qD 9 (.mv (.t 43)) 14])
  (.seq (.draw [1, 6, 7, 8, 56] [] [qD 44 (.mv (.t 9)) 0, qD 45 (.load true 3 (.t 1)) 1, qD 46 (.fieldAddr 1 (.t 1)) 2, qD 47 (.load false 1 (.t 46)) 3, qD 48 (.mv (.t 7)) 4, qD 49 (.indexAddr 1 (.t 47) (.t 48)) 5, qD 50 (.load false 1 (.t 49)) 6, qD 51 (.load true 3 (.t 1)) 7, qD 52 (.mv (.t 8)) 8, eD 53 (.call 93 [(.t 51), (.t 52)]) 9 [1, 3, 6], eD 54 (.call 152 [(.t 45), (.t 50), (.t 53)]) 10 [], eD 55 (.call 153 [(.t 44), (.t 54)]) 11 [], qD 56 (.un .not (.t 55)) 12])
  (.cond (.t 56) (.seq (.region [2, 3, 4, 5] [qI 57 (.mv (.t 7)), qI 58 (.mv (.t 8)), qI 2 (.mv (.c (.int .i64 1))), qI 3 (.mv (.t 57)), qI 4 (.mv (.t 58)), qI 5 (.mv (.c (.int .i64 0)))])
  .ret) .skip))))
  (.region [1, 6, 7, 8] [qI 28 (.mv (.t 8)), qI 29 (.bin .add .other (.t 28) (.c (.int .i64 1))), qI 8 (.mv (.t 29))])))))))
  (.region [1, 6, 7] [qI 23 (.mv (.t 7)), qI 24 (.bin .add .other (.t 23) (.c (.int .i64 1))), qI 7 (.mv (.t 24))]))))))
  (.seq (.seq (.region [1, 6, 10] [qI 10 (.mv (.c (.int .i64 0)))])
  (.block 4 (.loop [1, 6, 10] (.seq (.seq (.region [1, 6, 10, 61] [qI 59 (.mv (.t 10)), qI 60 (.mv (.t 6)), qI 61 (.bin .lss .other (.t 59) (.t 60))])
  (.cond (.t 61) .skip (.exit 4)))
  (.seq (.block 5 (.seq (.region [1, 6, 10, 11] [qI 64 (.mv (.t 10)), qI 65 (.bin .add .other (.t 64) (.c (.int .i64 1))), qI 11 (.mv (.t 65))])
  (.block 6 (.loop [1, 6, 10, 11] (.seq (.seq (.region [1, 6, 10, 11, 68] [qI 66 (.mv (.t 11)), qI 67 (.mv (.t 6)), qI 68 (.bin .lss .other (.t 66) (.t 67))])
  (.cond (.t 68) .skip (.exit 6)))
  (.seq (.block 7 (.seq (.region [1, 6, 10, 11, 12] [qI 71 (.mv (.t 11)), qI 72 (.bin .add .other (.t 71) (.c (.int .i64 1))), qI 12 (.mv (.t 72))])
  (.block 8 (.loop [1, 6, 10, 11, 12] (.seq (.seq (.region [1, 6, 10, 11, 12, 75] [qI 73 (.mv (.t 12)), qI 74 (.mv (.t 6)), qI 75 (.bin .lss .other (.t 73) (.t 74))])
  (.cond (.t 75) .skip (.exit 8)))
  (.seq (.block 9 (.seq (.draw [1, 6, 10, 11, 12, 13, 14, 15] [] [qD 78 (.load true 3 (.t 1)) 0, qD 79 (.mv (.t 10)) 1, qD 81 (.load true 3 (.t 1)) 3, qD 82 (.mv (.t 11)) 4, qD 84 (.load true 3 (.t 1)) 6, qD 85 (.mv (.t 12)) 7, eD 80 (.call 93 [(.t 78), (.t 79)]) 2 [3, 6], eD 83 (.call 93 [(.t 81), (.t 82)]) 5 [6], eD 86 (.call 93 [(.t 84), (.t 85)]) 8 [], qD 13 (.mv (.t 80)) 9, qD 14 (.mv (.t 83)) 10, qD 15 (.mv (.t 86)) 11])
  (.seq (.draw [1, 6, 10, 11, 12, 13, 14, 15, 16] [] [qD 87 (.load true 3 (.t 1)) 0, qD 88 (.load true 3 (.t 1)) 1, qD 89 (.load true 3 (.t 1)) 2, qD 90 (.mv (.t 13)) 3, qD 91 (.mv (.t 14)) 4, qD 93 (.mv (.t 15)) 6, qD 95 (.load true 3 (.t 1)) 8, qD 96 (.load true 3 (.t 1)) 9, qD 97 (.mv (.t 14)) 10, qD 98 (.mv (.t 15)) 11, qD 100 (.mv (.t 13)) 13, eD 92 (.call 152 [(.t 89), (.t 90), (.t 91)]) 5 [0, 1, 8, 9], eD 94 (.call 152 [(.t 88), (.t 92), (.t 93)]) 7 [0, 8, 9], eD 99 (.call 152 [(.t 96), (.t 97), (.t 98)]) 12 [0, 8], eD 101 (.call 152 [(.t 95), (.t 99), (.t 100)]) 14 [0], eD 102 (.call 92 [(.t 87), (.c (.int .i64 1)), (.t 94), (.c (.int .i64 1)), (.t 101)]) 15 [], qD 16 (.mv (.t 102)) 16])
  (.seq (.draw [1, 6, 10, 11, 12, 114] [] [qD 103 (.load true 3 (.t 1)) 0, qD 104 (.mv (.t 16)) 1, qD 105 (.load true 3 (.t 1)) 2, qD 106 (.load true 3 (.t 1)) 3, qD 107 (.mv (.t 15)) 4, qD 108 (.mv (.t 13)) 5, qD 110 (.mv (.t 14)) 7, eD 109 (.call 152 [(.t 106), (.t 107), (.t 108)]) 6 [0, 2], eD 111 (.call 152 [(.t 105), (.t 109), (.t 110)]) 8 [0], eD 112 (.call 92 [(.t 103), (.c (.int .i64 1)), (.t 104), (.c (.int .i64 1)), (.t 111)]) 9 [], eD 113 (.call 65 [(.t 112)]) 10 [], qD 114 (.un .not (.t 113)) 11])
  (.cond (.t 114) (.seq (.region [2, 3, 4, 5] [qI 115 (.mv (.t 10)), qI 116 (.mv (.t 11)), qI 117 (.mv (.t 12)), qI 2 (.mv (.c (.int .i64 2))), qI 3 (.mv (.t 115)), qI 4 (.mv (.t 116)), qI 5 (.mv (.t 117))])
  .ret) .skip)))))
  (.region [1, 6, 10, 11, 12] [qI 76 (.mv (.t 12)), qI 77 (.bin .add .other (.t 76) (.c (.int .i64 1))), qI 12 (.mv (.t 77))])))))))
  (.region [1, 6, 10, 11] [qI 69 (.mv (.t 11)), qI 70 (.bin .add .other (.t 69) (.c (.int .i64 1))), qI 11 (.mv (.t 70))])))))))
  (.region [1, 6, 10] [qI 62 (.mv (.t 10)), qI 63 (.bin .add .other (.t 62) (.c (.int .i64 1))), qI 10 (.mv (.t 63))]))))))
  (.seq (.region [2, 3, 4, 5] [qI 2 (.mv (.c (.int .i64 0))), qI 3 (.mv (.c (.int .i64 0))), qI 4 (.mv (.c (.int .i64 0))), qI 5 (.mv (.c (.int .i64 0)))])
  .ret)))))⟩
theorem cf100 : cF Try.prog Try.f100 = some if100 := by kernel_rfl
/-- loop.example/g01076/spec.l31At -/
def if101 : IFn := ⟨[0, 1], [(.tmp 4)], (.seq (.region [1, 2] [eI 2 (.box (.t 0)), qI 4 (.mv (.c .nils))])
  (.seq (.region [1, 2, 5] [qI 7 (.load true 3 (.t 2)), eI 8 (.call 58 [(.t 7)]), qI 5 (.mv (.t 8))])
  (.seq (.seq (.region [1, 2, 5, 6] [qI 9 (.mv (.t 5)), qI 10 (.len (.t 9)), qI 11 (.bin .sub .other (.t 10) (.c (.int .i64 1))), qI 6 (.mv (.t 11))])
  (.block 0 (.loop [1, 2, 5, 6] (.seq (.seq (.region [1, 2, 5, 6, 13] [qI 12 (.mv (.t 6)), qI 13 (.bin .geq .other (.t 12) (.c (.int .i64 0)))])
  (.cond (.t 13) .skip (.exit 0)))
  (.seq (.block 1 (.seq (.region [1, 2, 5, 6] [qI 16 (.mv (.t 5)), qI 17 (.mv (.t 6)), qI 18 (.mv (.t 1)), qI 19 (.fieldAddr 0 (.t 2)), qI 20 (.load false 1 (.t 19)), qI 21 (.bin .rem .other (.t 18) (.t 20)), qI 22 (.indexAddr 1 (.t 16) (.t 17)), nI (.store 1 (.t 22) (.t 21))])
  (.region [1, 2, 5, 6] [qI 23 (.mv (.t 1)), qI 24 (.fieldAddr 0 (.t 2)), qI 25 (.load false 1 (.t 24)), qI 26 (.bin .quo .other (.t 23) (.t 25)), qI 1 (.mv (.t 26))])))
  (.region [1, 2, 5, 6] [qI 14 (.mv (.t 6)), qI 15 (.bin .sub .other (.t 14) (.c (.int .i64 1))), qI 6 (.mv (.t 15))]))))))
  (.seq (.region [4] [qI 27 (.mv (.t 5)), qI 4 (.mv (.t 27))])
  .ret))))⟩
theorem cf101 : cF Try.prog Try.f101 = some if101 := by kernel_rfl
/-- loop.example/g01076/spec.l32Span -/
def if102 : IFn := ⟨[0, 1], [(.tmp 4)], (.seq (.region [1, 2] [eI 2 (.box (.t 0)), qI 4 (.mv (.c .nils))])
  (.seq (.region [1, 2, 5] [eI 10 (.buildSl 1 0 [.nils] []), qI 5 (.mv (.t 10))])
  (.seq (.seq (.region [1, 2, 5, 6] [qI 6 (.mv (.c (.int .i64 0)))])
  (.block 0 (.loop [1, 2, 5, 6] (.seq (.seq (.region [1, 2, 5, 6, 14] [qI 11 (.mv (.t 6)), qI 12 (.mv (.t 1)), qI 13 (.len (.t 12)), qI 14 (.bin .lss .other (.t 11) (.t 13))])
  (.cond (.t 14) .skip (.exit 0)))
  (.seq (.block 1 (.seq (.draw [1, 2, 5, 6, 7] [] [qD 17 (.load true 3 (.t 2)) 0, qD 18 (.mv (.t 5)) 1, qD 19 (.mv (.t 1)) 2, qD 20 (.mv (.t 6)) 3, qD 21 (.indexAddr 1 (.t 19) (.t 20)) 4, qD 22 (.load false 1 (.t 21)) 5, eD 23 (.call 154 [(.t 17), (.t 18), (.t 22)]) 6 [], qD 7 (.mv (.t 23)) 7])
  (.block 2 (.loop [1, 2, 5, 6, 7] (.seq (.seq (.region [1, 2, 5, 6, 7, 26] [qI 24 (.mv (.t 7)), eI 25 (.call 65 [(.t 24)]), qI 26 (.un .not (.t 25))])
  (.cond (.t 26) .skip (.exit 2)))
  (.block 3 (.seq (.draw [1, 2, 5, 6, 7] [] [qD 27 (.load true 3 (.t 2)) 0, qD 28 (.mv (.t 7)) 1, qD 29 (.mv (.t 7)) 2, qD 33 (.fieldAddr 0 (.t 2)) 6, qD 34 (.load false 1 (.t 33)) 7, qD 36 (.mv (.t 7)) 9, qD 37 (.mv (.t 7)) 10, eD 30 (.call 156 [(.t 29)]) 3 [0, 7], qD 31 (.indexAddr 1 (.t 28) (.t 30)) 4, qD 32 (.load false 1 (.t 31)) 5, eD 35 (.call 155 [(.t 32), (.t 34)]) 8 [0], eD 38 (.call 92 [(.t 27), (.t 35), (.t 36), (.c (.int .i64 0)), (.t 37)]) 11 [], qD 7 (.mv (.t 38)) 12])
  (.seq (.region [1, 2, 5, 6, 7] [qI 39 (.mv (.t 5)), qI 40 (.mv (.t 7)), eI 41 (.call 157 [(.t 39), (.t 40)]), qI 5 (.mv (.t 41))])
  (.draw [1, 2, 5, 6, 7] [] [qD 42 (.load true 3 (.t 2)) 0, qD 43 (.mv (.t 5)) 1, qD 44 (.load true 3 (.t 2)) 2, qD 45 (.fieldAddr 0 (.t 2)) 3, qD 46 (.load false 1 (.t 45)) 4, qD 47 (.mv (.t 7)) 5, qD 48 (.mv (.t 7)) 6, eD 49 (.call 92 [(.t 44), (.t 46), (.t 47), (.c (.int .i64 0)), (.t 48)]) 7 [0], eD 50 (.call 154 [(.t 42), (.t 43), (.t 49)]) 8 [], qD 7 (.mv (.t 50)) 9])))))))))
  (.region [1, 2, 5, 6] [qI 15 (.mv (.t 6)), qI 16 (.bin .add .other (.t 15) (.c (.int .i64 1))), qI 6 (.mv (.t 16))]))))))
  (.seq (.region [2, 5, 8] [eI 51 (.buildSl 1 0 [.nils] []), qI 8 (.mv (.t 51))])
  (.seq (.seq (.region [2, 5, 8, 9] [qI 9 (.mv (.c (.int .i64 0)))])
  (.block 4 (.loop [2, 5, 8, 9] (.seq (.seq (.region [2, 5, 8, 9, 55] [qI 52 (.mv (.t 9)), qI 53 (.mv (.t 5)), qI 54 (.len (.t 53)), qI 55 (.bin .lss .other (.t 52) (.t 54))])
  (.cond (.t 55) .skip (.exit 4)))
  (.seq (.block 5 (.draw [2, 5, 8, 9] [] [qD 58 (.mv (.t 8)) 0, qD 59 (.load true 3 (.t 2)) 1, qD 60 (.mv (.t 5)) 2, qD 61 (.mv (.t 9)) 3, qD 62 (.bin .add .other (.t 61) (.c (.int .i64 1))) 4, qD 63 (.slice 1 (.t 60) (some (.t 62)) none none) 5, qD 64 (.mv (.t 5)) 6, qD 65 (.mv (.t 9)) 7, qD 66 (.indexAddr 1 (.t 64) (.t 65)) 8, qD 67 (.load false 1 (.t 66)) 9, eD 68 (.call 154 [(.t 59), (.t 63), (.t 67)]) 10 [], eD 69 (.buildSl 1 1 [.nils] [(0, 1, (.t 68))]) 11 [], eD 70 (.append 1 24 (.t 58) (.t 69)) 12 [], qD 8 (.mv (.t 70)) 13]))
  (.region [2, 5, 8, 9] [qI 56 (.mv (.t 9)), qI 57 (.bin .add .other (.t 56) (.c (.int .i64 1))), qI 9 (.mv (.t 57))]))))))
  (.seq (.region [4] [qI 71 (.mv (.t 8)), qI 4 (.mv (.t 71))])
  .ret))))))⟩
theorem cf102 : cF Try.prog Try.f102 = some if102 := by kernel_rfl
/-- loop.example/g01076/spec.l34Keeps -/
def if103 : IFn := ⟨[0, 1, 2, 3], [(.tmp 8)], (.seq (.region [2, 3, 4, 5] [eI 4 (.box (.t 0)), eI 5 (.box (.t 1)), qI 8 (.mv (.c (.bool false)))])
  (.seq (.seq (.draw [2, 3, 4, 5, 31] [] [qD 10 (.load true 3 (.t 5)) 0, qD 11 (.fieldAddr 0 (.t 4)) 1, qD 12 (.load false 1 (.t 11)) 2, qD 13 (.mv (.t 2)) 3, qD 14 (.mv (.t 3)) 4, qD 15 (.indexAddr 1 (.t 13) (.t 14)) 5, qD 16 (.load false 1 (.t 15)) 6, qD 17 (.mv (.t 2)) 7, qD 18 (.mv (.t 3)) 8, qD 19 (.indexAddr 1 (.t 17) (.t 18)) 9, qD 20 (.load false 1 (.t 19)) 10, qD 22 (.load true 3 (.t 5)) 12, qD 23 (.mv (.t 2)) 13, qD 24 (.fieldAddr 1 (.t 4)) 14, qD 25 (.load false 1 (.t 24)) 15, qD 26 (.mv (.t 3)) 16, qD 27 (.indexAddr 1 (.t 25) (.t 26)) 17, qD 28 (.load false 1 (.t 27)) 18, eD 21 (.call 92 [(.t 10), (.t 12), (.t 16), (.c (.int .i64 0)), (.t 20)]) 11 [12, 15, 18], eD 29 (.call 158 [(.t 22), (.t 23), (.t 28)]) 19 [], eD 30 (.call 153 [(.t 21), (.t 29)]) 20 [], qD 31 (.un .not (.t 30)) 21])
  (.cond (.t 31) (.seq (.region [8] [qI 8 (.mv (.c (.bool false)))])
  .ret) .skip))
  (.seq (.seq (.region [2, 3, 4, 5, 9] [qI 32 (.mv (.t 3)), qI 33 (.bin .add .other (.t 32) (.c (.int .i64 1))), qI 9 (.mv (.t 33))])
  (.block 0 (.loop [2, 3, 4, 5, 9] (.seq (.seq (.region [2, 3, 4, 5, 9, 37] [qI 34 (.mv (.t 9)), qI 35 (.mv (.t 2)), qI 36 (.len (.t 35)), qI 37 (.bin .lss .other (.t 34) (.t 36))])
  (.cond (.t 37) .skip (.exit 0)))
  (.seq (.block 1 (.seq (.draw [2, 3, 4, 5, 9, 65] [] [qD 40 (.load true 3 (.t 5)) 0, qD 41 (.mv (.t 2)) 1, qD 42 (.mv (.t 3)) 2, qD 43 (.indexAddr 1 (.t 41) (.t 42)) 3, qD 44 (.load false 1 (.t 43)) 4, qD 45 (.mv (.t 2)) 5, qD 46 (.mv (.t 9)) 6, qD 47 (.indexAddr 1 (.t 45) (.t 46)) 7, qD 48 (.load false 1 (.t 47)) 8, qD 50 (.load true 3 (.t 5)) 10, qD 51 (.mv (.t 2)) 11, qD 52 (.fieldAddr 2 (.t 4)) 12, qD 53 (.load false 1 (.t 52)) 13, qD 54 (.mv (.t 3)) 14, qD 55 (.indexAddr 1 (.t 53) (.t 54)) 15, qD 56 (.load false 1 (.t 55)) 16, qD 57 (.mv (.t 9)) 17, qD 58 (.mv (.t 3)) 18, qD 59 (.bin .sub .other (.t 57) (.t 58)) 19, qD 60 (.bin .sub .other (.t 59) (.c (.int .i64 1))) 20, qD 61 (.indexAddr 1 (.t 56) (.t 60)) 21, qD 62 (.load false 1 (.t 61)) 22, eD 49 (.call 152 [(.t 40), (.t 44), (.t 48)]) 9 [10, 13, 16, 22], eD 63 (.call 158 [(.t 50), (.t 51), (.t 62)]) 23 [], eD 64 (.call 153 [(.t 49), (.t 63)]) 24 [], qD 65 (.un .not (.t 64)) 25])
  (.cond (.t 65) (.seq (.region [8] [qI 8 (.mv (.c (.bool false)))])
  .ret) .skip)))
  (.region [2, 3, 4, 5, 9] [qI 38 (.mv (.t 9)), qI 39 (.bin .add .other (.t 38) (.c (.int .i64 1))), qI 9 (.mv (.t 39))]))))))
  (.seq (.region [8] [qI 8 (.mv (.c (.bool true)))])
  .ret))))⟩
theorem cf103 : cF Try.prog Try.f103 = some if103 := by kernel_rfl
/-- loop.example/g01076/impl.IsLieShape -/
def if104 : IFn := ⟨[0], [(.tmp 2)], (.seq (.region [1] [eI 1 (.box (.t 0)), qI 2 (.mv (.c (.bool false)))])
  (.seq (.region [1, 3] [qI 8 (.fieldAddr 1 (.t 1)), qI 9 (.load false 1 (.t 8)), qI 10 (.len (.t 9)), qI 3 (.mv (.t 10))])
  (.seq (.seq (.region [1, 3, 32] [qI 11 (.mv (.t 3)), qI 12 (.bin .gtr .other (.t 11) (.c (.int .i64 6))), qI 13 (.mv (.t 12)), ⟨(some 14), .fieldAddr 2 (.t 1), true, (some (13, false))⟩, ⟨(some 15), .load false 1 (.t 14), true, (some (13, false))⟩, ⟨(some 16), .len (.t 15), true, (some (13, false))⟩, ⟨(some 17), .mv (.t 3), true, (some (13, false))⟩, ⟨(some 18), .bin .neq .other (.t 16) (.t 17), true, (some (13, false))⟩, qI 19 (.pick (.t 13) (.c (.bool true)) (.t 18)), qI 20 (.mv (.t 19)), ⟨(some 21), .fieldAddr 0 (.t 1), true, (some (20, false))⟩, ⟨(some 22), .load false 1 (.t 21), true, (some (20, false))⟩, ⟨(some 23), .call 132 [(.t 22)], false, (some (20, false))⟩, ⟨(some 24), .un .not (.t 23), true, (some (20, false))⟩, qI 25 (.pick (.t 20) (.c (.bool true)) (.t 24)), qI 26 (.mv (.t 25)), ⟨(some 27), .fieldAddr 0 (.t 1), true, (some (26, false))⟩, ⟨(some 28), .load false 1 (.t 27), true, (some (26, false))⟩, ⟨(some 29), .mv (.t 3), true, (some (26, false))⟩, ⟨(some 30), .call 61 [(.t 28), (.t 29)], false, (some (26, false))⟩, ⟨(some 31), .bin .gtr .other (.t 30) (.c (.int .i64 729)), true, (some (26, false))⟩, qI 32 (.pick (.t 26) (.c (.bool true)) (.t 31))])
  (.cond (.t 32) (.seq (.region [2] [qI 2 (.mv (.c (.bool false)))])
  .ret) .skip))
  (.seq (.seq (.region [1, 3, 34, 35, 36] [qI 33 (.fieldAddr 1 (.t 1)), qI 34 (.load false 1 (.t 33)), qI 35 (.len (.t 34)), qI 36 (.mv (.c (.int .i64 0)))])
  (.block 0 (.loop [1, 3, 34, 35, 36] (.seq (.region [1, 3, 34, 35, 36, 37] [qI 37 (.bin .lss .other (.t 36) (.t 35))])
  (.seq (.cond (.t 37) .skip (.exit 0))
  (.seq (.block 1 (.seq (.region [1, 3, 4, 5, 34, 35, 36] [qI 38 (.mv (.t 36)), qI 39 (.indexAddr 1 (.t 34) (.t 36)), qI 40 (.load false 1 (.t 39)), qI 4 (.mv (.t 38)), qI 5 (.mv (.t 40))])
  (.seq (.seq (.region [1, 3, 4, 34, 35, 36, 64] [qI 41 (.mv (.t 5)), eI 42 (.call 144 [(.t 1), (.t 41)]), qI 43 (.un .not (.t 42)), qI 44 (.mv (.t 43)), ⟨(some 45), .mv (.t 5), true, (some (44, false))⟩, ⟨(some 46), .mv (.t 4), true, (some (44, false))⟩, ⟨(some 47), .bin .add .other (.t 46) (.c (.int .i64 1)), true, (some (44, false))⟩, ⟨(some 48), .slice 1 (.t 45) none (some (.t 47)) none, true, (some (44, false))⟩, ⟨(some 49), .call 108 [(.t 48)], false, (some (44, false))⟩, ⟨(some 50), .un .not (.t 49), true, (some (44, false))⟩, qI 51 (.pick (.t 44) (.c (.bool true)) (.t 50)), qI 52 (.mv (.t 51)), ⟨(some 53), .fieldAddr 2 (.t 1), true, (some (52, false))⟩, ⟨(some 54), .load false 1 (.t 53), true, (some (52, false))⟩, ⟨(some 55), .mv (.t 4), true, (some (52, false))⟩, ⟨(some 56), .indexAddr 1 (.t 54) (.t 55), true, (some (52, false))⟩, ⟨(some 57), .load false 1 (.t 56), true, (some (52, false))⟩, ⟨(some 58), .len (.t 57), true, (some (52, false))⟩, ⟨(some 59), .mv (.t 3), true, (some (52, false))⟩, ⟨(some 60), .bin .sub .other (.t 59) (.c (.int .i64 1)), true, (some (52, false))⟩, ⟨(some 61), .mv (.t 4), true, (some (52, false))⟩, ⟨(some 62), .bin .sub .other (.t 60) (.t 61), true, (some (52, false))⟩, ⟨(some 63), .bin .neq .other (.t 58) (.t 62), true, (some (52, false))⟩, qI 64 (.pick (.t 52) (.c (.bool true)) (.t 63))])
  (.cond (.t 64) (.seq (.region [2] [qI 2 (.mv (.c (.bool false)))])
  .ret) .skip))
  (.seq (.region [1, 3, 4, 34, 35, 36, 69, 70, 71] [qI 65 (.fieldAddr 2 (.t 1)), qI 66 (.load false 1 (.t 65)), qI 67 (.mv (.t 4)), qI 68 (.indexAddr 1 (.t 66) (.t 67)), qI 69 (.load false 1 (.t 68)), qI 70 (.len (.t 69)), qI 71 (.mv (.c (.int .i64 0)))])
  (.block 2 (.loop [1, 3, 4, 34, 35, 36, 69, 70, 71] (.seq (.region [1, 3, 4, 34, 35, 36, 69, 70, 71, 72] [qI 72 (.bin .lss .other (.t 71) (.t 70))])
  (.seq (.cond (.t 72) .skip (.exit 2))
  (.seq (.block 3 (.seq (.region [1, 3, 4, 6, 7, 34, 35, 36, 69, 70, 71] [qI 73 (.mv (.t 71)), qI 74 (.indexAddr 1 (.t 69) (.t 71)), qI 75 (.load false 1 (.t 74)), qI 6 (.mv (.t 73)), qI 7 (.mv (.t 75))])
  (.seq (.region [1, 3, 4, 34, 35, 36, 69, 70, 71, 88] [qI 76 (.mv (.t 7)), eI 77 (.call 144 [(.t 1), (.t 76)]), qI 78 (.un .not (.t 77)), qI 79 (.mv (.t 78)), ⟨(some 80), .mv (.t 7), true, (some (79, false))⟩, ⟨(some 81), .mv (.t 4), true, (some (79, false))⟩, ⟨(some 82), .mv (.t 6), true, (some (79, false))⟩, ⟨(some 83), .bin .add .other (.t 81) (.t 82), true, (some (79, false))⟩, ⟨(some 84), .bin .add .other (.t 83) (.c (.int .i64 2)), true, (some (79, false))⟩, ⟨(some 85), .slice 1 (.t 80) none (some (.t 84)) none, true, (some (79, false))⟩, ⟨(some 86), .call 108 [(.t 85)], false, (some (79, false))⟩, ⟨(some 87), .un .not (.t 86), true, (some (79, false))⟩, qI 88 (.pick (.t 79) (.c (.bool true)) (.t 87))])
  (.cond (.t 88) (.seq (.region [2] [qI 2 (.mv (.c (.bool false)))])
  .ret) .skip))))
  (.region [1, 3, 4, 34, 35, 36, 69, 70, 71] [qI 89 (.bin .add .other (.t 71) (.c (.int .i64 1))), qI 71 (.mv (.t 89))]))))))))))
  (.region [1, 3, 34, 35, 36] [qI 90 (.bin .add .other (.t 36) (.c (.int .i64 1))), qI 36 (.mv (.t 90))])))))))
  (.seq (.region [2] [qI 2 (.mv (.c (.bool true)))])
  .ret)))))⟩
theorem cf104 : cF Try.prog Try.f104 = some if104 := by kernel_rfl
/-- loop.example/g01076/impl.lieFault -/
def if105 : IFn := ⟨[0], [(.tmp 2), (.tmp 3), (.tmp 4), (.tmp 5)], (.seq (.region [0] [qI 2 (.mv (.c (.int .i64 0))), qI 3 (.mv (.c (.int .i64 0))), qI 4 (.mv (.c (.int .i64 0))), qI 5 (.mv (.c (.int .i64 0)))])
  (.seq (.region [0, 6] [qI 18 (.mv (.t 0)), qI 19 (.nilCheck (.t 18)), qI 20 (.fieldAddr 1 (.t 19)), qI 21 (.load false 1 (.t 20)), qI 22 (.len (.t 21)), qI 6 (.mv (.t 22))])
  (.seq (.seq (.region [0, 6, 23, 24] [qI 23 (.mv (.t 6)), qI 24 (.mv (.c (.int .i64 0)))])
  (.block 0 (.loop [0, 6, 23, 24] (.seq (.region [0, 6, 23, 24, 25] [qI 25 (.bin .lss .other (.t 24) (.t 23))])
  (.seq (.cond (.t 25) .skip (.exit 0))
  (.seq (.block 1 (.seq (.region [0, 6, 7, 23, 24] [qI 26 (.mv (.t 24)), qI 7 (.mv (.t 26))])
  (.seq (.region [0, 6, 7, 23, 24, 27, 28] [qI 27 (.mv (.t 6)), qI 28 (.mv (.c (.int .i64 0)))])
  (.block 2 (.loop [0, 6, 7, 23, 24, 27, 28] (.seq (.region [0, 6, 7, 23, 24, 27, 28, 29] [qI 29 (.bin .lss .other (.t 28) (.t 27))])
  (.seq (.cond (.t 29) .skip (.exit 2))
  (.seq (.block 3 (.seq (.region [0, 6, 7, 8, 23, 24, 27, 28] [qI 30 (.mv (.t 28)), qI 8 (.mv (.t 30))])
  (.seq (.region [0, 6, 7, 8, 9, 10, 23, 24, 27, 28] [qI 31 (.mv (.t 6)), qI 32 (.mv (.t 7)), eI 33 (.call 98 [(.t 31), (.t 32)]), qI 34 (.mv (.t 6)), qI 35 (.mv (.t 8)), eI 36 (.call 98 [(.t 34), (.t 35)]), qI 9 (.mv (.t 33)), qI 10 (.mv (.t 36))])
  (.seq (.draw [0, 6, 7, 8, 23, 24, 27, 28, 58] [] [qD 37 (.mv (.t 0)) 0, qD 38 (.mv (.t 0)) 1, qD 39 (.nilCheck (.t 38)) 2, qD 40 (.fieldAddr 0 (.t 39)) 3, qD 41 (.load false 1 (.t 40)) 4, qD 42 (.mv (.t 0)) 5, qD 43 (.mv (.t 9)) 6, qD 44 (.mv (.t 10)) 7, qD 47 (.mv (.t 0)) 10, qD 48 (.mv (.t 0)) 11, qD 49 (.nilCheck (.t 48)) 12, qD 50 (.fieldAddr 1 (.t 49)) 13, qD 51 (.load false 1 (.t 50)) 14, qD 52 (.mv (.t 7)) 15, qD 53 (.indexAddr 1 (.t 51) (.t 52)) 16, qD 54 (.load false 1 (.t 53)) 17, qD 55 (.mv (.t 10)) 18, eD 45 (.call 160 [(.t 42), (.t 43), (.t 44)]) 8 [4, 14, 17], eD 46 (.call 97 [(.t 37), (.t 41), (.t 45)]) 9 [14, 17], eD 56 (.call 160 [(.t 47), (.t 54), (.t 55)]) 19 [], eD 57 (.call 159 [(.t 46), (.t 56)]) 20 [], qD 58 (.un .not (.t 57)) 21])
  (.cond (.t 58) (.seq (.region [2, 3, 4, 5] [qI 59 (.mv (.t 7)), qI 60 (.mv (.t 8)), qI 2 (.mv (.c (.int .i64 1))), qI 3 (.mv (.t 59)), qI 4 (.mv (.t 60)), qI 5 (.mv (.c (.int .i64 0)))])
  .ret) .skip)))))
  (.region [0, 6, 7, 23, 24, 27, 28] [qI 61 (.bin .add .other (.t 28) (.c (.int .i64 1))), qI 28 (.mv (.t 61))])))))))))
  (.region [0, 6, 23, 24] [qI 62 (.bin .add .other (.t 24) (.c (.int .i64 1))), qI 24 (.mv (.t 62))])))))))
  (.seq (.seq (.region [0, 6, 63, 64] [qI 63 (.mv (.t 6)), qI 64 (.mv (.c (.int .i64 0)))])
  (.block 4 (.loop [0, 6, 63, 64] (.seq (.region [0, 6, 63, 64, 65] [qI 65 (.bin .lss .other (.t 64) (.t 63))])
  (.seq (.cond (.t 65) .skip (.exit 4))
  (.seq (.block 5 (.seq (.region [0, 6, 11, 63, 64] [qI 66 (.mv (.t 64)), qI 11 (.mv (.t 66))])
  (.seq (.region [0, 6, 11, 12, 63, 64] [qI 67 (.mv (.t 11)), qI 68 (.bin .add .other (.t 67) (.c (.int .i64 1))), qI 12 (.mv (.t 68))])
  (.block 6 (.loop [0, 6, 11, 12, 63, 64] (.seq (.seq (.region [0, 6, 11, 12, 63, 64, 71] [qI 69 (.mv (.t 12)), qI 70 (.mv (.t 6)), qI 71 (.bin .lss .other (.t 69) (.t 70))])
  (.cond (.t 71) .skip (.exit 6)))
  (.seq (.block 7 (.seq (.region [0, 6, 11, 12, 13, 63, 64] [qI 74 (.mv (.t 12)), qI 75 (.bin .add .other (.t 74) (.c (.int .i64 1))), qI 13 (.mv (.t 75))])
  (.block 8 (.loop [0, 6, 11, 12, 13, 63, 64] (.seq (.seq (.region [0, 6, 11, 12, 13, 63, 64, 78] [qI 76 (.mv (.t 13)), qI 77 (.mv (.t 6)), qI 78 (.bin .lss .other (.t 76) (.t 77))])
  (.cond (.t 78) .skip (.exit 8)))
  (.seq (.block 9 (.seq (.region [0, 6, 11, 12, 13, 14, 15, 16, 63, 64] [qI 81 (.mv (.t 6)), qI 82 (.mv (.t 11)), eI 83 (.call 98 [(.t 81), (.t 82)]), qI 84 (.mv (.t 6)), qI 85 (.mv (.t 12)), eI 86 (.call 98 [(.t 84), (.t 85)]), qI 87 (.mv (.t 6)), qI 88 (.mv (.t 13)), eI 89 (.call 98 [(.t 87), (.t 88)]), qI 14 (.mv (.t 83)), qI 15 (.mv (.t 86)), qI 16 (.mv (.t 89))])
  (.seq (.region [0, 6, 11, 12, 13, 14, 15, 16, 17, 63, 64] [qI 90 (.mv (.t 0)), qI 91 (.mv (.t 0)), qI 92 (.mv (.t 0)), qI 93 (.mv (.t 14)), qI 94 (.mv (.t 15)), eI 95 (.call 160 [(.t 92), (.t 93), (.t 94)]), qI 96 (.mv (.t 16)), eI 97 (.call 160 [(.t 91), (.t 95), (.t 96)]), qI 98 (.mv (.t 0)), qI 99 (.mv (.t 0)), qI 100 (.mv (.t 15)), qI 101 (.mv (.t 16)), eI 102 (.call 160 [(.t 99), (.t 100), (.t 101)]), qI 103 (.mv (.t 14)), eI 104 (.call 160 [(.t 98), (.t 102), (.t 103)]), eI 105 (.call 147 [(.t 90), (.t 97), (.t 104)]), qI 17 (.mv (.t 105))])
  (.seq (.region [0, 6, 11, 12, 13, 63, 64, 117] [qI 106 (.mv (.t 0)), qI 107 (.mv (.t 17)), qI 108 (.mv (.t 0)), qI 109 (.mv (.t 0)), qI 110 (.mv (.t 16)), qI 111 (.mv (.t 14)), eI 112 (.call 160 [(.t 109), (.t 110), (.t 111)]), qI 113 (.mv (.t 15)), eI 114 (.call 160 [(.t 108), (.t 112), (.t 113)]), eI 115 (.call 147 [(.t 106), (.t 107), (.t 114)]), eI 116 (.call 108 [(.t 115)]), qI 117 (.un .not (.t 116))])
  (.cond (.t 117) (.seq (.region [2, 3, 4, 5] [qI 118 (.mv (.t 11)), qI 119 (.mv (.t 12)), qI 120 (.mv (.t 13)), qI 2 (.mv (.c (.int .i64 2))), qI 3 (.mv (.t 118)), qI 4 (.mv (.t 119)), qI 5 (.mv (.t 120))])
  .ret) .skip)))))
  (.region [0, 6, 11, 12, 13, 63, 64] [qI 79 (.mv (.t 13)), qI 80 (.bin .add .other (.t 79) (.c (.int .i64 1))), qI 13 (.mv (.t 80))])))))))
  (.region [0, 6, 11, 12, 63, 64] [qI 72 (.mv (.t 12)), qI 73 (.bin .add .other (.t 72) (.c (.int .i64 1))), qI 12 (.mv (.t 73))]))))))))
  (.region [0, 6, 63, 64] [qI 121 (.bin .add .other (.t 64) (.c (.int .i64 1))), qI 64 (.mv (.t 121))])))))))
  (.seq (.region [2, 3, 4, 5] [qI 2 (.mv (.c (.int .i64 0))), qI 3 (.mv (.c (.int .i64 0))), qI 4 (.mv (.c (.int .i64 0))), qI 5 (.mv (.c (.int .i64 0)))])
  .ret)))))⟩
theorem cf105 : cF Try.prog Try.f105 = some if105 := by kernel_rfl
/-- loop.example/g01076/impl.lieSpan -/
def if106 : IFn := ⟨[0, 1], [(.tmp 4)], (.seq (.region [0, 1] [qI 4 (.mv (.c .nils))])
  (.seq (.region [0, 1, 5] [qI 13 (.mv (.t 0)), qI 14 (.nilCheck (.t 13)), qI 15 (.fieldAddr 1 (.t 14)), qI 16 (.load false 1 (.t 15)), qI 17 (.len (.t 16)), eI 18 (.makeSl 1 24 [.nils] (.t 17) (.t 17)), qI 5 (.mv (.t 18))])
  (.seq (.region [0, 5, 6] [qI 19 (.mv (.t 1)), eI 20 (.call 161 [(.t 19)]), qI 6 (.mv (.t 20))])
  (.seq (.block 0 (.loop [0, 5, 6] (.seq (.seq (.region [0, 5, 6, 23] [qI 21 (.mv (.t 6)), qI 22 (.len (.t 21)), qI 23 (.bin .gtr .other (.t 22) (.c (.int .i64 0)))])
  (.cond (.t 23) .skip (.exit 0)))
  (.block 1 (.seq (.region [0, 5, 6, 7] [qI 24 (.mv (.t 6)), qI 25 (.indexAddr 1 (.t 24) (.c (.int .i64 0))), qI 26 (.load false 1 (.t 25)), qI 7 (.mv (.t 26))])
  (.seq (.region [0, 5, 6, 7] [qI 27 (.mv (.t 6)), qI 28 (.slice 1 (.t 27) (some (.c (.int .i64 1))) none none), qI 6 (.mv (.t 28))])
  (.seq (.region [0, 5, 6, 7, 8] [qI 29 (.mv (.t 7)), eI 30 (.call 162 [(.t 29)]), qI 8 (.mv (.t 30))])
  (.seq (.block 2 (.loop [0, 5, 6, 7, 8] (.seq (.seq (.region [0, 5, 6, 7, 8, 41] [qI 31 (.mv (.t 8)), qI 32 (.mv (.t 7)), qI 33 (.len (.t 32)), qI 34 (.bin .lss .other (.t 31) (.t 33)), qI 35 (.mv (.t 34)), ⟨(some 36), .mv (.t 5), true, (some (35, true))⟩, ⟨(some 37), .mv (.t 8), true, (some (35, true))⟩, ⟨(some 38), .indexAddr 1 (.t 36) (.t 37), true, (some (35, true))⟩, ⟨(some 39), .load false 1 (.t 38), true, (some (35, true))⟩, ⟨(some 40), .bin .neq .slice (.t 39) (.c .nils), true, (some (35, true))⟩, qI 41 (.pick (.t 35) (.t 40) (.c (.bool false)))])
  (.cond (.t 41) .skip (.exit 2)))
  (.block 3 (.seq (.draw [0, 5, 6, 7] [] [qD 42 (.mv (.t 0)) 0, qD 43 (.mv (.t 7)) 1, qD 44 (.mv (.t 0)) 2, qD 45 (.mv (.t 7)) 3, qD 46 (.mv (.t 8)) 4, qD 47 (.indexAddr 1 (.t 45) (.t 46)) 5, qD 48 (.load false 1 (.t 47)) 6, qD 49 (.un .neg (.t 48)) 7, qD 50 (.mv (.t 5)) 8, qD 51 (.mv (.t 8)) 9, qD 52 (.indexAddr 1 (.t 50) (.t 51)) 10, qD 53 (.load false 1 (.t 52)) 11, eD 54 (.call 97 [(.t 44), (.t 49), (.t 53)]) 12 [], eD 55 (.call 147 [(.t 42), (.t 43), (.t 54)]) 13 [], qD 7 (.mv (.t 55)) 14])
  (.region [0, 5, 6, 7, 8] [qI 56 (.mv (.t 7)), eI 57 (.call 162 [(.t 56)]), qI 8 (.mv (.t 57))]))))))
  (.seq (.seq (.region [0, 5, 6, 7, 8, 61] [qI 58 (.mv (.t 8)), qI 59 (.mv (.t 7)), qI 60 (.len (.t 59)), qI 61 (.bin .eql .other (.t 58) (.t 60))])
  (.cond (.t 61) (.exit 1) .skip))
  (.seq (.draw [0, 5, 6, 7, 8, 9] [] [qD 63 (.mv (.t 7)) 0, qD 64 (.mv (.t 8)) 1, qD 65 (.indexAddr 1 (.t 63) (.t 64)) 2, qD 66 (.load false 1 (.t 65)) 3, qD 67 (.mv (.t 0)) 4, qD 68 (.nilCheck (.t 67)) 5, qD 69 (.fieldAddr 0 (.t 68)) 6, qD 70 (.load false 1 (.t 69)) 7, eD 71 (.call 163 [(.t 66), (.t 70)]) 8 [], qD 62 (.mv (.t 71)) 9, qD 72 (.extract (.t 62) 0) 10, qD 73 (.extract (.t 62) 1) 11, qD 9 (.mv (.t 72)) 12, qD 10 (.mv (.t 73)) 13])
  (.seq (.region [0, 5, 6, 8] [qI 74 (.mv (.t 5)), qI 75 (.mv (.t 8)), qI 76 (.mv (.t 0)), qI 77 (.mv (.t 9)), qI 78 (.mv (.t 7)), eI 79 (.call 97 [(.t 76), (.t 77), (.t 78)]), qI 80 (.indexAddr 1 (.t 74) (.t 75)), nI (.store 1 (.t 80) (.t 79))])
  (.draw [0, 5, 6] [] [qD 81 (.mv (.t 6)) 0, qD 82 (.mv (.t 0)) 1, qD 83 (.mv (.t 0)) 2, qD 84 (.nilCheck (.t 83)) 3, qD 85 (.fieldAddr 0 (.t 84)) 4, qD 86 (.load false 1 (.t 85)) 5, qD 87 (.mv (.t 5)) 6, qD 88 (.mv (.t 8)) 7, qD 89 (.indexAddr 1 (.t 87) (.t 88)) 8, qD 90 (.load false 1 (.t 89)) 9, eD 91 (.call 97 [(.t 82), (.t 86), (.t 90)]) 10 [], eD 92 (.buildSl 1 1 [.nils] [(0, 1, (.t 91))]) 11 [], eD 93 (.append 1 24 (.t 81) (.t 92)) 12 [], qD 6 (.mv (.t 93)) 13]))))))))))))
  (.seq (.region [0, 5, 11] [qI 11 (.mv (.c .nils))])
  (.seq (.seq (.region [0, 5, 11, 12] [qI 94 (.mv (.t 5)), qI 95 (.len (.t 94)), qI 96 (.bin .sub .other (.t 95) (.c (.int .i64 1))), qI 12 (.mv (.t 96))])
  (.block 4 (.loop [0, 5, 11, 12] (.seq (.seq (.region [0, 5, 11, 12, 98] [qI 97 (.mv (.t 12)), qI 98 (.bin .geq .other (.t 97) (.c (.int .i64 0)))])
  (.cond (.t 98) .skip (.exit 4)))
  (.seq (.block 5 (.seq (.region [0, 5, 11, 12, 105] [qI 101 (.mv (.t 5)), qI 102 (.mv (.t 12)), qI 103 (.indexAddr 1 (.t 101) (.t 102)), qI 104 (.load false 1 (.t 103)), qI 105 (.bin .neq .slice (.t 104) (.c .nils))])
  (.cond (.t 105) (.region [0, 5, 11, 12] [qI 106 (.mv (.t 0)), qI 107 (.mv (.t 11)), qI 108 (.mv (.t 5)), qI 109 (.mv (.t 12)), qI 110 (.indexAddr 1 (.t 108) (.t 109)), qI 111 (.load false 1 (.t 110)), eI 112 (.call 109 [(.t 106), (.t 107), (.t 111)]), eI 113 (.buildSl 1 1 [.nils] [(0, 1, (.t 112))]), qI 114 (.mv (.t 11)), eI 115 (.append 1 24 (.t 113) (.t 114)), qI 11 (.mv (.t 115))]) .skip)))
  (.region [0, 5, 11, 12] [qI 99 (.mv (.t 12)), qI 100 (.bin .sub .other (.t 99) (.c (.int .i64 1))), qI 12 (.mv (.t 100))]))))))
  (.seq (.region [4] [qI 116 (.mv (.t 11)), qI 4 (.mv (.t 116))])
  .ret)))))))⟩
theorem cf106 : cF Try.prog Try.f106 = some if106 := by kernel_rfl
/-- loop.example/g01076/impl.allLie -/
def if107 : IFn := ⟨[0], [(.tmp 2)], (.seq (.region [0] [qI 2 (.mv (.c .nils))])
  (.seq (.region [0, 3] [eI 8 (.buildSl 1 0 [(.int .i64 0)] []), eI 9 (.buildSl 1 1 [.nils] [(0, 1, (.t 8))]), qI 3 (.mv (.t 9))])
  (.seq (.seq (.region [0, 3, 14, 15] [qI 10 (.mv (.t 0)), qI 11 (.nilCheck (.t 10)), qI 12 (.fieldAddr 1 (.t 11)), qI 13 (.load false 1 (.t 12)), qI 14 (.len (.t 13)), qI 15 (.mv (.c (.int .i64 0)))])
  (.block 0 (.loop [0, 3, 14, 15] (.seq (.region [0, 3, 14, 15, 16] [qI 16 (.bin .lss .other (.t 15) (.t 14))])
  (.seq (.cond (.t 16) .skip (.exit 0))
  (.seq (.block 1 (.seq (.region [0, 3, 4, 14, 15] [qI 4 (.mv (.c .nils))])
  (.seq (.seq (.region [0, 4, 14, 15, 17, 18, 19] [qI 17 (.mv (.t 3)), qI 18 (.len (.t 17)), qI 19 (.mv (.c (.int .i64 0)))])
  (.block 2 (.loop [0, 4, 14, 15, 17, 18, 19] (.seq (.region [0, 4, 14, 15, 17, 18, 19, 20] [qI 20 (.bin .lss .other (.t 19) (.t 18))])
  (.seq (.cond (.t 20) .skip (.exit 2))
  (.seq (.block 3 (.seq (.region [0, 4, 6, 14, 15, 17, 18, 19] [qI 21 (.indexAddr 1 (.t 17) (.t 19)), qI 22 (.load false 1 (.t 21)), qI 6 (.mv (.t 22))])
  (.seq (.region [0, 4, 6, 14, 15, 17, 18, 19, 26, 27] [qI 23 (.mv (.t 0)), qI 24 (.nilCheck (.t 23)), qI 25 (.fieldAddr 0 (.t 24)), qI 26 (.load false 1 (.t 25)), qI 27 (.mv (.c (.int .i64 0)))])
  (.block 4 (.loop [0, 4, 6, 14, 15, 17, 18, 19, 26, 27] (.seq (.region [0, 4, 6, 14, 15, 17, 18, 19, 26, 27, 28] [qI 28 (.bin .lss .other (.t 27) (.t 26))])
  (.seq (.cond (.t 28) .skip (.exit 4))
  (.seq (.block 5 (.seq (.region [0, 4, 6, 7, 14, 15, 17, 18, 19, 26, 27] [qI 29 (.mv (.t 27)), qI 7 (.mv (.t 29))])
  (.region [0, 4, 6, 14, 15, 17, 18, 19, 26, 27] [qI 30 (.mv (.t 4)), qI 31 (.mv (.t 6)), eI 32 (.call 137 [(.t 31)]), qI 33 (.mv (.t 7)), eI 34 (.buildSl 1 1 [(.int .i64 0)] [(0, 1, (.t 33))]), eI 35 (.append 1 8 (.t 32) (.t 34)), eI 36 (.buildSl 1 1 [.nils] [(0, 1, (.t 35))]), eI 37 (.append 1 24 (.t 30) (.t 36)), qI 4 (.mv (.t 37))])))
  (.region [0, 4, 6, 14, 15, 17, 18, 19, 26, 27] [qI 38 (.bin .add .other (.t 27) (.c (.int .i64 1))), qI 27 (.mv (.t 38))])))))))))
  (.region [0, 4, 14, 15, 17, 18, 19] [qI 39 (.bin .add .other (.t 19) (.c (.int .i64 1))), qI 19 (.mv (.t 39))])))))))
  (.region [0, 3, 14, 15] [qI 40 (.mv (.t 4)), qI 3 (.mv (.t 40))]))))
  (.region [0, 3, 14, 15] [qI 41 (.bin .add .other (.t 15) (.c (.int .i64 1))), qI 15 (.mv (.t 41))])))))))
  (.seq (.region [2] [qI 42 (.mv (.t 3)), qI 2 (.mv (.t 42))])
  .ret))))⟩
theorem cf107 : cF Try.prog Try.f107 = some if107 := by kernel_rfl
/-- loop.example/g01076/impl.isZero -/
def if108 : IFn := ⟨[0], [(.tmp 2)], (.seq (.region [0] [qI 2 (.mv (.c (.bool false)))])
  (.seq (.seq (.region [5, 6, 7] [qI 5 (.mv (.t 0)), qI 6 (.len (.t 5)), qI 7 (.mv (.c (.int .i64 0)))])
  (.block 0 (.loop [5, 6, 7] (.seq (.region [5, 6, 7, 8] [qI 8 (.bin .lss .other (.t 7) (.t 6))])
  (.seq (.cond (.t 8) .skip (.exit 0))
  (.seq (.block 1 (.seq (.region [4, 5, 6, 7] [qI 9 (.indexAddr 1 (.t 5) (.t 7)), qI 10 (.load false 1 (.t 9)), qI 4 (.mv (.t 10))])
  (.seq (.region [5, 6, 7, 12] [qI 11 (.mv (.t 4)), qI 12 (.bin .neq .other (.t 11) (.c (.int .i64 0)))])
  (.cond (.t 12) (.seq (.region [2] [qI 2 (.mv (.c (.bool false)))])
  .ret) .skip))))
  (.region [5, 6, 7] [qI 13 (.bin .add .other (.t 7) (.c (.int .i64 1))), qI 7 (.mv (.t 13))])))))))
  (.seq (.region [2] [qI 2 (.mv (.c (.bool true)))])
  .ret)))⟩
theorem cf108 : cF Try.prog Try.f108 = some if108 := by kernel_rfl
/-- loop.example/g01076/impl.reduceLie -/
def if109 : IFn := ⟨[0, 1, 2], [(.tmp 6)], (.seq (.region [0, 1, 2] [qI 6 (.mv (.c .nils))])
  (.seq (.region [0, 1, 7] [qI 10 (.mv (.t 2)), eI 11 (.call 137 [(.t 10)]), qI 7 (.mv (.t 11))])
  (.seq (.seq (.region [0, 1, 7, 13, 14, 15] [qI 12 (.mv (.t 1)), eI 13 (.call 164 [(.t 12)]), qI 14 (.len (.t 13)), qI 15 (.mv (.c (.int .i64 0)))])
  (.block 0 (.loop [0, 1, 7, 13, 14, 15] (.seq (.region [0, 1, 7, 13, 14, 15, 16] [qI 16 (.bin .lss .other (.t 15) (.t 14))])
  (.seq (.cond (.t 16) .skip (.exit 0))
  (.seq (.block 1 (.seq (.region [0, 1, 7, 8, 9, 13, 14, 15] [qI 17 (.mv (.t 15)), qI 18 (.indexAddr 1 (.t 13) (.t 15)), qI 19 (.load false 1 (.t 18)), qI 8 (.mv (.t 17)), qI 9 (.mv (.t 19))])
  (.draw [0, 1, 7, 13, 14, 15] [] [qD 20 (.mv (.t 0)) 0, qD 21 (.mv (.t 7)) 1, qD 22 (.mv (.t 0)) 2, qD 23 (.mv (.t 7)) 3, qD 24 (.mv (.t 9)) 4, qD 25 (.indexAddr 1 (.t 23) (.t 24)) 5, qD 26 (.load false 1 (.t 25)) 6, qD 27 (.un .neg (.t 26)) 7, qD 28 (.mv (.t 1)) 8, qD 29 (.mv (.t 8)) 9, qD 30 (.indexAddr 1 (.t 28) (.t 29)) 10, qD 31 (.load false 1 (.t 30)) 11, eD 32 (.call 97 [(.t 22), (.t 27), (.t 31)]) 12 [], eD 33 (.call 147 [(.t 20), (.t 21), (.t 32)]) 13 [], qD 7 (.mv (.t 33)) 14])))
  (.region [0, 1, 7, 13, 14, 15] [qI 34 (.bin .add .other (.t 15) (.c (.int .i64 1))), qI 15 (.mv (.t 34))])))))))
  (.seq (.region [6] [qI 35 (.mv (.t 7)), qI 6 (.mv (.t 35))])
  .ret))))⟩
theorem cf109 : cF Try.prog Try.f109 = some if109 := by kernel_rfl
/-- loop.example/g01076/impl.lieFits -/
def if110 : IFn := ⟨[0, 1, 2, 3], [(.tmp 8)], (.seq (.region [0, 1, 2, 3] [qI 8 (.mv (.c (.bool false)))])
  (.seq (.seq (.draw [0, 1, 2, 3, 32] [] [qD 11 (.mv (.t 1)) 0, qD 12 (.mv (.t 1)) 1, qD 13 (.nilCheck (.t 12)) 2, qD 14 (.fieldAddr 0 (.t 13)) 3, qD 15 (.load false 1 (.t 14)) 4, qD 16 (.mv (.t 2)) 5, qD 17 (.mv (.t 3)) 6, qD 18 (.indexAddr 1 (.t 16) (.t 17)) 7, qD 19 (.load false 1 (.t 18)) 8, qD 21 (.mv (.t 1)) 10, qD 22 (.mv (.t 2)) 11, qD 23 (.mv (.t 0)) 12, qD 24 (.nilCheck (.t 23)) 13, qD 25 (.fieldAddr 1 (.t 24)) 14, qD 26 (.load false 1 (.t 25)) 15, qD 27 (.mv (.t 3)) 16, qD 28 (.indexAddr 1 (.t 26) (.t 27)) 17, qD 29 (.load false 1 (.t 28)) 18, eD 20 (.call 97 [(.t 11), (.t 15), (.t 19)]) 9 [15, 18], eD 30 (.call 165 [(.t 21), (.t 22), (.t 29)]) 19 [], eD 31 (.call 159 [(.t 20), (.t 30)]) 20 [], qD 32 (.un .not (.t 31)) 21])
  (.cond (.t 32) (.seq (.region [8] [qI 8 (.mv (.c (.bool false)))])
  .ret) .skip))
  (.seq (.seq (.region [1, 2, 3, 39, 40, 41] [qI 33 (.mv (.t 0)), qI 34 (.nilCheck (.t 33)), qI 35 (.fieldAddr 2 (.t 34)), qI 36 (.load false 1 (.t 35)), qI 37 (.mv (.t 3)), qI 38 (.indexAddr 1 (.t 36) (.t 37)), qI 39 (.load false 1 (.t 38)), qI 40 (.len (.t 39)), qI 41 (.mv (.c (.int .i64 0)))])
  (.block 0 (.loop [1, 2, 3, 39, 40, 41] (.seq (.region [1, 2, 3, 39, 40, 41, 42] [qI 42 (.bin .lss .other (.t 41) (.t 40))])
  (.seq (.cond (.t 42) .skip (.exit 0))
  (.seq (.block 1 (.seq (.region [1, 2, 3, 9, 10, 39, 40, 41] [qI 43 (.mv (.t 41)), qI 44 (.indexAddr 1 (.t 39) (.t 41)), qI 45 (.load false 1 (.t 44)), qI 9 (.mv (.t 43)), qI 10 (.mv (.t 45))])
  (.seq (.draw [1, 2, 3, 39, 40, 41, 64] [] [qD 46 (.mv (.t 1)) 0, qD 47 (.mv (.t 2)) 1, qD 48 (.mv (.t 3)) 2, qD 49 (.indexAddr 1 (.t 47) (.t 48)) 3, qD 50 (.load false 1 (.t 49)) 4, qD 51 (.mv (.t 2)) 5, qD 52 (.mv (.t 3)) 6, qD 53 (.bin .add .other (.t 52) (.c (.int .i64 1))) 7, qD 54 (.mv (.t 9)) 8, qD 55 (.bin .add .other (.t 53) (.t 54)) 9, qD 56 (.indexAddr 1 (.t 51) (.t 55)) 10, qD 57 (.load false 1 (.t 56)) 11, qD 59 (.mv (.t 1)) 13, qD 60 (.mv (.t 2)) 14, qD 61 (.mv (.t 10)) 15, eD 58 (.call 160 [(.t 46), (.t 50), (.t 57)]) 12 [], eD 62 (.call 165 [(.t 59), (.t 60), (.t 61)]) 16 [], eD 63 (.call 159 [(.t 58), (.t 62)]) 17 [], qD 64 (.un .not (.t 63)) 18])
  (.cond (.t 64) (.seq (.region [8] [qI 8 (.mv (.c (.bool false)))])
  .ret) .skip))))
  (.region [1, 2, 3, 39, 40, 41] [qI 65 (.bin .add .other (.t 41) (.c (.int .i64 1))), qI 41 (.mv (.t 65))])))))))
  (.seq (.region [8] [qI 8 (.mv (.c (.bool true)))])
  .ret))))⟩
theorem cf110 : cF Try.prog Try.f110 = some if110 := by kernel_rfl
/-- loop.example/g01076/spec.l01Prime -/
def if124 : IFn := ⟨[0], [(.tmp 2)], (.seq (.region [0] [qI 2 (.mv (.c (.bool false)))])
  (.seq (.region [2] [qI 3 (.mv (.t 0)), qI 4 (.bin .eql .other (.t 3) (.c (.int .i64 2))), qI 5 (.mv (.t 4)), ⟨(some 6), .mv (.t 0), true, (some (5, false))⟩, ⟨(some 7), .bin .eql .other (.t 6) (.c (.int .i64 3)), true, (some (5, false))⟩, qI 8 (.pick (.t 5) (.c (.bool true)) (.t 7)), qI 9 (.mv (.t 8)), ⟨(some 10), .mv (.t 0), true, (some (9, false))⟩, ⟨(some 11), .bin .eql .other (.t 10) (.c (.int .i64 5)), true, (some (9, false))⟩, qI 12 (.pick (.t 9) (.c (.bool true)) (.t 11)), qI 13 (.mv (.t 12)), ⟨(some 14), .mv (.t 0), true, (some (13, false))⟩, ⟨(some 15), .bin .eql .other (.t 14) (.c (.int .i64 7)), true, (some (13, false))⟩, qI 16 (.pick (.t 13) (.c (.bool true)) (.t 15)), qI 2 (.mv (.t 16))])
  .ret))⟩
theorem cf124 : cF Try.prog Try.f124 = some if124 := by kernel_rfl
/-- loop.example/g01076/spec.l01Own -/
def if127 : IFn := ⟨[0], [(.tmp 2)], (.seq (.region [0] [qI 2 (.mv (.c .nils))])
  (.seq (.region [2] [eI 3 (.buildSl 1 0 [(.int .i64 0)] []), qI 4 (.mv (.t 0)), eI 5 (.append 1 8 (.t 3) (.t 4)), qI 2 (.mv (.t 5))])
  .ret))⟩
theorem cf127 : cF Try.prog Try.f127 = some if127 := by kernel_rfl
/-- loop.example/g01076/impl.IsGroupPrime -/
def if132 : IFn := ⟨[0], [(.tmp 2)], (.seq (.region [0] [qI 2 (.mv (.c (.bool false)))])
  (.seq (.region [2] [qI 3 (.mv (.t 0)), qI 4 (.bin .eql .other (.t 3) (.c (.int .i64 2))), qI 5 (.mv (.t 4)), ⟨(some 6), .mv (.t 0), true, (some (5, false))⟩, ⟨(some 7), .bin .eql .other (.t 6) (.c (.int .i64 3)), true, (some (5, false))⟩, qI 8 (.pick (.t 5) (.c (.bool true)) (.t 7)), qI 9 (.mv (.t 8)), ⟨(some 10), .mv (.t 0), true, (some (9, false))⟩, ⟨(some 11), .bin .eql .other (.t 10) (.c (.int .i64 5)), true, (some (9, false))⟩, qI 12 (.pick (.t 9) (.c (.bool true)) (.t 11)), qI 13 (.mv (.t 12)), ⟨(some 14), .mv (.t 0), true, (some (13, false))⟩, ⟨(some 15), .bin .eql .other (.t 14) (.c (.int .i64 7)), true, (some (13, false))⟩, qI 16 (.pick (.t 13) (.c (.bool true)) (.t 15)), qI 2 (.mv (.t 16))])
  .ret))⟩
theorem cf132 : cF Try.prog Try.f132 = some if132 := by kernel_rfl
/-- slices.Clone[[]int64,int64] -/
def if137 : IFn := ⟨[0], [(.tmp 2)], (.seq (.region [0] [qI 2 (.mv (.c .nils))])
  (.seq (.seq (.region [0, 4] [qI 3 (.mv (.t 0)), qI 4 (.bin .eql .slice (.t 3) (.c .nils))])
  (.cond (.t 4) (.seq (.region [2] [qI 2 (.mv (.c .nils))])
  .ret) .skip))
  (.seq (.region [2] [eI 5 (.buildSl 1 0 [(.int .i64 0)] []), qI 6 (.mv (.t 0)), eI 7 (.append 1 8 (.t 5) (.t 6)), qI 2 (.mv (.t 7))])
  .ret)))⟩
theorem cf137 : cF Try.prog Try.f137 = some if137 := by kernel_rfl
/-- loop.example/g01076/spec.l31Norm -/
def if143 : IFn := ⟨[0, 1], [(.tmp 4)], (.seq (.region [1, 2] [eI 2 (.box (.t 0)), qI 4 (.mv (.c .nils))])
  (.seq (.region [2, 5] [qI 9 (.mv (.t 1)), eI 10 (.call 127 [(.t 9)]), qI 5 (.mv (.t 10))])
  (.seq (.seq (.region [2, 5, 6] [qI 6 (.mv (.c (.int .i64 0)))])
  (.block 0 (.loop [2, 5, 6] (.seq (.seq (.region [2, 5, 6, 14] [qI 11 (.mv (.t 6)), qI 12 (.mv (.t 5)), qI 13 (.len (.t 12)), qI 14 (.bin .lss .other (.t 11) (.t 13))])
  (.cond (.t 14) .skip (.exit 0)))
  (.seq (.block 1 (.seq (.draw [2, 5, 6, 7] [] [qD 17 (.mv (.t 5)) 0, qD 18 (.mv (.t 6)) 1, qD 19 (.indexAddr 1 (.t 17) (.t 18)) 2, qD 20 (.load false 1 (.t 19)) 3, qD 21 (.fieldAddr 0 (.t 2)) 4, qD 22 (.load false 1 (.t 21)) 5, eD 23 (.call 188 [(.t 20), (.t 22)]) 6 [], qD 7 (.mv (.t 23)) 7])
  (.seq (.draw [2, 5, 6, 7] [] [qD 24 (.mv (.t 5)) 0, qD 25 (.mv (.t 6)) 1, qD 26 (.mv (.t 5)) 2, qD 27 (.mv (.t 6)) 3, qD 28 (.indexAddr 1 (.t 26) (.t 27)) 4, qD 29 (.load false 1 (.t 28)) 5, qD 30 (.mv (.t 7)) 6, qD 31 (.fieldAddr 0 (.t 2)) 7, qD 32 (.load false 1 (.t 31)) 8, qD 33 (.bin .mul .other (.t 30) (.t 32)) 9, qD 34 (.bin .sub .other (.t 29) (.t 33)) 10, qD 35 (.indexAddr 1 (.t 24) (.t 25)) 11, ⟨nI (.store 1 (.t 35) (.t 34)), 12, []⟩])
  (.seq (.region [2, 5, 6, 7, 8] [qI 36 (.mv (.t 6)), qI 37 (.bin .add .other (.t 36) (.c (.int .i64 1))), qI 8 (.mv (.t 37))])
  (.block 2 (.loop [2, 5, 6, 7, 8] (.seq (.seq (.region [2, 5, 6, 7, 8, 41] [qI 38 (.mv (.t 8)), qI 39 (.mv (.t 5)), qI 40 (.len (.t 39)), qI 41 (.bin .lss .other (.t 38) (.t 40))])
  (.cond (.t 41) .skip (.exit 2)))
  (.seq (.block 3 (.draw [2, 5, 6, 7, 8] [] [qD 44 (.mv (.t 5)) 0, qD 45 (.mv (.t 8)) 1, qD 46 (.mv (.t 5)) 2, qD 47 (.mv (.t 8)) 3, qD 48 (.indexAddr 1 (.t 46) (.t 47)) 4, qD 49 (.load false 1 (.t 48)) 5, qD 50 (.mv (.t 7)) 6, qD 51 (.fieldAddr 1 (.t 2)) 7, qD 52 (.load false 1 (.t 51)) 8, qD 53 (.mv (.t 6)) 9, qD 54 (.indexAddr 1 (.t 52) (.t 53)) 10, qD 55 (.load false 1 (.t 54)) 11, qD 56 (.mv (.t 8)) 12, qD 57 (.indexAddr 1 (.t 55) (.t 56)) 13, qD 58 (.load false 1 (.t 57)) 14, qD 59 (.bin .mul .other (.t 50) (.t 58)) 15, qD 60 (.bin .add .other (.t 49) (.t 59)) 16, qD 61 (.indexAddr 1 (.t 44) (.t 45)) 17, ⟨nI (.store 1 (.t 61) (.t 60)), 18, []⟩]))
  (.region [2, 5, 6, 7, 8] [qI 42 (.mv (.t 8)), qI 43 (.bin .add .other (.t 42) (.c (.int .i64 1))), qI 8 (.mv (.t 43))])))))))))
  (.region [2, 5, 6] [qI 15 (.mv (.t 6)), qI 16 (.bin .add .other (.t 15) (.c (.int .i64 1))), qI 6 (.mv (.t 16))]))))))
  (.seq (.region [4] [qI 62 (.mv (.t 5)), qI 4 (.mv (.t 62))])
  .ret))))⟩
theorem cf143 : cF Try.prog Try.f143 = some if143 := by kernel_rfl
/-- loop.example/g01076/impl.isLieElement -/
def if144 : IFn := ⟨[0, 1], [(.tmp 4)], (.seq (.region [0, 1] [qI 4 (.mv (.c (.bool false)))])
  (.seq (.draw [4] [] [qD 5 (.mv (.t 1)) 0, qD 6 (.mv (.t 0)) 1, qD 7 (.nilCheck (.t 6)) 2, qD 8 (.fieldAddr 0 (.t 7)) 3, qD 9 (.load false 1 (.t 8)) 4, qD 10 (.mv (.t 0)) 5, qD 11 (.nilCheck (.t 10)) 6, qD 12 (.fieldAddr 1 (.t 11)) 7, qD 13 (.load false 1 (.t 12)) 8, qD 14 (.len (.t 13)) 9, eD 15 (.call 189 [(.t 5), (.t 9), (.t 14)]) 10 [], qD 4 (.mv (.t 15)) 11])
  .ret))⟩
theorem cf144 : cF Try.prog Try.f144 = some if144 := by kernel_rfl
/-- loop.example/g01076/impl.addLie -/
def if147 : IFn := ⟨[0, 1, 2], [(.tmp 6)], (.seq (.region [0, 1, 2] [qI 6 (.mv (.c .nils))])
  (.seq (.region [0, 2, 7] [qI 8 (.mv (.t 1)), eI 9 (.call 137 [(.t 8)]), qI 7 (.mv (.t 9))])
  (.seq (.region [0, 7] [qI 10 (.mv (.t 7)), qI 11 (.mv (.t 2)), eI 12 (.call 148 [(.t 10), (.t 11), (.c (.int .i64 (-1)))])])
  (.seq (.region [6] [qI 13 (.mv (.t 0)), qI 14 (.mv (.t 7)), eI 15 (.call 149 [(.t 13), (.t 14)]), qI 6 (.mv (.t 15))])
  .ret))))⟩
theorem cf147 : cF Try.prog Try.f147 = some if147 := by kernel_rfl
/-- loop.example/g01076/impl.subtractMultiple -/
def if148 : IFn := ⟨[0, 1, 2], [], (.seq (.region [0, 1, 2, 8, 9] [qI 7 (.mv (.t 0)), qI 8 (.len (.t 7)), qI 9 (.mv (.c (.int .i64 0)))])
  (.block 0 (.loop [0, 1, 2, 8, 9] (.seq (.region [0, 1, 2, 8, 9, 10] [qI 10 (.bin .lss .other (.t 9) (.t 8))])
  (.seq (.cond (.t 10) .skip (.exit 0))
  (.seq (.block 1 (.seq (.region [0, 1, 2, 6, 8, 9] [qI 11 (.mv (.t 9)), qI 6 (.mv (.t 11))])
  (.draw [0, 1, 2, 8, 9] [] [qD 12 (.mv (.t 0)) 0, qD 13 (.mv (.t 6)) 1, qD 14 (.indexAddr 1 (.t 12) (.t 13)) 2, qD 15 (.load false 1 (.t 14)) 3, qD 16 (.mv (.t 2)) 4, qD 17 (.mv (.t 1)) 5, qD 18 (.mv (.t 6)) 6, qD 19 (.indexAddr 1 (.t 17) (.t 18)) 7, qD 20 (.load false 1 (.t 19)) 8, qD 21 (.bin .mul .other (.t 16) (.t 20)) 9, qD 22 (.bin .sub .other (.t 15) (.t 21)) 10, qD 23 (.indexAddr 1 (.t 12) (.t 13)) 11, ⟨nI (.store 1 (.t 23) (.t 22)), 12, []⟩])))
  (.region [0, 1, 2, 8, 9] [qI 24 (.bin .add .other (.t 9) (.c (.int .i64 1))), qI 9 (.mv (.t 24))])))))))⟩
theorem cf148 : cF Try.prog Try.f148 = some if148 := by kernel_rfl
/-- loop.example/g01076/impl.normalLie -/
def if149 : IFn := ⟨[0, 1], [(.tmp 4)], (.seq (.region [0, 1] [qI 4 (.mv (.c .nils))])
  (.seq (.region [0, 5] [qI 11 (.mv (.t 1)), eI 12 (.call 137 [(.t 11)]), qI 5 (.mv (.t 12))])
  (.seq (.seq (.region [0, 5, 16, 17, 18] [qI 13 (.mv (.t 0)), qI 14 (.nilCheck (.t 13)), qI 15 (.fieldAddr 1 (.t 14)), qI 16 (.load false 1 (.t 15)), qI 17 (.len (.t 16)), qI 18 (.mv (.c (.int .i64 0)))])
  (.block 0 (.loop [0, 5, 16, 17, 18] (.seq (.region [0, 5, 16, 17, 18, 19] [qI 19 (.bin .lss .other (.t 18) (.t 17))])
  (.seq (.cond (.t 19) .skip (.exit 0))
  (.seq (.block 1 (.seq (.region [0, 5, 6, 7, 16, 17, 18] [qI 20 (.mv (.t 18)), qI 21 (.indexAddr 1 (.t 16) (.t 18)), qI 22 (.load false 1 (.t 21)), qI 6 (.mv (.t 20)), qI 7 (.mv (.t 22))])
  (.seq (.draw [0, 5, 6, 7, 8, 16, 17, 18] [] [qD 23 (.mv (.t 5)) 0, qD 24 (.mv (.t 6)) 1, qD 25 (.indexAddr 1 (.t 23) (.t 24)) 2, qD 26 (.load false 1 (.t 25)) 3, qD 27 (.mv (.t 0)) 4, qD 28 (.nilCheck (.t 27)) 5, qD 29 (.fieldAddr 0 (.t 28)) 6, qD 30 (.load false 1 (.t 29)) 7, eD 31 (.call 194 [(.t 26), (.t 30)]) 8 [], qD 8 (.mv (.t 31)) 9])
  (.seq (.draw [0, 5, 7, 8, 16, 17, 18] [] [qD 32 (.mv (.t 5)) 0, qD 33 (.mv (.t 6)) 1, qD 34 (.indexAddr 1 (.t 32) (.t 33)) 2, qD 35 (.load false 1 (.t 34)) 3, qD 36 (.mv (.t 8)) 4, qD 37 (.mv (.t 0)) 5, qD 38 (.nilCheck (.t 37)) 6, qD 39 (.fieldAddr 0 (.t 38)) 7, qD 40 (.load false 1 (.t 39)) 8, qD 41 (.bin .mul .other (.t 36) (.t 40)) 9, qD 42 (.bin .sub .other (.t 35) (.t 41)) 10, qD 43 (.indexAddr 1 (.t 32) (.t 33)) 11, ⟨nI (.store 1 (.t 43) (.t 42)), 12, []⟩])
  (.seq (.region [0, 5, 8, 16, 17, 18, 44, 45, 46] [qI 44 (.mv (.t 7)), qI 45 (.len (.t 44)), qI 46 (.mv (.c (.int .i64 0)))])
  (.block 2 (.loop [0, 5, 8, 16, 17, 18, 44, 45, 46] (.seq (.region [0, 5, 8, 16, 17, 18, 44, 45, 46, 47] [qI 47 (.bin .lss .other (.t 46) (.t 45))])
  (.seq (.cond (.t 47) .skip (.exit 2))
  (.seq (.block 3 (.seq (.region [0, 5, 8, 9, 10, 16, 17, 18, 44, 45, 46] [qI 48 (.mv (.t 46)), qI 49 (.indexAddr 1 (.t 44) (.t 46)), qI 50 (.load false 1 (.t 49)), qI 9 (.mv (.t 48)), qI 10 (.mv (.t 50))])
  (.region [0, 5, 8, 16, 17, 18, 44, 45, 46] [qI 51 (.mv (.t 5)), qI 52 (.mv (.t 9)), qI 53 (.indexAddr 1 (.t 51) (.t 52)), qI 54 (.load false 1 (.t 53)), qI 55 (.mv (.t 8)), qI 56 (.mv (.t 10)), qI 57 (.bin .mul .other (.t 55) (.t 56)), qI 58 (.bin .add .other (.t 54) (.t 57)), qI 59 (.indexAddr 1 (.t 51) (.t 52)), nI (.store 1 (.t 59) (.t 58))])))
  (.region [0, 5, 8, 16, 17, 18, 44, 45, 46] [qI 60 (.bin .add .other (.t 46) (.c (.int .i64 1))), qI 46 (.mv (.t 60))])))))))))))
  (.region [0, 5, 16, 17, 18] [qI 61 (.bin .add .other (.t 18) (.c (.int .i64 1))), qI 18 (.mv (.t 61))])))))))
  (.seq (.region [4] [qI 62 (.mv (.t 5)), qI 4 (.mv (.t 62))])
  .ret))))⟩
theorem cf149 : cF Try.prog Try.f149 = some if149 := by kernel_rfl
/-- loop.example/g01076/spec.l31Is -/
def if150 : IFn := ⟨[0, 1, 2], [(.tmp 6)], (.seq (.region [0, 1, 2] [qI 6 (.mv (.c (.bool false)))])
  (.seq (.seq (.region [0, 1, 2, 11] [qI 8 (.mv (.t 0)), qI 9 (.len (.t 8)), qI 10 (.mv (.t 2)), qI 11 (.bin .neq .other (.t 9) (.t 10))])
  (.cond (.t 11) (.seq (.region [6] [qI 6 (.mv (.c (.bool false)))])
  .ret) .skip))
  (.seq (.seq (.region [0, 1, 2, 7] [qI 7 (.mv (.c (.int .i64 0)))])
  (.block 0 (.loop [0, 1, 2, 7] (.seq (.seq (.region [0, 1, 2, 7, 14] [qI 12 (.mv (.t 7)), qI 13 (.mv (.t 2)), qI 14 (.bin .lss .other (.t 12) (.t 13))])
  (.cond (.t 14) .skip (.exit 0)))
  (.seq (.block 1 (.seq (.region [0, 1, 2, 7, 24] [qI 17 (.mv (.t 0)), qI 18 (.mv (.t 7)), qI 19 (.indexAddr 1 (.t 17) (.t 18)), qI 20 (.load false 1 (.t 19)), qI 21 (.mv (.t 1)), qI 22 (.bin .sub .other (.t 21) (.c (.int .i64 1))), eI 23 (.call 171 [(.t 20), (.c (.int .i64 0)), (.t 22)]), qI 24 (.un .not (.t 23))])
  (.cond (.t 24) (.seq (.region [6] [qI 6 (.mv (.c (.bool false)))])
  .ret) .skip)))
  (.region [0, 1, 2, 7] [qI 15 (.mv (.t 7)), qI 16 (.bin .add .other (.t 15) (.c (.int .i64 1))), qI 7 (.mv (.t 16))]))))))
  (.seq (.region [6] [qI 6 (.mv (.c (.bool true)))])
  .ret))))⟩
theorem cf150 : cF Try.prog Try.f150 = some if150 := by kernel_rfl
/-- loop.example/g01076/spec.l31Blank -/
def if151 : IFn := ⟨[0, 1], [(.tmp 4)], (.seq (.region [0, 1] [qI 4 (.mv (.c (.bool false)))])
  (.seq (.seq (.region [0, 1, 5] [qI 5 (.mv (.c (.int .i64 0)))])
  (.block 0 (.loop [0, 1, 5] (.seq (.seq (.region [0, 1, 5, 8] [qI 6 (.mv (.t 5)), qI 7 (.mv (.t 1)), qI 8 (.bin .leq .other (.t 6) (.t 7))])
  (.cond (.t 8) .skip (.exit 0)))
  (.seq (.block 1 (.seq (.region [0, 1, 5, 15] [qI 11 (.mv (.t 0)), qI 12 (.mv (.t 5)), qI 13 (.indexAddr 1 (.t 11) (.t 12)), qI 14 (.load false 1 (.t 13)), qI 15 (.bin .neq .other (.t 14) (.c (.int .i64 0)))])
  (.cond (.t 15) (.seq (.region [4] [qI 4 (.mv (.c (.bool false)))])
  .ret) .skip)))
  (.region [0, 1, 5] [qI 9 (.mv (.t 5)), qI 10 (.bin .add .other (.t 9) (.c (.int .i64 1))), qI 5 (.mv (.t 10))]))))))
  (.seq (.region [4] [qI 4 (.mv (.c (.bool true)))])
  .ret)))⟩
theorem cf151 : cF Try.prog Try.f151 = some if151 := by kernel_rfl
/-- loop.example/g01076/spec.l31Bracket -/
def if152 : IFn := ⟨[0, 1, 2], [(.tmp 6)], (.seq (.region [1, 2, 3] [eI 3 (.box (.t 0)), qI 6 (.mv (.c .nils))])
  (.seq (.region [1, 2, 3, 7] [qI 10 (.load true 3 (.t 3)), eI 11 (.call 58 [(.t 10)]), qI 7 (.mv (.t 11))])
  (.seq (.seq (.region [1, 2, 3, 7, 8] [qI 8 (.mv (.c (.int .i64 0)))])
  (.block 0 (.loop [1, 2, 3, 7, 8] (.seq (.seq (.region [1, 2, 3, 7, 8, 15] [qI 12 (.mv (.t 8)), qI 13 (.mv (.t 1)), qI 14 (.len (.t 13)), qI 15 (.bin .lss .other (.t 12) (.t 14))])
  (.cond (.t 15) .skip (.exit 0)))
  (.seq (.block 1 (.seq (.region [1, 2, 3, 7, 8, 9] [qI 18 (.mv (.t 8)), qI 19 (.bin .add .other (.t 18) (.c (.int .i64 1))), qI 9 (.mv (.t 19))])
  (.block 2 (.loop [1, 2, 3, 7, 8, 9] (.seq (.seq (.region [1, 2, 3, 7, 8, 9, 23] [qI 20 (.mv (.t 9)), qI 21 (.mv (.t 1)), qI 22 (.len (.t 21)), qI 23 (.bin .lss .other (.t 20) (.t 22))])
  (.cond (.t 23) .skip (.exit 2)))
  (.seq (.block 3 (.draw [1, 2, 3, 7, 8, 9] [] [qD 26 (.load true 3 (.t 3)) 0, qD 27 (.mv (.t 7)) 1, qD 28 (.mv (.t 1)) 2, qD 29 (.mv (.t 8)) 3, qD 30 (.indexAddr 1 (.t 28) (.t 29)) 4, qD 31 (.load false 1 (.t 30)) 5, qD 32 (.mv (.t 2)) 6, qD 33 (.mv (.t 9)) 7, qD 34 (.indexAddr 1 (.t 32) (.t 33)) 8, qD 35 (.load false 1 (.t 34)) 9, qD 36 (.bin .mul .other (.t 31) (.t 35)) 10, qD 37 (.mv (.t 1)) 11, qD 38 (.mv (.t 9)) 12, qD 39 (.indexAddr 1 (.t 37) (.t 38)) 13, qD 40 (.load false 1 (.t 39)) 14, qD 41 (.mv (.t 2)) 15, qD 42 (.mv (.t 8)) 16, qD 43 (.indexAddr 1 (.t 41) (.t 42)) 17, qD 44 (.load false 1 (.t 43)) 18, qD 45 (.bin .mul .other (.t 40) (.t 44)) 19, qD 46 (.bin .sub .other (.t 36) (.t 45)) 20, qD 47 (.fieldAddr 2 (.t 3)) 21, qD 48 (.load false 1 (.t 47)) 22, qD 49 (.mv (.t 8)) 23, qD 50 (.indexAddr 1 (.t 48) (.t 49)) 24, qD 51 (.load false 1 (.t 50)) 25, qD 52 (.mv (.t 9)) 26, qD 53 (.mv (.t 8)) 27, qD 54 (.bin .sub .other (.t 52) (.t 53)) 28, qD 55 (.bin .sub .other (.t 54) (.c (.int .i64 1))) 29, qD 56 (.indexAddr 1 (.t 51) (.t 55)) 30, qD 57 (.load false 1 (.t 56)) 31, eD 58 (.call 92 [(.t 26), (.c (.int .i64 1)), (.t 27), (.t 46), (.t 57)]) 32 [], qD 7 (.mv (.t 58)) 33]))
  (.region [1, 2, 3, 7, 8, 9] [qI 24 (.mv (.t 9)), qI 25 (.bin .add .other (.t 24) (.c (.int .i64 1))), qI 9 (.mv (.t 25))])))))))
  (.region [1, 2, 3, 7, 8] [qI 16 (.mv (.t 8)), qI 17 (.bin .add .other (.t 16) (.c (.int .i64 1))), qI 8 (.mv (.t 17))]))))))
  (.seq (.region [6] [qI 59 (.mv (.t 7)), qI 6 (.mv (.t 59))])
  .ret))))⟩
theorem cf152 : cF Try.prog Try.f152 = some if152 := by kernel_rfl
/-- loop.example/g01076/spec.l01Same -/
def if153 : IFn := ⟨[0, 1], [(.tmp 4)], (.seq (.region [0, 1] [qI 4 (.mv (.c (.bool false)))])
  (.seq (.seq (.region [0, 1, 10] [qI 6 (.mv (.t 0)), qI 7 (.len (.t 6)), qI 8 (.mv (.t 1)), qI 9 (.len (.t 8)), qI 10 (.bin .neq .other (.t 7) (.t 9))])
  (.cond (.t 10) (.seq (.region [4] [qI 4 (.mv (.c (.bool false)))])
  .ret) .skip))
  (.seq (.seq (.region [0, 1, 5] [qI 5 (.mv (.c (.int .i64 0)))])
  (.block 0 (.loop [0, 1, 5] (.seq (.seq (.region [0, 1, 5, 14] [qI 11 (.mv (.t 5)), qI 12 (.mv (.t 0)), qI 13 (.len (.t 12)), qI 14 (.bin .lss .other (.t 11) (.t 13))])
  (.cond (.t 14) .skip (.exit 0)))
  (.seq (.block 1 (.seq (.draw [0, 1, 5, 25] [] [qD 17 (.mv (.t 0)) 0, qD 18 (.mv (.t 5)) 1, qD 19 (.indexAddr 1 (.t 17) (.t 18)) 2, qD 20 (.load false 1 (.t 19)) 3, qD 21 (.mv (.t 1)) 4, qD 22 (.mv (.t 5)) 5, qD 23 (.indexAddr 1 (.t 21) (.t 22)) 6, qD 24 (.load false 1 (.t 23)) 7, qD 25 (.bin .neq .other (.t 20) (.t 24)) 8])
  (.cond (.t 25) (.seq (.region [4] [qI 4 (.mv (.c (.bool false)))])
  .ret) .skip)))
  (.region [0, 1, 5] [qI 15 (.mv (.t 5)), qI 16 (.bin .add .other (.t 15) (.c (.int .i64 1))), qI 5 (.mv (.t 16))]))))))
  (.seq (.region [4] [qI 4 (.mv (.c (.bool true)))])
  .ret))))⟩
theorem cf153 : cF Try.prog Try.f153 = some if153 := by kernel_rfl
/-- loop.example/g01076/spec.l32Reduce -/
def if154 : IFn := ⟨[0, 1, 2], [(.tmp 6)], (.seq (.region [1, 2, 3] [eI 3 (.box (.t 0)), qI 6 (.mv (.c .nils))])
  (.seq (.region [1, 3, 7] [qI 9 (.mv (.t 2)), eI 10 (.call 127 [(.t 9)]), qI 7 (.mv (.t 10))])
  (.seq (.seq (.region [1, 3, 7, 8] [qI 8 (.mv (.c (.int .i64 0)))])
  (.block 0 (.loop [1, 3, 7, 8] (.seq (.seq (.region [1, 3, 7, 8, 14] [qI 11 (.mv (.t 8)), qI 12 (.mv (.t 1)), qI 13 (.len (.t 12)), qI 14 (.bin .lss .other (.t 11) (.t 13))])
  (.cond (.t 14) .skip (.exit 0)))
  (.seq (.block 1 (.draw [1, 3, 7, 8] [] [qD 17 (.load true 3 (.t 3)) 0, qD 18 (.mv (.t 7)) 1, qD 19 (.mv (.t 7)) 2, qD 20 (.mv (.t 1)) 3, qD 21 (.mv (.t 8)) 4, qD 22 (.indexAddr 1 (.t 20) (.t 21)) 5, qD 23 (.load false 1 (.t 22)) 6, qD 28 (.mv (.t 1)) 11, qD 29 (.mv (.t 8)) 12, qD 30 (.indexAddr 1 (.t 28) (.t 29)) 13, qD 31 (.load false 1 (.t 30)) 14, eD 24 (.call 156 [(.t 23)]) 7 [0, 14], qD 25 (.indexAddr 1 (.t 19) (.t 24)) 8, qD 26 (.load false 1 (.t 25)) 9, qD 27 (.un .neg (.t 26)) 10, eD 32 (.call 92 [(.t 17), (.c (.int .i64 1)), (.t 18), (.t 27), (.t 31)]) 15 [], qD 7 (.mv (.t 32)) 16]))
  (.region [1, 3, 7, 8] [qI 15 (.mv (.t 8)), qI 16 (.bin .add .other (.t 15) (.c (.int .i64 1))), qI 8 (.mv (.t 16))]))))))
  (.seq (.region [6] [qI 33 (.mv (.t 7)), qI 6 (.mv (.t 33))])
  .ret))))⟩
theorem cf154 : cF Try.prog Try.f154 = some if154 := by kernel_rfl
/-- loop.example/g01076/spec.l01Inv -/
def if155 : IFn := ⟨[0, 1], [(.tmp 4)], (.seq (.region [0, 1] [qI 4 (.mv (.c (.int .i64 0)))])
  (.seq (.seq (.region [0, 1, 5] [qI 5 (.mv (.c (.int .i64 1)))])
  (.block 0 (.loop [0, 1, 5] (.seq (.seq (.region [0, 1, 5, 8] [qI 6 (.mv (.t 5)), qI 7 (.mv (.t 1)), qI 8 (.bin .lss .other (.t 6) (.t 7))])
  (.cond (.t 8) .skip (.exit 0)))
  (.seq (.block 1 (.seq (.region [0, 1, 5, 18] [qI 11 (.mv (.t 0)), qI 12 (.mv (.t 1)), eI 13 (.call 174 [(.t 11), (.t 12)]), qI 14 (.mv (.t 5)), qI 15 (.bin .mul .other (.t 13) (.t 14)), qI 16 (.mv (.t 1)), qI 17 (.bin .rem .other (.t 15) (.t 16)), qI 18 (.bin .eql .other (.t 17) (.c (.int .i64 1)))])
  (.cond (.t 18) (.seq (.region [4] [qI 19 (.mv (.t 5)), qI 4 (.mv (.t 19))])
  .ret) .skip)))
  (.region [0, 1, 5] [qI 9 (.mv (.t 5)), qI 10 (.bin .add .other (.t 9) (.c (.int .i64 1))), qI 5 (.mv (.t 10))]))))))
  (.seq (.region [4] [qI 4 (.mv (.c (.int .i64 0)))])
  .ret)))⟩
theorem cf155 : cF Try.prog Try.f155 = some if155 := by kernel_rfl
/-- loop.example/g01076/spec.l32Depth -/
def if156 : IFn := ⟨[0], [(.tmp 2)], (.seq (.region [0] [qI 2 (.mv (.c (.int .i64 0)))])
  (.seq (.region [2] [qI 3 (.mv (.t 0)), eI 4 (.call 195 [(.t 3)]), qI 2 (.mv (.t 4))])
  .ret))⟩
theorem cf156 : cF Try.prog Try.f156 = some if156 := by kernel_rfl
/-- loop.example/g01076/spec.l32Insert -/
def if157 : IFn := ⟨[0, 1], [(.tmp 4)], (.seq (.region [0, 1] [qI 4 (.mv (.c .nils))])
  (.seq (.region [0, 1, 5] [qI 5 (.mv (.c (.int .i64 0)))])
  (.seq (.block 0 (.loop [0, 1, 5] (.seq (.seq (.region [0, 1, 5, 20] [qI 7 (.mv (.t 5)), qI 8 (.mv (.t 0)), qI 9 (.len (.t 8)), qI 10 (.bin .lss .other (.t 7) (.t 9)), qI 11 (.mv (.t 10)), ⟨(some 12), .mv (.t 0), true, (some (11, true))⟩, ⟨(some 13), .mv (.t 5), true, (some (11, true))⟩, ⟨(some 14), .indexAddr 1 (.t 12) (.t 13), true, (some (11, true))⟩, ⟨(some 15), .load false 1 (.t 14), true, (some (11, true))⟩, ⟨(some 16), .call 156 [(.t 15)], false, (some (11, true))⟩, ⟨(some 17), .mv (.t 1), true, (some (11, true))⟩, ⟨(some 18), .call 156 [(.t 17)], false, (some (11, true))⟩, ⟨(some 19), .bin .lss .other (.t 16) (.t 18), true, (some (11, true))⟩, qI 20 (.pick (.t 11) (.t 19) (.c (.bool false)))])
  (.cond (.t 20) .skip (.exit 0)))
  (.block 1 (.region [0, 1, 5] [qI 21 (.mv (.t 5)), qI 22 (.bin .add .other (.t 21) (.c (.int .i64 1))), qI 5 (.mv (.t 22))])))))
  (.seq (.region [0, 1, 5, 6] [eI 23 (.buildSl 1 0 [.nils] []), qI 24 (.mv (.t 0)), qI 25 (.mv (.t 5)), qI 26 (.slice 1 (.t 24) none (some (.t 25)) none), eI 27 (.append 1 24 (.t 23) (.t 26)), qI 6 (.mv (.t 27))])
  (.seq (.region [0, 5, 6] [qI 28 (.mv (.t 6)), qI 29 (.mv (.t 1)), eI 30 (.buildSl 1 1 [.nils] [(0, 1, (.t 29))]), eI 31 (.append 1 24 (.t 28) (.t 30)), qI 6 (.mv (.t 31))])
  (.seq (.region [4] [qI 32 (.mv (.t 6)), qI 33 (.mv (.t 0)), qI 34 (.mv (.t 5)), qI 35 (.slice 1 (.t 33) (some (.t 34)) none none), eI 36 (.append 1 24 (.t 32) (.t 35)), qI 4 (.mv (.t 36))])
  .ret))))))⟩
theorem cf157 : cF Try.prog Try.f157 = some if157 := by kernel_rfl
/-- loop.example/g01076/spec.l34Image -/
def if158 : IFn := ⟨[0, 1, 2], [(.tmp 6)], (.seq (.region [1, 2, 3] [eI 3 (.box (.t 0)), qI 6 (.mv (.c .nils))])
  (.seq (.region [1, 2, 3, 7] [qI 9 (.load true 3 (.t 3)), eI 10 (.call 58 [(.t 9)]), qI 7 (.mv (.t 10))])
  (.seq (.seq (.region [1, 2, 3, 7, 8] [qI 8 (.mv (.c (.int .i64 0)))])
  (.block 0 (.loop [1, 2, 3, 7, 8] (.seq (.seq (.region [1, 2, 3, 7, 8, 14] [qI 11 (.mv (.t 8)), qI 12 (.mv (.t 2)), qI 13 (.len (.t 12)), qI 14 (.bin .lss .other (.t 11) (.t 13))])
  (.cond (.t 14) .skip (.exit 0)))
  (.seq (.block 1 (.draw [1, 2, 3, 7, 8] [] [qD 17 (.load true 3 (.t 3)) 0, qD 18 (.mv (.t 7)) 1, qD 19 (.mv (.t 2)) 2, qD 20 (.mv (.t 8)) 3, qD 21 (.indexAddr 1 (.t 19) (.t 20)) 4, qD 22 (.load false 1 (.t 21)) 5, qD 23 (.mv (.t 1)) 6, qD 24 (.mv (.t 8)) 7, qD 25 (.indexAddr 1 (.t 23) (.t 24)) 8, qD 26 (.load false 1 (.t 25)) 9, eD 27 (.call 92 [(.t 17), (.c (.int .i64 1)), (.t 18), (.t 22), (.t 26)]) 10 [], qD 7 (.mv (.t 27)) 11]))
  (.region [1, 2, 3, 7, 8] [qI 15 (.mv (.t 8)), qI 16 (.bin .add .other (.t 15) (.c (.int .i64 1))), qI 8 (.mv (.t 16))]))))))
  (.seq (.region [6] [qI 28 (.mv (.t 7)), qI 6 (.mv (.t 28))])
  .ret))))⟩
theorem cf158 : cF Try.prog Try.f158 = some if158 := by kernel_rfl
/-- slices.Equal[[]int64,int64] -/
def if159 : IFn := ⟨[0, 1], [(.tmp 4)], (.seq (.region [0, 1] [qI 4 (.mv (.c (.bool false)))])
  (.seq (.seq (.region [0, 1, 10] [qI 6 (.mv (.t 0)), qI 7 (.len (.t 6)), qI 8 (.mv (.t 1)), qI 9 (.len (.t 8)), qI 10 (.bin .neq .other (.t 7) (.t 9))])
  (.cond (.t 10) (.seq (.region [4] [qI 4 (.mv (.c (.bool false)))])
  .ret) .skip))
  (.seq (.seq (.region [0, 1, 12, 13] [qI 11 (.mv (.t 0)), qI 12 (.len (.t 11)), qI 13 (.mv (.c (.int .i64 0)))])
  (.block 0 (.loop [0, 1, 12, 13] (.seq (.region [0, 1, 12, 13, 14] [qI 14 (.bin .lss .other (.t 13) (.t 12))])
  (.seq (.cond (.t 14) .skip (.exit 0))
  (.seq (.block 1 (.seq (.region [0, 1, 5, 12, 13] [qI 15 (.mv (.t 13)), qI 5 (.mv (.t 15))])
  (.seq (.draw [0, 1, 12, 13, 24] [] [qD 16 (.mv (.t 0)) 0, qD 17 (.mv (.t 5)) 1, qD 18 (.indexAddr 1 (.t 16) (.t 17)) 2, qD 19 (.load false 1 (.t 18)) 3, qD 20 (.mv (.t 1)) 4, qD 21 (.mv (.t 5)) 5, qD 22 (.indexAddr 1 (.t 20) (.t 21)) 6, qD 23 (.load false 1 (.t 22)) 7, qD 24 (.bin .neq .other (.t 19) (.t 23)) 8])
  (.cond (.t 24) (.seq (.region [4] [qI 4 (.mv (.c (.bool false)))])
  .ret) .skip))))
  (.region [0, 1, 12, 13] [qI 25 (.bin .add .other (.t 13) (.c (.int .i64 1))), qI 13 (.mv (.t 25))])))))))
  (.seq (.region [4] [qI 4 (.mv (.c (.bool true)))])
  .ret))))⟩
theorem cf159 : cF Try.prog Try.f159 = some if159 := by kernel_rfl
/-- loop.example/g01076/impl.bracket -/
def if160 : IFn := ⟨[0, 1, 2], [(.tmp 6)], (.seq (.region [0, 1, 2] [qI 6 (.mv (.c .nils))])
  (.seq (.region [0, 1, 2, 7] [qI 13 (.mv (.t 0)), qI 14 (.nilCheck (.t 13)), qI 15 (.fieldAddr 1 (.t 14)), qI 16 (.load false 1 (.t 15)), qI 17 (.len (.t 16)), eI 18 (.makeSl 1 8 [(.int .i64 0)] (.t 17) (.t 17)), qI 7 (.mv (.t 18))])
  (.seq (.seq (.region [0, 1, 2, 7, 22, 23, 24] [qI 19 (.mv (.t 0)), qI 20 (.nilCheck (.t 19)), qI 21 (.fieldAddr 2 (.t 20)), qI 22 (.load false 1 (.t 21)), qI 23 (.len (.t 22)), qI 24 (.mv (.c (.int .i64 0)))])
  (.block 0 (.loop [0, 1, 2, 7, 22, 23, 24] (.seq (.region [0, 1, 2, 7, 22, 23, 24, 25] [qI 25 (.bin .lss .other (.t 24) (.t 23))])
  (.seq (.cond (.t 25) .skip (.exit 0))
  (.seq (.block 1 (.seq (.region [0, 1, 2, 7, 8, 9, 22, 23, 24] [qI 26 (.mv (.t 24)), qI 27 (.indexAddr 1 (.t 22) (.t 24)), qI 28 (.load false 1 (.t 27)), qI 8 (.mv (.t 26)), qI 9 (.mv (.t 28))])
  (.seq (.region [0, 1, 2, 7, 8, 22, 23, 24, 29, 30, 31] [qI 29 (.mv (.t 9)), qI 30 (.len (.t 29)), qI 31 (.mv (.c (.int .i64 0)))])
  (.block 2 (.loop [0, 1, 2, 7, 8, 22, 23, 24, 29, 30, 31] (.seq (.region [0, 1, 2, 7, 8, 22, 23, 24, 29, 30, 31, 32] [qI 32 (.bin .lss .other (.t 31) (.t 30))])
  (.seq (.cond (.t 32) .skip (.exit 2))
  (.seq (.block 3 (.seq (.region [0, 1, 2, 7, 8, 10, 11, 22, 23, 24, 29, 30, 31] [qI 33 (.mv (.t 31)), qI 34 (.indexAddr 1 (.t 29) (.t 31)), qI 35 (.load false 1 (.t 34)), qI 10 (.mv (.t 33)), qI 11 (.mv (.t 35))])
  (.seq (.region [0, 1, 2, 7, 8, 11, 12, 22, 23, 24, 29, 30, 31] [qI 36 (.mv (.t 8)), qI 37 (.bin .add .other (.t 36) (.c (.int .i64 1))), qI 38 (.mv (.t 10)), qI 39 (.bin .add .other (.t 37) (.t 38)), qI 12 (.mv (.t 39))])
  (.draw [0, 1, 2, 7, 8, 22, 23, 24, 29, 30, 31] [] [qD 40 (.mv (.t 7)) 0, qD 41 (.mv (.t 11)) 1, qD 42 (.mv (.t 1)) 2, qD 43 (.mv (.t 12)) 3, qD 44 (.indexAddr 1 (.t 42) (.t 43)) 4, qD 45 (.load false 1 (.t 44)) 5, qD 46 (.mv (.t 2)) 6, qD 47 (.mv (.t 8)) 7, qD 48 (.indexAddr 1 (.t 46) (.t 47)) 8, qD 49 (.load false 1 (.t 48)) 9, qD 50 (.bin .mul .other (.t 45) (.t 49)) 10, qD 51 (.mv (.t 1)) 11, qD 52 (.mv (.t 8)) 12, qD 53 (.indexAddr 1 (.t 51) (.t 52)) 13, qD 54 (.load false 1 (.t 53)) 14, qD 55 (.mv (.t 2)) 15, qD 56 (.mv (.t 12)) 16, qD 57 (.indexAddr 1 (.t 55) (.t 56)) 17, qD 58 (.load false 1 (.t 57)) 18, qD 59 (.bin .mul .other (.t 54) (.t 58)) 19, qD 60 (.bin .sub .other (.t 50) (.t 59)) 20, eD 61 (.call 148 [(.t 40), (.t 41), (.t 60)]) 21 []]))))
  (.region [0, 1, 2, 7, 8, 22, 23, 24, 29, 30, 31] [qI 62 (.bin .add .other (.t 31) (.c (.int .i64 1))), qI 31 (.mv (.t 62))])))))))))
  (.region [0, 1, 2, 7, 22, 23, 24] [qI 63 (.bin .add .other (.t 24) (.c (.int .i64 1))), qI 24 (.mv (.t 63))])))))))
  (.seq (.region [6] [qI 64 (.mv (.t 0)), qI 65 (.mv (.t 7)), eI 66 (.call 149 [(.t 64), (.t 65)]), qI 6 (.mv (.t 66))])
  .ret))))⟩
theorem cf160 : cF Try.prog Try.f160 = some if160 := by kernel_rfl
/-- slices.Clone[[][]int64,[]int64] -/
def if161 : IFn := ⟨[0], [(.tmp 2)], (.seq (.region [0] [qI 2 (.mv (.c .nils))])
  (.seq (.seq (.region [0, 4] [qI 3 (.mv (.t 0)), qI 4 (.bin .eql .slice (.t 3) (.c .nils))])
  (.cond (.t 4) (.seq (.region [2] [qI 2 (.mv (.c .nils))])
  .ret) .skip))
  (.seq (.region [2] [eI 5 (.buildSl 1 0 [.nils] []), qI 6 (.mv (.t 0)), eI 7 (.append 1 24 (.t 5) (.t 6)), qI 2 (.mv (.t 7))])
  .ret)))⟩
theorem cf161 : cF Try.prog Try.f161 = some if161 := by kernel_rfl
/-- loop.example/g01076/impl.depthOf -/
def if162 : IFn := ⟨[0], [(.tmp 2)], (.seq (.region [0] [qI 2 (.mv (.c (.int .i64 0)))])
  (.seq (.seq (.region [0, 5, 6, 7] [qI 5 (.mv (.t 0)), qI 6 (.len (.t 5)), qI 7 (.mv (.c (.int .i64 0)))])
  (.block 0 (.loop [0, 5, 6, 7] (.seq (.region [0, 5, 6, 7, 8] [qI 8 (.bin .lss .other (.t 7) (.t 6))])
  (.seq (.cond (.t 8) .skip (.exit 0))
  (.seq (.block 1 (.seq (.region [0, 3, 4, 5, 6, 7] [qI 9 (.mv (.t 7)), qI 10 (.indexAddr 1 (.t 5) (.t 7)), qI 11 (.load false 1 (.t 10)), qI 3 (.mv (.t 9)), qI 4 (.mv (.t 11))])
  (.seq (.region [0, 3, 5, 6, 7, 13] [qI 12 (.mv (.t 4)), qI 13 (.bin .neq .other (.t 12) (.c (.int .i64 0)))])
  (.cond (.t 13) (.seq (.region [2] [qI 14 (.mv (.t 3)), qI 2 (.mv (.t 14))])
  .ret) .skip))))
  (.region [0, 5, 6, 7] [qI 15 (.bin .add .other (.t 7) (.c (.int .i64 1))), qI 7 (.mv (.t 15))])))))))
  (.seq (.region [2] [qI 16 (.mv (.t 0)), qI 17 (.len (.t 16)), qI 2 (.mv (.t 17))])
  .ret)))⟩
theorem cf162 : cF Try.prog Try.f162 = some if162 := by kernel_rfl
/-- loop.example/g01076/impl.inverseMod -/
def if163 : IFn := ⟨[0, 1], [(.tmp 4), (.tmp 5)], (.seq (.region [0, 1] [qI 4 (.mv (.c (.int .i64 0))), qI 5 (.mv (.c (.bool false)))])
  (.seq (.region [1, 6, 7, 8, 9] [qI 11 (.mv (.t 1)), qI 12 (.mv (.t 0)), qI 6 (.mv (.t 11)), qI 7 (.mv (.t 12)), qI 8 (.mv (.c (.int .i64 0))), qI 9 (.mv (.c (.int .i64 1)))])
  (.seq (.block 0 (.loop [1, 6, 7, 8, 9] (.seq (.seq (.region [1, 6, 7, 8, 9, 14] [qI 13 (.mv (.t 7)), qI 14 (.bin .neq .other (.t 13) (.c (.int .i64 0)))])
  (.cond (.t 14) .skip (.exit 0)))
  (.block 1 (.seq (.region [1, 6, 7, 8, 9, 10] [qI 15 (.mv (.t 6)), qI 16 (.mv (.t 7)), qI 17 (.bin .quo .other (.t 15) (.t 16)), qI 10 (.mv (.t 17))])
  (.seq (.region [1, 6, 7, 8, 9, 10] [qI 18 (.mv (.t 7)), qI 19 (.mv (.t 6)), qI 20 (.mv (.t 10)), qI 21 (.mv (.t 7)), qI 22 (.bin .mul .other (.t 20) (.t 21)), qI 23 (.bin .sub .other (.t 19) (.t 22)), qI 6 (.mv (.t 18)), qI 7 (.mv (.t 23))])
  (.region [1, 6, 7, 8, 9] [qI 24 (.mv (.t 9)), qI 25 (.mv (.t 8)), qI 26 (.mv (.t 10)), qI 27 (.mv (.t 9)), qI 28 (.bin .mul .other (.t 26) (.t 27)), qI 29 (.bin .sub .other (.t 25) (.t 28)), qI 8 (.mv (.t 24)), qI 9 (.mv (.t 29))])))))))
  (.seq (.region [4, 5] [qI 30 (.mv (.t 8)), qI 31 (.mv (.t 1)), eI 32 (.call 180 [(.t 30), (.t 31)]), qI 33 (.mv (.t 6)), qI 34 (.bin .eql .other (.t 33) (.c (.int .i64 1))), qI 4 (.mv (.t 32)), qI 5 (.mv (.t 34))])
  .ret))))⟩
theorem cf163 : cF Try.prog Try.f163 = some if163 := by kernel_rfl
/-- loop.example/g01076/impl.pivots -/
def if164 : IFn := ⟨[0], [(.tmp 2)], (.seq (.region [0] [qI 2 (.mv (.c .nils))])
  (.seq (.region [0, 3] [qI 3 (.mv (.c .nils))])
  (.seq (.seq (.region [3, 6, 7, 8] [qI 6 (.mv (.t 0)), qI 7 (.len (.t 6)), qI 8 (.mv (.c (.int .i64 0)))])
  (.block 0 (.loop [3, 6, 7, 8] (.seq (.region [3, 6, 7, 8, 9] [qI 9 (.bin .lss .other (.t 8) (.t 7))])
  (.seq (.cond (.t 9) .skip (.exit 0))
  (.seq (.block 1 (.seq (.region [3, 5, 6, 7, 8] [qI 10 (.indexAddr 1 (.t 6) (.t 8)), qI 11 (.load false 1 (.t 10)), qI 5 (.mv (.t 11))])
  (.region [3, 6, 7, 8] [qI 12 (.mv (.t 3)), qI 13 (.mv (.t 5)), eI 14 (.call 196 [(.t 13), (.c (.clo 197 [] []))]), eI 15 (.buildSl 1 1 [(.int .i64 0)] [(0, 1, (.t 14))]), eI 16 (.append 1 8 (.t 12) (.t 15)), qI 3 (.mv (.t 16))])))
  (.region [3, 6, 7, 8] [qI 17 (.bin .add .other (.t 8) (.c (.int .i64 1))), qI 8 (.mv (.t 17))])))))))
  (.seq (.region [2] [qI 18 (.mv (.t 3)), qI 2 (.mv (.t 18))])
  .ret))))⟩
theorem cf164 : cF Try.prog Try.f164 = some if164 := by kernel_rfl
/-- loop.example/g01076/impl.combination -/
def if165 : IFn := ⟨[0, 1, 2], [(.tmp 6)], (.seq (.region [0, 1, 2] [qI 6 (.mv (.c .nils))])
  (.seq (.region [0, 1, 2, 7] [qI 10 (.mv (.t 0)), qI 11 (.nilCheck (.t 10)), qI 12 (.fieldAddr 1 (.t 11)), qI 13 (.load false 1 (.t 12)), qI 14 (.len (.t 13)), eI 15 (.makeSl 1 8 [(.int .i64 0)] (.t 14) (.t 14)), qI 7 (.mv (.t 15))])
  (.seq (.seq (.region [0, 1, 7, 16, 17, 18] [qI 16 (.mv (.t 2)), qI 17 (.len (.t 16)), qI 18 (.mv (.c (.int .i64 0)))])
  (.block 0 (.loop [0, 1, 7, 16, 17, 18] (.seq (.region [0, 1, 7, 16, 17, 18, 19] [qI 19 (.bin .lss .other (.t 18) (.t 17))])
  (.seq (.cond (.t 19) .skip (.exit 0))
  (.seq (.block 1 (.seq (.region [0, 1, 7, 8, 9, 16, 17, 18] [qI 20 (.mv (.t 18)), qI 21 (.indexAddr 1 (.t 16) (.t 18)), qI 22 (.load false 1 (.t 21)), qI 8 (.mv (.t 20)), qI 9 (.mv (.t 22))])
  (.seq (.region [0, 1, 7, 8, 9, 16, 17, 18, 24] [qI 23 (.mv (.t 9)), qI 24 (.bin .neq .other (.t 23) (.c (.int .i64 0)))])
  (.cond (.t 24) (.region [0, 1, 7, 16, 17, 18] [qI 25 (.mv (.t 7)), qI 26 (.mv (.t 1)), qI 27 (.mv (.t 8)), qI 28 (.indexAddr 1 (.t 26) (.t 27)), qI 29 (.load false 1 (.t 28)), qI 30 (.mv (.t 9)), qI 31 (.un .neg (.t 30)), eI 32 (.call 148 [(.t 25), (.t 29), (.t 31)])]) .skip))))
  (.region [0, 1, 7, 16, 17, 18] [qI 33 (.bin .add .other (.t 18) (.c (.int .i64 1))), qI 18 (.mv (.t 33))])))))))
  (.seq (.region [6] [qI 34 (.mv (.t 0)), qI 35 (.mv (.t 7)), eI 36 (.call 149 [(.t 34), (.t 35)]), qI 6 (.mv (.t 36))])
  .ret))))⟩
theorem cf165 : cF Try.prog Try.f165 = some if165 := by kernel_rfl
/-- loop.example/g01076/spec.l01In -/
def if171 : IFn := ⟨[0, 1, 2], [(.tmp 6)], (.seq (.region [0, 1, 2] [qI 6 (.mv (.c (.bool false)))])
  (.seq (.region [6] [qI 7 (.mv (.t 0)), qI 8 (.mv (.t 1)), qI 9 (.bin .geq .other (.t 7) (.t 8)), qI 10 (.mv (.t 9)), ⟨(some 11), .mv (.t 0), true, (some (10, true))⟩, ⟨(some 12), .mv (.t 2), true, (some (10, true))⟩, ⟨(some 13), .bin .leq .other (.t 11) (.t 12), true, (some (10, true))⟩, qI 14 (.pick (.t 10) (.t 13) (.c (.bool false))), qI 6 (.mv (.t 14))])
  .ret))⟩
theorem cf171 : cF Try.prog Try.f171 = some if171 := by kernel_rfl
/-- loop.example/g01076/spec.l01Mod -/
def if174 : IFn := ⟨[0, 1], [(.tmp 4)], (.seq (.region [0, 1] [qI 4 (.mv (.c (.int .i64 0)))])
  (.seq (.region [1, 5] [qI 6 (.mv (.t 0)), qI 7 (.mv (.t 1)), qI 8 (.bin .rem .other (.t 6) (.t 7)), qI 5 (.mv (.t 8))])
  (.seq (.seq (.region [1, 5, 10] [qI 9 (.mv (.t 5)), qI 10 (.bin .lss .other (.t 9) (.c (.int .i64 0)))])
  (.cond (.t 10) (.region [5] [qI 11 (.mv (.t 5)), qI 12 (.mv (.t 1)), qI 13 (.bin .add .other (.t 11) (.t 12)), qI 5 (.mv (.t 13))]) .skip))
  (.seq (.region [4] [qI 14 (.mv (.t 5)), qI 4 (.mv (.t 14))])
  .ret))))⟩
theorem cf174 : cF Try.prog Try.f174 = some if174 := by kernel_rfl
/-- loop.example/g01076/impl.residue -/
def if180 : IFn := ⟨[0, 1], [(.tmp 4)], (.seq (.region [0, 1] [qI 4 (.mv (.c (.int .i64 0)))])
  (.seq (.region [4] [qI 5 (.mv (.t 0)), qI 6 (.mv (.t 1)), qI 7 (.bin .rem .other (.t 5) (.t 6)), qI 8 (.mv (.t 1)), qI 9 (.bin .add .other (.t 7) (.t 8)), qI 10 (.mv (.t 1)), qI 11 (.bin .rem .other (.t 9) (.t 10)), qI 4 (.mv (.t 11))])
  .ret))⟩
theorem cf180 : cF Try.prog Try.f180 = some if180 := by kernel_rfl
/-- loop.example/g01076/spec.l04Floor -/
def if188 : IFn := ⟨[0, 1], [(.tmp 4)], (.seq (.region [0, 1] [qI 4 (.mv (.c (.int .i64 0)))])
  (.seq (.region [0, 1, 5] [qI 6 (.mv (.t 0)), qI 7 (.mv (.t 1)), qI 8 (.bin .quo .other (.t 6) (.t 7)), qI 5 (.mv (.t 8))])
  (.seq (.seq (.region [5, 12] [qI 9 (.mv (.t 0)), qI 10 (.mv (.t 1)), qI 11 (.bin .rem .other (.t 9) (.t 10)), qI 12 (.bin .lss .other (.t 11) (.c (.int .i64 0)))])
  (.cond (.t 12) (.region [5] [qI 13 (.mv (.t 5)), qI 14 (.bin .sub .other (.t 13) (.c (.int .i64 1))), qI 5 (.mv (.t 14))]) .skip))
  (.seq (.region [4] [qI 15 (.mv (.t 5)), qI 4 (.mv (.t 15))])
  .ret))))⟩
theorem cf188 : cF Try.prog Try.f188 = some if188 := by kernel_rfl
/-- loop.example/g01076/impl.isVector -/
def if189 : IFn := ⟨[0, 1, 2], [(.tmp 6)], (.seq (.region [0, 1, 2] [qI 6 (.mv (.c (.bool false)))])
  (.seq (.seq (.region [0, 1, 12] [qI 9 (.mv (.t 0)), qI 10 (.len (.t 9)), qI 11 (.mv (.t 2)), qI 12 (.bin .neq .other (.t 10) (.t 11))])
  (.cond (.t 12) (.seq (.region [6] [qI 6 (.mv (.c (.bool false)))])
  .ret) .skip))
  (.seq (.seq (.region [1, 13, 14, 15] [qI 13 (.mv (.t 0)), qI 14 (.len (.t 13)), qI 15 (.mv (.c (.int .i64 0)))])
  (.block 0 (.loop [1, 13, 14, 15] (.seq (.region [1, 13, 14, 15, 16] [qI 16 (.bin .lss .other (.t 15) (.t 14))])
  (.seq (.cond (.t 16) .skip (.exit 0))
  (.seq (.block 1 (.seq (.region [1, 8, 13, 14, 15] [qI 17 (.indexAddr 1 (.t 13) (.t 15)), qI 18 (.load false 1 (.t 17)), qI 8 (.mv (.t 18))])
  (.seq (.region [1, 13, 14, 15, 23] [qI 19 (.mv (.t 8)), qI 20 (.mv (.t 1)), qI 21 (.bin .sub .other (.t 20) (.c (.int .i64 1))), eI 22 (.call 204 [(.t 19), (.c (.int .i64 0)), (.t 21)]), qI 23 (.un .not (.t 22))])
  (.cond (.t 23) (.seq (.region [6] [qI 6 (.mv (.c (.bool false)))])
  .ret) .skip))))
  (.region [1, 13, 14, 15] [qI 24 (.bin .add .other (.t 15) (.c (.int .i64 1))), qI 15 (.mv (.t 24))])))))))
  (.seq (.region [6] [qI 6 (.mv (.c (.bool true)))])
  .ret))))⟩
theorem cf189 : cF Try.prog Try.f189 = some if189 := by kernel_rfl
/-- loop.example/g01076/impl.floorQuotient -/
def if194 : IFn := ⟨[0, 1], [(.tmp 4)], (.seq (.region [0, 1] [qI 4 (.mv (.c (.int .i64 0)))])
  (.seq (.region [0, 1, 5] [qI 6 (.mv (.t 0)), qI 7 (.mv (.t 1)), qI 8 (.bin .quo .other (.t 6) (.t 7)), qI 5 (.mv (.t 8))])
  (.seq (.seq (.region [5, 12] [qI 9 (.mv (.t 0)), qI 10 (.mv (.t 1)), qI 11 (.bin .rem .other (.t 9) (.t 10)), qI 12 (.bin .lss .other (.t 11) (.c (.int .i64 0)))])
  (.cond (.t 12) (.region [5] [qI 13 (.mv (.t 5)), qI 14 (.bin .sub .other (.t 13) (.c (.int .i64 1))), qI 5 (.mv (.t 14))]) .skip))
  (.seq (.region [4] [qI 15 (.mv (.t 5)), qI 4 (.mv (.t 15))])
  .ret))))⟩
theorem cf194 : cF Try.prog Try.f194 = some if194 := by kernel_rfl
/-- loop.example/g01076/spec.l04Pivot -/
def if195 : IFn := ⟨[0], [(.tmp 2)], (.seq (.region [0] [qI 2 (.mv (.c (.int .i64 0)))])
  (.seq (.region [0, 3] [qI 3 (.mv (.c (.int .i64 0)))])
  (.seq (.block 0 (.loop [0, 3] (.seq (.seq (.region [0, 3, 14] [qI 4 (.mv (.t 3)), qI 5 (.mv (.t 0)), qI 6 (.len (.t 5)), qI 7 (.bin .lss .other (.t 4) (.t 6)), qI 8 (.mv (.t 7)), ⟨(some 9), .mv (.t 0), true, (some (8, true))⟩, ⟨(some 10), .mv (.t 3), true, (some (8, true))⟩, ⟨(some 11), .indexAddr 1 (.t 9) (.t 10), true, (some (8, true))⟩, ⟨(some 12), .load false 1 (.t 11), true, (some (8, true))⟩, ⟨(some 13), .bin .eql .other (.t 12) (.c (.int .i64 0)), true, (some (8, true))⟩, qI 14 (.pick (.t 8) (.t 13) (.c (.bool false)))])
  (.cond (.t 14) .skip (.exit 0)))
  (.block 1 (.region [0, 3] [qI 15 (.mv (.t 3)), qI 16 (.bin .add .other (.t 15) (.c (.int .i64 1))), qI 3 (.mv (.t 16))])))))
  (.seq (.region [2] [qI 17 (.mv (.t 3)), qI 2 (.mv (.t 17))])
  .ret))))⟩
theorem cf195 : cF Try.prog Try.f195 = some if195 := by kernel_rfl
/-- slices.IndexFunc[[]int64,int64] -/
def if196 : IFn := ⟨[0, 1], [(.tmp 4)], (.seq (.region [0, 1] [qI 4 (.mv (.c (.int .i64 0)))])
  (.seq (.seq (.region [0, 1, 7, 8] [qI 6 (.mv (.t 0)), qI 7 (.len (.t 6)), qI 8 (.mv (.c (.int .i64 0)))])
  (.block 0 (.loop [0, 1, 7, 8] (.seq (.region [0, 1, 7, 8, 9] [qI 9 (.bin .lss .other (.t 8) (.t 7))])
  (.seq (.cond (.t 9) .skip (.exit 0))
  (.seq (.block 1 (.seq (.region [0, 1, 5, 7, 8] [qI 10 (.mv (.t 8)), qI 5 (.mv (.t 10))])
  (.seq (.region [0, 1, 5, 7, 8, 16] [qI 11 (.mv (.t 1)), qI 12 (.mv (.t 0)), qI 13 (.mv (.t 5)), qI 14 (.indexAddr 1 (.t 12) (.t 13)), qI 15 (.load false 1 (.t 14)), eI 16 (.callV (.t 11) [(.t 15)])])
  (.cond (.t 16) (.seq (.region [4] [qI 17 (.mv (.t 5)), qI 4 (.mv (.t 17))])
  .ret) .skip))))
  (.region [0, 1, 7, 8] [qI 18 (.bin .add .other (.t 8) (.c (.int .i64 1))), qI 8 (.mv (.t 18))])))))))
  (.seq (.region [4] [qI 4 (.mv (.c (.int .i64 (-1))))])
  .ret)))⟩
theorem cf196 : cF Try.prog Try.f196 = some if196 := by kernel_rfl
/-- loop.example/g01076/impl.pivots$1 -/
def if197 : IFn := ⟨[0], [(.tmp 2)], (.seq (.region [0] [qI 2 (.mv (.c (.bool false)))])
  (.seq (.region [2] [qI 3 (.mv (.t 0)), qI 4 (.bin .neq .other (.t 3) (.c (.int .i64 0))), qI 2 (.mv (.t 4))])
  .ret))⟩
theorem cf197 : cF Try.prog Try.f197 = some if197 := by kernel_rfl
/-- loop.example/g01076/impl.inside -/
def if204 : IFn := ⟨[0, 1, 2], [(.tmp 6)], (.seq (.region [0, 1, 2] [qI 6 (.mv (.c (.bool false)))])
  (.seq (.region [6] [qI 7 (.mv (.t 0)), qI 8 (.mv (.t 1)), qI 9 (.bin .geq .other (.t 7) (.t 8)), qI 10 (.mv (.t 9)), ⟨(some 11), .mv (.t 0), true, (some (10, true))⟩, ⟨(some 12), .mv (.t 2), true, (some (10, true))⟩, ⟨(some 13), .bin .leq .other (.t 11) (.t 12), true, (some (10, true))⟩, qI 14 (.pick (.t 10) (.t 13) (.c (.bool false))), qI 6 (.mv (.t 14))])
  .ret))⟩
theorem cf204 : cF Try.prog Try.f204 = some if204 := by kernel_rfl
end Go.Proofs
set_option linter.unusedSimpArgs false
set_option linter.unusedVariables false
namespace Go.Proofs
open Go.Ab
variable {σ : PHeap} {K : PV → PHeap → Prop}
theorem inside_ok {n lo hi : Int} (hk : K (.bool (decide (lo ≤ n ∧ n ≤ hi))) σ) : PCalls Try.prog 204 [.int .i64 n, .int .i64 lo, .int .i64 hi] σ K := by
  refine pcalls_of_vp mix Try.func204 cf204 rfl ?_
  dsimp only [if204, qI, eI, nI, qD, eD]
  by_cases h1 : lo ≤ n
  · simp only [pwA, if_true, if_false, eq_self, nm_eq, reduceCtorEq, ↓reduceIte, Nat.reduceEqDiff, Nat.reduceLeDiff, Nat.reduceBEq, Nat.reduceAdd, Nat.reduceLT, Nat.reduceSub, Nat.reduceMul, Int.reduceEq, Int.reduceLT, Int.reduceLE, Int.reduceNeg, Int.reduceToNat, List.reduceReplicate, Int.ofNat_le, List.getElem?_drop, h1]; exact pke hk ⟨fun x => x.2, fun x => ⟨h1, x⟩⟩
  · simp only [pwA, if_true, if_false, eq_self, nm_eq, reduceCtorEq, ↓reduceIte, Nat.reduceEqDiff, Nat.reduceLeDiff, Nat.reduceBEq, Nat.reduceAdd, Nat.reduceLT, Nat.reduceSub, Nat.reduceMul, Int.reduceEq, Int.reduceLT, Int.reduceLE, Int.reduceNeg, Int.reduceToNat, List.reduceReplicate, Int.ofNat_le, List.getElem?_drop, h1]; exact pkf hk (by omega)
theorem l01In_ok {n lo hi : Int} (hk : K (.bool (decide (lo ≤ n ∧ n ≤ hi))) σ) : PCalls Try.prog 171 [.int .i64 n, .int .i64 lo, .int .i64 hi] σ K := by
  refine pcalls_of_vp mix Try.func171 cf171 rfl ?_
  dsimp only [if171, qI, eI, nI, qD, eD]
  by_cases h1 : lo ≤ n
  · simp only [pwA, if_true, if_false, eq_self, nm_eq, reduceCtorEq, ↓reduceIte, Nat.reduceEqDiff, Nat.reduceLeDiff, Nat.reduceBEq, Nat.reduceAdd, Nat.reduceLT, Nat.reduceSub, Nat.reduceMul, Int.reduceEq, Int.reduceLT, Int.reduceLE, Int.reduceNeg, Int.reduceToNat, List.reduceReplicate, Int.ofNat_le, List.getElem?_drop, h1]; exact pke hk ⟨fun x => x.2, fun x => ⟨h1, x⟩⟩
  · simp only [pwA, if_true, if_false, eq_self, nm_eq, reduceCtorEq, ↓reduceIte, Nat.reduceEqDiff, Nat.reduceLeDiff, Nat.reduceBEq, Nat.reduceAdd, Nat.reduceLT, Nat.reduceSub, Nat.reduceMul, Int.reduceEq, Int.reduceLT, Int.reduceLE, Int.reduceNeg, Int.reduceToNat, List.reduceReplicate, Int.ofNat_le, List.getElem?_drop, h1]; exact pkf hk (by omega)
/-- A vector over p of n entries. -/
def isVec (xs : List Int) (p n : Int) : Prop := (xs.length : Int) = n ∧ ∀ x ∈ xs, 0 ≤ x ∧ x ≤ p - 1
instance (xs : List Int) (p n : Int) : Decidable (isVec xs p n) := by unfold isVec; infer_instance
theorem isVector_ok {w : Bool} {a : AV} {xs : List Int} {p n : Int} {l : Nat} (hl : l = xs.length) (hb : xs.length ≤ 4611686018427387904) (hp : 0 < p) (hp2 : p < 4611686018427387904) (hk : K (.bool (decide (isVec xs p n))) σ) :
    PCalls Try.prog 189 [.fz w a l (pis xs), .int .i64 p, .int .i64 n] σ K := by
  subst hl
  refine pcalls_of_vp mix Try.func189 cf189 rfl ?_
  dsimp only [if189, qI, eI, nI, qD, eD]
  simp only [pwA, if_true, if_false, eq_self, nm_eq, reduceCtorEq, ↓reduceIte, Nat.reduceEqDiff, Nat.reduceLeDiff, Nat.reduceBEq, Nat.reduceAdd, Nat.reduceLT, Nat.reduceSub, Nat.reduceMul, Int.reduceEq, Int.reduceLT, Int.reduceLE, Int.reduceNeg, Int.reduceToNat, List.reduceReplicate, Int.ofNat_le, List.getElem?_drop]
  split
  · refine vp_loop (fun m vs h' => ∃ i : Nat, i ≤ xs.length ∧ m = xs.length - i ∧ vs = [.int .i64 p, .fz w a xs.length (pis xs), .int .i64 xs.length, .int .i64 i] ∧ h' = σ ∧ ∀ x ∈ xs.take i, 0 ≤ x ∧ x ≤ p - 1) xs.length ?_ ?_
    · exact ⟨0, by omega, by omega, rfl, rfl, by simp⟩
    · rintro m vs h' ⟨i, hi, rfl, rfl, rfl, hall⟩
      simp only [pwA, if_true, if_false, eq_self, nm_eq, reduceCtorEq, ↓reduceIte, Nat.reduceEqDiff, Nat.reduceLeDiff, Nat.reduceBEq, Nat.reduceAdd, Nat.reduceLT, Nat.reduceSub, Nat.reduceMul, Int.reduceEq, Int.reduceLT, Int.reduceLE, Int.reduceNeg, Int.reduceToNat, List.reduceReplicate, Int.ofNat_le, List.getElem?_drop]
      split
      · rename_i hlt
        have hw1 : IntKind.i64.wrap (p - 1) = p - 1 := wrap64 (by omega) (by omega)
        simp only [pwA, if_true, if_false, eq_self, nm_eq, reduceCtorEq, ↓reduceIte, Nat.reduceEqDiff, Nat.reduceLeDiff, Nat.reduceBEq, Nat.reduceAdd, Nat.reduceLT, Nat.reduceSub, Nat.reduceMul, Int.reduceEq, Int.reduceLT, Int.reduceLE, Int.reduceNeg, Int.reduceToNat, List.reduceReplicate, Int.ofNat_le, List.getElem?_drop, hlt, List.getElem?_drop, pis_get, gi hlt, wrapS hlt hb, hw1]
        refine inside_ok ?_
        simp only [pwA, if_true, if_false, eq_self, nm_eq, reduceCtorEq, ↓reduceIte, Nat.reduceEqDiff, Nat.reduceLeDiff, Nat.reduceBEq, Nat.reduceAdd, Nat.reduceLT, Nat.reduceSub, Nat.reduceMul, Int.reduceEq, Int.reduceLT, Int.reduceLE, Int.reduceNeg, Int.reduceToNat, List.reduceReplicate, Int.ofNat_le, List.getElem?_drop, wrapS hlt hb]
        split
        · exact ⟨_, by omega, i + 1, by omega, rfl, rfl, forall_snoc hlt hall (by assumption)⟩
        · rename_i hn
          exact pkf hk fun hv => hn (hv.2 _ (List.getElem_mem hlt))
      · refine pkt hk ⟨by assumption, forall_all (by omega) hall⟩
  · rename_i hne
    exact pkf hk fun hv => hne hv.1
theorem l31Is_ok {w : Bool} {a : AV} {xs : List Int} {p : Int} {n : Nat} {l : Nat} (hl : l = xs.length) (hb : xs.length ≤ 4611686018427387904) (hp : 0 < p) (hp2 : p < 4611686018427387904) (hk : K (.bool (decide (isVec xs p n))) σ) :
    PCalls Try.prog 150 [.fz w a l (pis xs), .int .i64 p, .int .i64 n] σ K := by
  subst hl
  refine pcalls_of_vp mix Try.func150 cf150 rfl ?_
  dsimp only [if150, qI, eI, nI, qD, eD]
  simp only [pwA, if_true, if_false, eq_self, nm_eq, reduceCtorEq, ↓reduceIte, Nat.reduceEqDiff, Nat.reduceLeDiff, Nat.reduceBEq, Nat.reduceAdd, Nat.reduceLT, Nat.reduceSub, Nat.reduceMul, Int.reduceEq, Int.reduceLT, Int.reduceLE, Int.reduceNeg, Int.reduceToNat, List.reduceReplicate, Int.ofNat_le, List.getElem?_drop]
  split
  · rename_i hl
    have hl : xs.length = n := by omega
    subst hl
    refine vp_loop (fun m vs h' => ∃ i : Nat, i ≤ xs.length ∧ m = xs.length - i ∧ vs = [.fz w a xs.length (pis xs), .int .i64 p, .int .i64 xs.length, .int .i64 i] ∧ h' = σ ∧ ∀ x ∈ xs.take i, 0 ≤ x ∧ x ≤ p - 1) xs.length ?_ ?_
    · exact ⟨0, by omega, by omega, rfl, rfl, by simp⟩
    · rintro m vs h' ⟨i, hi, rfl, rfl, rfl, hall⟩
      simp only [pwA, if_true, if_false, eq_self, nm_eq, reduceCtorEq, ↓reduceIte, Nat.reduceEqDiff, Nat.reduceLeDiff, Nat.reduceBEq, Nat.reduceAdd, Nat.reduceLT, Nat.reduceSub, Nat.reduceMul, Int.reduceEq, Int.reduceLT, Int.reduceLE, Int.reduceNeg, Int.reduceToNat, List.reduceReplicate, Int.ofNat_le, List.getElem?_drop]
      split
      · rename_i hlt
        have hw1 : IntKind.i64.wrap (p - 1) = p - 1 := wrap64 (by omega) (by omega)
        simp only [pwA, if_true, if_false, eq_self, nm_eq, reduceCtorEq, ↓reduceIte, Nat.reduceEqDiff, Nat.reduceLeDiff, Nat.reduceBEq, Nat.reduceAdd, Nat.reduceLT, Nat.reduceSub, Nat.reduceMul, Int.reduceEq, Int.reduceLT, Int.reduceLE, Int.reduceNeg, Int.reduceToNat, List.reduceReplicate, Int.ofNat_le, List.getElem?_drop, hlt, List.getElem?_drop, pis_get, gi hlt, wrapS hlt hb, hw1]
        refine l01In_ok ?_
        simp only [pwA, if_true, if_false, eq_self, nm_eq, reduceCtorEq, ↓reduceIte, Nat.reduceEqDiff, Nat.reduceLeDiff, Nat.reduceBEq, Nat.reduceAdd, Nat.reduceLT, Nat.reduceSub, Nat.reduceMul, Int.reduceEq, Int.reduceLT, Int.reduceLE, Int.reduceNeg, Int.reduceToNat, List.reduceReplicate, Int.ofNat_le, List.getElem?_drop, wrapS hlt hb]
        split
        · exact ⟨_, by omega, i + 1, by omega, rfl, rfl, forall_snoc hlt hall (by assumption)⟩
        · rename_i hn
          exact pkf hk fun hv => hn (hv.2 _ (List.getElem_mem hlt))
      · refine pkt hk ⟨rfl, forall_all (by omega) hall⟩
  · rename_i hne
    exact pkf hk fun hv => hne hv.1
/-- All entries are 0. -/
def isZ (xs : List Int) : Prop := ∀ x ∈ xs, x = 0
instance (xs : List Int) : Decidable (isZ xs) := by unfold isZ; infer_instance
theorem isZero_ok {w : Bool} {a : AV} {xs : List Int} {l : Nat} (hl : l = xs.length) (hb : xs.length ≤ 4611686018427387904) (hk : K (.bool (decide (isZ xs))) σ) : PCalls Try.prog 108 [.fz w a l (pis xs)] σ K := by
  subst hl
  refine pcalls_of_vp mix Try.func108 cf108 rfl ?_
  dsimp only [if108, qI, eI, nI, qD, eD]
  simp only [pwA, if_true, if_false, eq_self, nm_eq, reduceCtorEq, ↓reduceIte, Nat.reduceEqDiff, Nat.reduceLeDiff, Nat.reduceBEq, Nat.reduceAdd, Nat.reduceLT, Nat.reduceSub, Nat.reduceMul, Int.reduceEq, Int.reduceLT, Int.reduceLE, Int.reduceNeg, Int.reduceToNat, List.reduceReplicate, Int.ofNat_le, List.getElem?_drop]
  refine vp_loop (fun m vs h' => ∃ i : Nat, i ≤ xs.length ∧ m = xs.length - i ∧ vs = [.fz w a xs.length (pis xs), .int .i64 xs.length, .int .i64 i] ∧ h' = σ ∧ ∀ x ∈ xs.take i, x = 0) xs.length ?_ ?_
  · exact ⟨0, by omega, by omega, rfl, rfl, by simp⟩
  · rintro m vs h' ⟨i, hi, rfl, rfl, rfl, hall⟩
    simp only [pwA, if_true, if_false, eq_self, nm_eq, reduceCtorEq, ↓reduceIte, Nat.reduceEqDiff, Nat.reduceLeDiff, Nat.reduceBEq, Nat.reduceAdd, Nat.reduceLT, Nat.reduceSub, Nat.reduceMul, Int.reduceEq, Int.reduceLT, Int.reduceLE, Int.reduceNeg, Int.reduceToNat, List.reduceReplicate, Int.ofNat_le, List.getElem?_drop]
    split
    · rename_i hlt
      simp only [pwA, if_true, if_false, eq_self, nm_eq, reduceCtorEq, ↓reduceIte, Nat.reduceEqDiff, Nat.reduceLeDiff, Nat.reduceBEq, Nat.reduceAdd, Nat.reduceLT, Nat.reduceSub, Nat.reduceMul, Int.reduceEq, Int.reduceLT, Int.reduceLE, Int.reduceNeg, Int.reduceToNat, List.reduceReplicate, Int.ofNat_le, List.getElem?_drop, hlt, List.getElem?_drop, pis_get, gi hlt]
      split
      · rename_i h0
        simp only [pwA, if_true, if_false, eq_self, nm_eq, reduceCtorEq, ↓reduceIte, Nat.reduceEqDiff, Nat.reduceLeDiff, Nat.reduceBEq, Nat.reduceAdd, Nat.reduceLT, Nat.reduceSub, Nat.reduceMul, Int.reduceEq, Int.reduceLT, Int.reduceLE, Int.reduceNeg, Int.reduceToNat, List.reduceReplicate, Int.ofNat_le, List.getElem?_drop, wrapS hlt hb]
        exact ⟨_, by omega, i + 1, by omega, rfl, rfl, forall_snoc hlt hall h0⟩
      · rename_i hn
        exact pkf hk fun hv => hn (hv _ (List.getElem_mem hlt))
    · refine pkt hk (forall_all (by omega) hall)
theorem l01Zero_ok {w : Bool} {a : AV} {xs : List Int} {l : Nat} (hl : l = xs.length) (hb : xs.length ≤ 4611686018427387904) (hk : K (.bool (decide (isZ xs))) σ) : PCalls Try.prog 65 [.fz w a l (pis xs)] σ K := by
  subst hl
  refine pcalls_of_vp mix Try.func65 cf65 rfl ?_
  dsimp only [if65, qI, eI, nI, qD, eD]
  simp only [pwA, if_true, if_false, eq_self, nm_eq, reduceCtorEq, ↓reduceIte, Nat.reduceEqDiff, Nat.reduceLeDiff, Nat.reduceBEq, Nat.reduceAdd, Nat.reduceLT, Nat.reduceSub, Nat.reduceMul, Int.reduceEq, Int.reduceLT, Int.reduceLE, Int.reduceNeg, Int.reduceToNat, List.reduceReplicate, Int.ofNat_le, List.getElem?_drop]
  refine vp_loop (fun m vs h' => ∃ i : Nat, i ≤ xs.length ∧ m = xs.length - i ∧ vs = [.fz w a xs.length (pis xs), .int .i64 i] ∧ h' = σ ∧ ∀ x ∈ xs.take i, x = 0) xs.length ?_ ?_
  · exact ⟨0, by omega, by omega, rfl, rfl, by simp⟩
  · rintro m vs h' ⟨i, hi, rfl, rfl, rfl, hall⟩
    simp only [pwA, if_true, if_false, eq_self, nm_eq, reduceCtorEq, ↓reduceIte, Nat.reduceEqDiff, Nat.reduceLeDiff, Nat.reduceBEq, Nat.reduceAdd, Nat.reduceLT, Nat.reduceSub, Nat.reduceMul, Int.reduceEq, Int.reduceLT, Int.reduceLE, Int.reduceNeg, Int.reduceToNat, List.reduceReplicate, Int.ofNat_le, List.getElem?_drop]
    split
    · rename_i hlt
      simp only [pwA, if_true, if_false, eq_self, nm_eq, reduceCtorEq, ↓reduceIte, Nat.reduceEqDiff, Nat.reduceLeDiff, Nat.reduceBEq, Nat.reduceAdd, Nat.reduceLT, Nat.reduceSub, Nat.reduceMul, Int.reduceEq, Int.reduceLT, Int.reduceLE, Int.reduceNeg, Int.reduceToNat, List.reduceReplicate, Int.ofNat_le, List.getElem?_drop, hlt, List.getElem?_drop, pis_get, gi hlt]
      split
      · rename_i h0
        simp only [pwA, if_true, if_false, eq_self, nm_eq, reduceCtorEq, ↓reduceIte, Nat.reduceEqDiff, Nat.reduceLeDiff, Nat.reduceBEq, Nat.reduceAdd, Nat.reduceLT, Nat.reduceSub, Nat.reduceMul, Int.reduceEq, Int.reduceLT, Int.reduceLE, Int.reduceNeg, Int.reduceToNat, List.reduceReplicate, Int.ofNat_le, List.getElem?_drop, wrapS hlt hb]
        exact ⟨_, by omega, i + 1, by omega, rfl, rfl, forall_snoc hlt hall h0⟩
      · rename_i hn
        exact pkf hk fun hv => hn (hv _ (List.getElem_mem hlt))
    · refine pkt hk (forall_all (by omega) hall)
theorem l31Blank_ok {w : Bool} {a : AV} {xs : List Int} {k : Nat} {l : Nat} (hl : l = xs.length) (hb : xs.length ≤ 4611686018427387904) (hkl : k < xs.length) (hk : K (.bool (decide (isZ (xs.take (k + 1))))) σ) : PCalls Try.prog 151 [.fz w a l (pis xs), .int .i64 k] σ K := by
  subst hl
  refine pcalls_of_vp mix Try.func151 cf151 rfl ?_
  dsimp only [if151, qI, eI, nI, qD, eD]
  simp only [pwA, if_true, if_false, eq_self, nm_eq, reduceCtorEq, ↓reduceIte, Nat.reduceEqDiff, Nat.reduceLeDiff, Nat.reduceBEq, Nat.reduceAdd, Nat.reduceLT, Nat.reduceSub, Nat.reduceMul, Int.reduceEq, Int.reduceLT, Int.reduceLE, Int.reduceNeg, Int.reduceToNat, List.reduceReplicate, Int.ofNat_le, List.getElem?_drop]
  refine vp_loop (fun m vs h' => ∃ i : Nat, i ≤ k + 1 ∧ m = k + 1 - i ∧ vs = [.fz w a xs.length (pis xs), .int .i64 k, .int .i64 i] ∧ h' = σ ∧ ∀ x ∈ xs.take i, x = 0) (k + 1) ?_ ?_
  · exact ⟨0, by omega, by omega, rfl, rfl, by simp⟩
  · rintro m vs h' ⟨i, hi, rfl, rfl, rfl, hall⟩
    simp only [pwA, if_true, if_false, eq_self, nm_eq, reduceCtorEq, ↓reduceIte, Nat.reduceEqDiff, Nat.reduceLeDiff, Nat.reduceBEq, Nat.reduceAdd, Nat.reduceLT, Nat.reduceSub, Nat.reduceMul, Int.reduceEq, Int.reduceLT, Int.reduceLE, Int.reduceNeg, Int.reduceToNat, List.reduceReplicate, Int.ofNat_le, List.getElem?_drop]
    split
    · rename_i hlt
      have hlt : i < xs.length := by omega
      simp only [pwA, if_true, if_false, eq_self, nm_eq, reduceCtorEq, ↓reduceIte, Nat.reduceEqDiff, Nat.reduceLeDiff, Nat.reduceBEq, Nat.reduceAdd, Nat.reduceLT, Nat.reduceSub, Nat.reduceMul, Int.reduceEq, Int.reduceLT, Int.reduceLE, Int.reduceNeg, Int.reduceToNat, List.reduceReplicate, Int.ofNat_le, List.getElem?_drop, hlt, List.getElem?_drop, pis_get, gi hlt]
      split
      · rename_i h0
        simp only [pwA, if_true, if_false, eq_self, nm_eq, reduceCtorEq, ↓reduceIte, Nat.reduceEqDiff, Nat.reduceLeDiff, Nat.reduceBEq, Nat.reduceAdd, Nat.reduceLT, Nat.reduceSub, Nat.reduceMul, Int.reduceEq, Int.reduceLT, Int.reduceLE, Int.reduceNeg, Int.reduceToNat, List.reduceReplicate, Int.ofNat_le, List.getElem?_drop, wrapS hlt hb]
        exact ⟨_, by omega, i + 1, by omega, rfl, rfl, forall_snoc hlt hall h0⟩
      · rename_i hn
        refine pkf hk fun hv => hn (hv _ ?_)
        rw [List.mem_take_iff_getElem]
        exact ⟨i, by omega, rfl⟩
    · have : i = k + 1 := by omega
      subst this
      exact pkt hk hall
theorem eqList {xs ys : List Int} (hl : xs.length = ys.length) {i : Nat} (hi : i < xs.length) (h : xs.take i = ys.take i) (he : xs[i] = ys[i]'(by omega)) : xs.take (i + 1) = ys.take (i + 1) := by
  rw [List.take_succ_eq_append_getElem hi, List.take_succ_eq_append_getElem (by omega : i < ys.length), h, he]
theorem l01Same_ok {w w' : Bool} {a a' : AV} {xs ys : List Int} {l : Nat} {l' : Nat} (hl : l = xs.length) (hl' : l' = ys.length) (hb : xs.length ≤ 4611686018427387904) (hk : K (.bool (decide (xs = ys))) σ) : PCalls Try.prog 153 [.fz w a l (pis xs), .fz w' a' l' (pis ys)] σ K := by
  subst hl
  subst hl'
  refine pcalls_of_vp mix Try.func153 cf153 rfl ?_
  dsimp only [if153, qI, eI, nI, qD, eD]
  simp only [pwA, if_true, if_false, eq_self, nm_eq, reduceCtorEq, ↓reduceIte, Nat.reduceEqDiff, Nat.reduceLeDiff, Nat.reduceBEq, Nat.reduceAdd, Nat.reduceLT, Nat.reduceSub, Nat.reduceMul, Int.reduceEq, Int.reduceLT, Int.reduceLE, Int.reduceNeg, Int.reduceToNat, List.reduceReplicate, Int.ofNat_le, List.getElem?_drop]
  split
  · rename_i hl
    have hl : xs.length = ys.length := by omega
    refine vp_loop (fun m vs h' => ∃ i : Nat, i ≤ xs.length ∧ m = xs.length - i ∧ vs = [.fz w a xs.length (pis xs), .fz w' a' ys.length (pis ys), .int .i64 i] ∧ h' = σ ∧ xs.take i = ys.take i) xs.length ?_ ?_
    · exact ⟨0, by omega, by omega, rfl, rfl, by simp⟩
    · rintro m vs h' ⟨i, hi, rfl, rfl, rfl, hall⟩
      simp only [pwA, if_true, if_false, eq_self, nm_eq, reduceCtorEq, ↓reduceIte, Nat.reduceEqDiff, Nat.reduceLeDiff, Nat.reduceBEq, Nat.reduceAdd, Nat.reduceLT, Nat.reduceSub, Nat.reduceMul, Int.reduceEq, Int.reduceLT, Int.reduceLE, Int.reduceNeg, Int.reduceToNat, List.reduceReplicate, Int.ofNat_le, List.getElem?_drop]
      split
      · rename_i hlt
        have hlt2 : i < ys.length := by omega
        simp only [pwA, if_true, if_false, eq_self, nm_eq, reduceCtorEq, ↓reduceIte, Nat.reduceEqDiff, Nat.reduceLeDiff, Nat.reduceBEq, Nat.reduceAdd, Nat.reduceLT, Nat.reduceSub, Nat.reduceMul, Int.reduceEq, Int.reduceLT, Int.reduceLE, Int.reduceNeg, Int.reduceToNat, List.reduceReplicate, Int.ofNat_le, List.getElem?_drop, hlt, hlt2, List.getElem?_drop, pis_get, gi hlt, gi hlt2]
        split
        · rename_i h0
          simp only [pwA, if_true, if_false, eq_self, nm_eq, reduceCtorEq, ↓reduceIte, Nat.reduceEqDiff, Nat.reduceLeDiff, Nat.reduceBEq, Nat.reduceAdd, Nat.reduceLT, Nat.reduceSub, Nat.reduceMul, Int.reduceEq, Int.reduceLT, Int.reduceLE, Int.reduceNeg, Int.reduceToNat, List.reduceReplicate, Int.ofNat_le, List.getElem?_drop, wrapS hlt hb]
          exact ⟨_, by omega, i + 1, by omega, rfl, rfl, eqList hl hlt hall h0⟩
        · rename_i hn
          refine pkf hk fun hv => hn (by subst hv; rfl)
      · refine pkt hk ?_
        rwa [List.take_of_length_le (by omega), List.take_of_length_le (by omega)] at hall
  · rename_i hl
    exact pkf hk fun hv => hl (by rw [hv])
theorem Equal_ok {w w' : Bool} {a a' : AV} {xs ys : List Int} {l : Nat} {l' : Nat} (hl : l = xs.length) (hl' : l' = ys.length) (hb : xs.length ≤ 4611686018427387904) (hk : K (.bool (decide (xs = ys))) σ) : PCalls Try.prog 159 [.fz w a l (pis xs), .fz w' a' l' (pis ys)] σ K := by
  subst hl
  subst hl'
  refine pcalls_of_vp mix Try.func159 cf159 rfl ?_
  dsimp only [if159, qI, eI, nI, qD, eD]
  simp only [pwA, if_true, if_false, eq_self, nm_eq, reduceCtorEq, ↓reduceIte, Nat.reduceEqDiff, Nat.reduceLeDiff, Nat.reduceBEq, Nat.reduceAdd, Nat.reduceLT, Nat.reduceSub, Nat.reduceMul, Int.reduceEq, Int.reduceLT, Int.reduceLE, Int.reduceNeg, Int.reduceToNat, List.reduceReplicate, Int.ofNat_le, List.getElem?_drop]
  split
  · rename_i hl
    have hl : xs.length = ys.length := by omega
    refine vp_loop (fun m vs h' => ∃ i : Nat, i ≤ xs.length ∧ m = xs.length - i ∧ vs = [.fz w a xs.length (pis xs), .fz w' a' ys.length (pis ys), .int .i64 xs.length, .int .i64 i] ∧ h' = σ ∧ xs.take i = ys.take i) xs.length ?_ ?_
    · exact ⟨0, by omega, by omega, rfl, rfl, by simp⟩
    · rintro m vs h' ⟨i, hi, rfl, rfl, rfl, hall⟩
      simp only [pwA, if_true, if_false, eq_self, nm_eq, reduceCtorEq, ↓reduceIte, Nat.reduceEqDiff, Nat.reduceLeDiff, Nat.reduceBEq, Nat.reduceAdd, Nat.reduceLT, Nat.reduceSub, Nat.reduceMul, Int.reduceEq, Int.reduceLT, Int.reduceLE, Int.reduceNeg, Int.reduceToNat, List.reduceReplicate, Int.ofNat_le, List.getElem?_drop]
      split
      · rename_i hlt
        have hlt2 : i < ys.length := by omega
        simp only [pwA, if_true, if_false, eq_self, nm_eq, reduceCtorEq, ↓reduceIte, Nat.reduceEqDiff, Nat.reduceLeDiff, Nat.reduceBEq, Nat.reduceAdd, Nat.reduceLT, Nat.reduceSub, Nat.reduceMul, Int.reduceEq, Int.reduceLT, Int.reduceLE, Int.reduceNeg, Int.reduceToNat, List.reduceReplicate, Int.ofNat_le, List.getElem?_drop, hlt, hlt2, List.getElem?_drop, pis_get, gi hlt, gi hlt2]
        split
        · rename_i h0
          simp only [pwA, if_true, if_false, eq_self, nm_eq, reduceCtorEq, ↓reduceIte, Nat.reduceEqDiff, Nat.reduceLeDiff, Nat.reduceBEq, Nat.reduceAdd, Nat.reduceLT, Nat.reduceSub, Nat.reduceMul, Int.reduceEq, Int.reduceLT, Int.reduceLE, Int.reduceNeg, Int.reduceToNat, List.reduceReplicate, Int.ofNat_le, List.getElem?_drop, wrapS hlt hb]
          exact ⟨_, by omega, i + 1, by omega, rfl, rfl, eqList hl hlt hall h0⟩
        · rename_i hn
          refine pkf hk fun hv => hn (by subst hv; rfl)
      · refine pkt hk ?_
        rwa [List.take_of_length_le (by omega), List.take_of_length_le (by omega)] at hall
  · rename_i hl
    exact pkf hk fun hv => hl (by rw [hv])
def isP (n : Int) : Prop := n = 2 ∨ n = 3 ∨ n = 5 ∨ n = 7
instance (n : Int) : Decidable (isP n) := by unfold isP; infer_instance
theorem isP.bd {n : Int} (hp : isP n) : 2 ≤ n ∧ n ≤ 7 := by unfold isP at hp; omega
theorem l01Prime_ok {n : Int} (hk : K (.bool (decide (isP n))) σ) : PCalls Try.prog 124 [.int .i64 n] σ K := by
  refine pcalls_of_vp mix Try.func124 cf124 rfl ?_
  dsimp only [if124, qI, eI, nI, qD, eD]
  by_cases h2 : n = 2
  · simp only [pwA, if_true, if_false, eq_self, nm_eq, reduceCtorEq, ↓reduceIte, Nat.reduceEqDiff, Nat.reduceLeDiff, Nat.reduceBEq, Nat.reduceAdd, Nat.reduceLT, Nat.reduceSub, Nat.reduceMul, Int.reduceEq, Int.reduceLT, Int.reduceLE, Int.reduceNeg, Int.reduceToNat, List.reduceReplicate, Int.ofNat_le, List.getElem?_drop, h2]; exact pkt hk (by unfold isP; omega)
  by_cases h3 : n = 3
  · simp only [pwA, if_true, if_false, eq_self, nm_eq, reduceCtorEq, ↓reduceIte, Nat.reduceEqDiff, Nat.reduceLeDiff, Nat.reduceBEq, Nat.reduceAdd, Nat.reduceLT, Nat.reduceSub, Nat.reduceMul, Int.reduceEq, Int.reduceLT, Int.reduceLE, Int.reduceNeg, Int.reduceToNat, List.reduceReplicate, Int.ofNat_le, List.getElem?_drop, h3]; exact pkt hk (by unfold isP; omega)
  by_cases h5 : n = 5
  · simp only [pwA, if_true, if_false, eq_self, nm_eq, reduceCtorEq, ↓reduceIte, Nat.reduceEqDiff, Nat.reduceLeDiff, Nat.reduceBEq, Nat.reduceAdd, Nat.reduceLT, Nat.reduceSub, Nat.reduceMul, Int.reduceEq, Int.reduceLT, Int.reduceLE, Int.reduceNeg, Int.reduceToNat, List.reduceReplicate, Int.ofNat_le, List.getElem?_drop, h5]; exact pkt hk (by unfold isP; omega)
  by_cases h7 : n = 7
  · simp only [pwA, if_true, if_false, eq_self, nm_eq, reduceCtorEq, ↓reduceIte, Nat.reduceEqDiff, Nat.reduceLeDiff, Nat.reduceBEq, Nat.reduceAdd, Nat.reduceLT, Nat.reduceSub, Nat.reduceMul, Int.reduceEq, Int.reduceLT, Int.reduceLE, Int.reduceNeg, Int.reduceToNat, List.reduceReplicate, Int.ofNat_le, List.getElem?_drop, h7]; exact pkt hk (by unfold isP; omega)
  simp only [pwA, if_true, if_false, eq_self, nm_eq, reduceCtorEq, ↓reduceIte, Nat.reduceEqDiff, Nat.reduceLeDiff, Nat.reduceBEq, Nat.reduceAdd, Nat.reduceLT, Nat.reduceSub, Nat.reduceMul, Int.reduceEq, Int.reduceLT, Int.reduceLE, Int.reduceNeg, Int.reduceToNat, List.reduceReplicate, Int.ofNat_le, List.getElem?_drop, h2, h3, h5, h7]
  exact pkf hk (by unfold isP; omega)
theorem IsGroupPrime_ok {n : Int} (hk : K (.bool (decide (isP n))) σ) : PCalls Try.prog 132 [.int .i64 n] σ K := by
  refine pcalls_of_vp mix Try.func132 cf132 rfl ?_
  dsimp only [if132, qI, eI, nI, qD, eD]
  by_cases h2 : n = 2
  · simp only [pwA, if_true, if_false, eq_self, nm_eq, reduceCtorEq, ↓reduceIte, Nat.reduceEqDiff, Nat.reduceLeDiff, Nat.reduceBEq, Nat.reduceAdd, Nat.reduceLT, Nat.reduceSub, Nat.reduceMul, Int.reduceEq, Int.reduceLT, Int.reduceLE, Int.reduceNeg, Int.reduceToNat, List.reduceReplicate, Int.ofNat_le, List.getElem?_drop, h2]; exact pkt hk (by unfold isP; omega)
  by_cases h3 : n = 3
  · simp only [pwA, if_true, if_false, eq_self, nm_eq, reduceCtorEq, ↓reduceIte, Nat.reduceEqDiff, Nat.reduceLeDiff, Nat.reduceBEq, Nat.reduceAdd, Nat.reduceLT, Nat.reduceSub, Nat.reduceMul, Int.reduceEq, Int.reduceLT, Int.reduceLE, Int.reduceNeg, Int.reduceToNat, List.reduceReplicate, Int.ofNat_le, List.getElem?_drop, h3]; exact pkt hk (by unfold isP; omega)
  by_cases h5 : n = 5
  · simp only [pwA, if_true, if_false, eq_self, nm_eq, reduceCtorEq, ↓reduceIte, Nat.reduceEqDiff, Nat.reduceLeDiff, Nat.reduceBEq, Nat.reduceAdd, Nat.reduceLT, Nat.reduceSub, Nat.reduceMul, Int.reduceEq, Int.reduceLT, Int.reduceLE, Int.reduceNeg, Int.reduceToNat, List.reduceReplicate, Int.ofNat_le, List.getElem?_drop, h5]; exact pkt hk (by unfold isP; omega)
  by_cases h7 : n = 7
  · simp only [pwA, if_true, if_false, eq_self, nm_eq, reduceCtorEq, ↓reduceIte, Nat.reduceEqDiff, Nat.reduceLeDiff, Nat.reduceBEq, Nat.reduceAdd, Nat.reduceLT, Nat.reduceSub, Nat.reduceMul, Int.reduceEq, Int.reduceLT, Int.reduceLE, Int.reduceNeg, Int.reduceToNat, List.reduceReplicate, Int.ofNat_le, List.getElem?_drop, h7]; exact pkt hk (by unfold isP; omega)
  simp only [pwA, if_true, if_false, eq_self, nm_eq, reduceCtorEq, ↓reduceIte, Nat.reduceEqDiff, Nat.reduceLeDiff, Nat.reduceBEq, Nat.reduceAdd, Nat.reduceLT, Nat.reduceSub, Nat.reduceMul, Int.reduceEq, Int.reduceLT, Int.reduceLE, Int.reduceNeg, Int.reduceToNat, List.reduceReplicate, Int.ofNat_le, List.getElem?_drop, h2, h3, h5, h7]
  exact pkf hk (by unfold isP; omega)
theorem tdiv_floor (a b : Int) (hb : 0 < b) : (if a.tmod b < 0 then a.tdiv b - 1 else a.tdiv b) = a / b := by
  have h1 := Int.tmod_add_mul_tdiv a b
  have h2 := Int.emod_add_mul_ediv a b
  have h3 := Int.emod_nonneg a (by omega : b ≠ 0)
  have h4 := Int.emod_lt_of_pos a hb
  have h5 := Int.tmod_lt_of_pos a hb
  have h6 := Int.lt_tmod_of_pos a hb
  split
  · have e1 : b * (a / b - a.tdiv b + 1) = a.tmod b - a % b + b := by rw [Int.mul_add, Int.mul_sub]; omega
    have : a / b - a.tdiv b + 1 = 0 := by
      rcases Int.lt_trichotomy (a / b - a.tdiv b + 1) 0 with x | x | x
      · have := Int.mul_le_mul_of_nonneg_left (show a / b - a.tdiv b + 1 ≤ -1 by omega) (show 0 ≤ b by omega)
        rw [e1] at this; omega
      · exact x
      · have := Int.mul_le_mul_of_nonneg_left (show 1 ≤ a / b - a.tdiv b + 1 by omega) (show 0 ≤ b by omega)
        rw [e1] at this; omega
    omega
  · have e1 : b * (a / b - a.tdiv b) = a.tmod b - a % b := by rw [Int.mul_sub]; omega
    have : a / b - a.tdiv b = 0 := by
      rcases Int.lt_trichotomy (a / b - a.tdiv b) 0 with x | x | x
      · have := Int.mul_le_mul_of_nonneg_left (show a / b - a.tdiv b ≤ -1 by omega) (show 0 ≤ b by omega)
        rw [e1] at this; omega
      · exact x
      · have := Int.mul_le_mul_of_nonneg_left (show 1 ≤ a / b - a.tdiv b by omega) (show 0 ≤ b by omega)
        rw [e1] at this; omega
    omega
theorem tdiv_sm {a b : Int} (hb : 0 < b) (ha : sm a) : sm (a.tdiv b) := by
  have h1 : (a.tdiv b).natAbs = a.natAbs / b.natAbs := Int.natAbs_tdiv a b
  have h2 : a.natAbs / b.natAbs ≤ a.natAbs := Nat.div_le_self _ _
  unfold sm at *
  omega
theorem floorQuotient_ok {a b : Int} (hb : 0 < b) (ha : sm a) (hk : K (.int .i64 (a / b)) σ) : PCalls Try.prog 194 [.int .i64 a, .int .i64 b] σ K := by
  refine pcalls_of_vp mix Try.func194 cf194 rfl ?_
  dsimp only [if194, qI, eI, nI, qD, eD]
  have h0 : b ≠ 0 := by omega
  have hf := tdiv_floor a b hb
  have hs := tdiv_sm hb ha
  unfold sm at hs
  rw [← hf] at hk
  simp only [pwA, if_true, if_false, eq_self, nm_eq, reduceCtorEq, ↓reduceIte, Nat.reduceEqDiff, Nat.reduceLeDiff, Nat.reduceBEq, Nat.reduceAdd, Nat.reduceLT, Nat.reduceSub, Nat.reduceMul, Int.reduceEq, Int.reduceLT, Int.reduceLE, Int.reduceNeg, Int.reduceToNat, List.reduceReplicate, Int.ofNat_le, List.getElem?_drop, h0, wrap64 (n := a.tdiv b) (by omega) (by omega)]
  split
  · rename_i hc
    rw [if_pos hc] at hk
    simp only [pwA, if_true, if_false, eq_self, nm_eq, reduceCtorEq, ↓reduceIte, Nat.reduceEqDiff, Nat.reduceLeDiff, Nat.reduceBEq, Nat.reduceAdd, Nat.reduceLT, Nat.reduceSub, Nat.reduceMul, Int.reduceEq, Int.reduceLT, Int.reduceLE, Int.reduceNeg, Int.reduceToNat, List.reduceReplicate, Int.ofNat_le, List.getElem?_drop, wrap64 (n := a.tdiv b - 1) (by omega) (by omega)]
    exact hk
  · rename_i hc
    rw [if_neg hc] at hk
    exact hk
theorem l04Floor_ok {a b : Int} (hb : 0 < b) (ha : sm a) (hk : K (.int .i64 (a / b)) σ) : PCalls Try.prog 188 [.int .i64 a, .int .i64 b] σ K := by
  refine pcalls_of_vp mix Try.func188 cf188 rfl ?_
  dsimp only [if188, qI, eI, nI, qD, eD]
  have h0 : b ≠ 0 := by omega
  have hf := tdiv_floor a b hb
  have hs := tdiv_sm hb ha
  unfold sm at hs
  rw [← hf] at hk
  simp only [pwA, if_true, if_false, eq_self, nm_eq, reduceCtorEq, ↓reduceIte, Nat.reduceEqDiff, Nat.reduceLeDiff, Nat.reduceBEq, Nat.reduceAdd, Nat.reduceLT, Nat.reduceSub, Nat.reduceMul, Int.reduceEq, Int.reduceLT, Int.reduceLE, Int.reduceNeg, Int.reduceToNat, List.reduceReplicate, Int.ofNat_le, List.getElem?_drop, h0, wrap64 (n := a.tdiv b) (by omega) (by omega)]
  split
  · rename_i hc
    rw [if_pos hc] at hk
    simp only [pwA, if_true, if_false, eq_self, nm_eq, reduceCtorEq, ↓reduceIte, Nat.reduceEqDiff, Nat.reduceLeDiff, Nat.reduceBEq, Nat.reduceAdd, Nat.reduceLT, Nat.reduceSub, Nat.reduceMul, Int.reduceEq, Int.reduceLT, Int.reduceLE, Int.reduceNeg, Int.reduceToNat, List.reduceReplicate, Int.ofNat_le, List.getElem?_drop, wrap64 (n := a.tdiv b - 1) (by omega) (by omega)]
    exact hk
  · rename_i hc
    rw [if_neg hc] at hk
    exact hk
theorem emod_tmod (x p : Int) (hp : 0 < p) : (x.tmod p + p).tmod p = x % p := by
  have h1 := Int.tmod_lt_of_pos x hp
  have h2 := Int.lt_tmod_of_pos x hp
  rw [Int.tmod_eq_emod_of_nonneg (by omega), Int.add_emod_right]
  rcases Int.le_total 0 x with h0 | h0
  · rw [Int.tmod_eq_emod_of_nonneg h0, Int.emod_emod_of_dvd _ (Int.dvd_refl p)]
  · obtain ⟨y, rfl⟩ : ∃ y, x = -y := ⟨-x, by omega⟩
    rw [Int.neg_tmod, Int.tmod_eq_emod_of_nonneg (by omega)]
    have e := Int.emod_add_mul_ediv y p
    have : -y = -(y % p) + p * (-(y / p)) := by rw [Int.mul_neg]; omega
    rw [this, Int.add_mul_emod_self_left]
theorem residue_ok {x p : Int} (hp : 0 < p) (hp2 : p < 4611686018427387904) (hk : K (.int .i64 (x % p)) σ) : PCalls Try.prog 180 [.int .i64 x, .int .i64 p] σ K := by
  refine pcalls_of_vp mix Try.func180 cf180 rfl ?_
  dsimp only [if180, qI, eI, nI, qD, eD]
  have hp0 : p ≠ 0 := by omega
  have h1 := Int.tmod_lt_of_pos x hp
  have h2 := Int.lt_tmod_of_pos x hp
  have hw : IntKind.i64.wrap (x.tmod p + p) = x.tmod p + p := wrap64 (by omega) (by omega)
  have he := emod_tmod x p hp
  simp only [pwA, if_true, if_false, eq_self, nm_eq, reduceCtorEq, ↓reduceIte, Nat.reduceEqDiff, Nat.reduceLeDiff, Nat.reduceBEq, Nat.reduceAdd, Nat.reduceLT, Nat.reduceSub, Nat.reduceMul, Int.reduceEq, Int.reduceLT, Int.reduceLE, Int.reduceNeg, Int.reduceToNat, List.reduceReplicate, Int.ofNat_le, List.getElem?_drop, hp0, hw, he]
  exact hk
theorem l01Mod_ok {x p : Int} (hp : 0 < p) (hp2 : p < 4611686018427387904) (hk : K (.int .i64 (x % p)) σ) : PCalls Try.prog 174 [.int .i64 x, .int .i64 p] σ K := by
  refine pcalls_of_vp mix Try.func174 cf174 rfl ?_
  dsimp only [if174, qI, eI, nI, qD, eD]
  have hp0 : p ≠ 0 := by omega
  have h1 := Int.tmod_lt_of_pos x hp
  have h2 := Int.lt_tmod_of_pos x hp
  have he := emod_tmod x p hp
  simp only [pwA, if_true, if_false, eq_self, nm_eq, reduceCtorEq, ↓reduceIte, Nat.reduceEqDiff, Nat.reduceLeDiff, Nat.reduceBEq, Nat.reduceAdd, Nat.reduceLT, Nat.reduceSub, Nat.reduceMul, Int.reduceEq, Int.reduceLT, Int.reduceLE, Int.reduceNeg, Int.reduceToNat, List.reduceReplicate, Int.ofNat_le, List.getElem?_drop, hp0]
  split
  · rw [Int.tmod_eq_emod_of_nonneg (by omega), Int.emod_eq_of_lt (by omega) (by omega)] at he
    simp only [pwA, if_true, if_false, eq_self, nm_eq, reduceCtorEq, ↓reduceIte, Nat.reduceEqDiff, Nat.reduceLeDiff, Nat.reduceBEq, Nat.reduceAdd, Nat.reduceLT, Nat.reduceSub, Nat.reduceMul, Int.reduceEq, Int.reduceLT, Int.reduceLE, Int.reduceNeg, Int.reduceToNat, List.reduceReplicate, Int.ofNat_le, List.getElem?_drop, he, wrap64 (n := x % p) (by omega) (by omega)]
    exact hk
  · rw [Int.tmod_eq_emod_of_nonneg (by omega), Int.add_emod_right, Int.emod_eq_of_lt (by omega) (by omega)] at he
    rw [he]; exact hk
/-- p to the n. -/
def ipow (p : Int) : Nat → Int
  | 0 => 1
  | n + 1 => ipow p n * p
theorem ipow_bd {p : Int} (hp : 2 ≤ p ∧ p ≤ 7) : ∀ {n : Nat}, n ≤ 6 → 1 ≤ ipow p n ∧ ipow p n ≤ 7 ^ n
  | 0, _ => by simp [ipow]
  | n + 1, hn => by
    obtain ⟨h1, h2⟩ := ipow_bd hp (n := n) (by omega)
    simp only [ipow]
    have a1 := Int.mul_le_mul_of_nonneg_left hp.1 (show 0 ≤ ipow p n by omega)
    have a2 := Int.mul_le_mul_of_nonneg_left hp.2 (show 0 ≤ ipow p n by omega)
    rw [Int.pow_succ]
    omega
theorem ipow_le {p : Int} (hp : 2 ≤ p ∧ p ≤ 7) {n : Nat} (hn : n ≤ 6) : 1 ≤ ipow p n ∧ ipow p n ≤ 117649 := by
  obtain ⟨h1, h2⟩ := ipow_bd hp hn
  refine ⟨h1, ?_⟩
  have : (7 : Int) ^ n ≤ 7 ^ 6 := by
    obtain rfl | rfl | rfl | rfl | rfl | rfl | rfl : n = 0 ∨ n = 1 ∨ n = 2 ∨ n = 3 ∨ n = 4 ∨ n = 5 ∨ n = 6 := by omega
    all_goals decide
  have e : (7 : Int) ^ 6 = 117649 := by decide
  omega
theorem integerPower_ok {p : Int} {n : Nat} (hp : 2 ≤ p ∧ p ≤ 7) (hn : n ≤ 6) (hk : K (.int .i64 (ipow p n)) σ) : PCalls Try.prog 61 [.int .i64 p, .int .i64 n] σ K := by
  refine pcalls_of_vp mix Try.func61 cf61 rfl ?_
  dsimp only [if61, qI, eI, nI, qD, eD]
  simp only [pwA, if_true, if_false, eq_self, nm_eq, reduceCtorEq, ↓reduceIte, Nat.reduceEqDiff, Nat.reduceLeDiff, Nat.reduceBEq, Nat.reduceAdd, Nat.reduceLT, Nat.reduceSub, Nat.reduceMul, Int.reduceEq, Int.reduceLT, Int.reduceLE, Int.reduceNeg, Int.reduceToNat, List.reduceReplicate, Int.ofNat_le, List.getElem?_drop]
  refine vp_loop (fun m vs h' => ∃ i : Nat, i ≤ n ∧ m = n - i ∧ vs = [.int .i64 p, .int .i64 (ipow p i), .int .i64 n, .int .i64 i] ∧ h' = σ) n ?_ ?_
  · exact ⟨0, by omega, by omega, rfl, rfl⟩
  · rintro m vs h' ⟨i, hi, rfl, rfl, rfl⟩
    simp only [pwA, if_true, if_false, eq_self, nm_eq, reduceCtorEq, ↓reduceIte, Nat.reduceEqDiff, Nat.reduceLeDiff, Nat.reduceBEq, Nat.reduceAdd, Nat.reduceLT, Nat.reduceSub, Nat.reduceMul, Int.reduceEq, Int.reduceLT, Int.reduceLE, Int.reduceNeg, Int.reduceToNat, List.reduceReplicate, Int.ofNat_le, List.getElem?_drop]
    split
    · rename_i hlt
      have := ipow_le hp (n := i + 1) (by omega)
      simp only [ipow] at this
      simp only [pwA, if_true, if_false, eq_self, nm_eq, reduceCtorEq, ↓reduceIte, Nat.reduceEqDiff, Nat.reduceLeDiff, Nat.reduceBEq, Nat.reduceAdd, Nat.reduceLT, Nat.reduceSub, Nat.reduceMul, Int.reduceEq, Int.reduceLT, Int.reduceLE, Int.reduceNeg, Int.reduceToNat, List.reduceReplicate, Int.ofNat_le, List.getElem?_drop, wrapS (n := n) (by omega) (by omega), wrap64 (n := ipow p i * p) (by omega) (by omega)]
      exact ⟨_, by omega, i + 1, by omega, rfl, rfl⟩
    · have : i = n := by omega
      subst this
      exact hk
/-- The order, cut where it exceeds what is allowed. -/
theorem l31Size_ok {p : Int} {n : Nat} (hp : 2 ≤ p ∧ p ≤ 7) (hn : n ≤ 6) (hk : ∀ k, (k ≤ 729 ↔ ipow p n ≤ 729) → (k ≤ 729 → k = ipow p n) → 1 ≤ k → k ≤ 117649 → K (.int .i64 k) σ) : PCalls Try.prog 57 [.int .i64 p, .int .i64 n] σ K := by
  refine pcalls_of_vp mix Try.func57 cf57 rfl ?_
  dsimp only [if57, qI, eI, nI, qD, eD]
  simp only [pwA, if_true, if_false, eq_self, nm_eq, reduceCtorEq, ↓reduceIte, Nat.reduceEqDiff, Nat.reduceLeDiff, Nat.reduceBEq, Nat.reduceAdd, Nat.reduceLT, Nat.reduceSub, Nat.reduceMul, Int.reduceEq, Int.reduceLT, Int.reduceLE, Int.reduceNeg, Int.reduceToNat, List.reduceReplicate, Int.ofNat_le, List.getElem?_drop]
  refine vp_loop (fun m vs h' => ∃ i : Nat, i ≤ n ∧ m = n - i ∧ vs = [.int .i64 p, .int .i64 n, .int .i64 (ipow p i), .int .i64 i] ∧ h' = σ) n ?_ ?_
  · exact ⟨0, by omega, by omega, rfl, rfl⟩
  · rintro m vs h' ⟨i, hi, rfl, rfl, rfl⟩
    have hbi := ipow_le hp (n := i) (by omega)
    have mono : ∀ j, i ≤ j → j ≤ 6 → ipow p i ≤ ipow p j := by
      intro j hj hj6
      induction j with
      | zero => have : i = 0 := by omega
                subst this; exact Int.le_refl _
      | succ j ih =>
        rcases Nat.lt_or_ge i (j + 1) with x | x
        · have := ih (by omega) (by omega)
          have hbj := ipow_le hp (n := j) (by omega)
          have := Int.mul_le_mul_of_nonneg_left hp.1 (show 0 ≤ ipow p j by omega)
          simp only [ipow]; omega
        · have : i = j + 1 := by omega
          subst this; exact Int.le_refl _
    by_cases hlt : i < n
    · by_cases hle : ipow p i ≤ 729
      · have := ipow_le hp (n := i + 1) (by omega)
        simp only [ipow] at this
        simp only [pwA, if_true, if_false, eq_self, nm_eq, reduceCtorEq, ↓reduceIte, Nat.reduceEqDiff, Nat.reduceLeDiff, Nat.reduceBEq, Nat.reduceAdd, Nat.reduceLT, Nat.reduceSub, Nat.reduceMul, Int.reduceEq, Int.reduceLT, Int.reduceLE, Int.reduceNeg, Int.reduceToNat, List.reduceReplicate, Int.ofNat_le, List.getElem?_drop, hlt, hle, wrapS (n := n) hlt (by omega), wrap64 (n := ipow p i * p) (by omega) (by omega)]
        exact ⟨_, by omega, i + 1, by omega, rfl, rfl⟩
      · simp only [pwA, if_true, if_false, eq_self, nm_eq, reduceCtorEq, ↓reduceIte, Nat.reduceEqDiff, Nat.reduceLeDiff, Nat.reduceBEq, Nat.reduceAdd, Nat.reduceLT, Nat.reduceSub, Nat.reduceMul, Int.reduceEq, Int.reduceLT, Int.reduceLE, Int.reduceNeg, Int.reduceToNat, List.reduceReplicate, Int.ofNat_le, List.getElem?_drop, hlt, hle]
        have := mono n (by omega) hn
        exact hk _ ⟨fun x => by omega, fun x => by omega⟩ (fun x => by omega) hbi.1 hbi.2
    · have : i = n := by omega
      subst this
      simp only [pwA, if_true, if_false, eq_self, nm_eq, reduceCtorEq, ↓reduceIte, Nat.reduceEqDiff, Nat.reduceLeDiff, Nat.reduceBEq, Nat.reduceAdd, Nat.reduceLT, Nat.reduceSub, Nat.reduceMul, Int.reduceEq, Int.reduceLT, Int.reduceLE, Int.reduceNeg, Int.reduceToNat, List.reduceReplicate, Int.ofNat_le, List.getElem?_drop, hlt]
      exact hk _ Iff.rfl (fun _ => rfl) hbi.1 hbi.2
/-- A copy in new memory. -/
theorem l01Own_ok {w : Bool} {a : AV} {xs : List Int} {l : Nat} (hl : l = xs.length) (hb : xs.length ≤ 4294967296) (hk : ∀ cap, full 1 cap xs.length → K (.sl σ.next 0 xs.length cap) (σ.new (pis xs))) : PCalls Try.prog 127 [.fz w a l (pis xs)] σ K := by
  subst hl
  refine PCalls.gh ?_
  refine pcalls_of_vp mix Try.func127 cf127 rfl ?_
  dsimp only [if127, qI, eI, nI, qD, eD]
  simp only [pwA, if_true, if_false, eq_self, nm_eq, reduceCtorEq, ↓reduceIte, Nat.reduceEqDiff, Nat.reduceLeDiff, Nat.reduceBEq, Nat.reduceAdd, Nat.reduceLT, Nat.reduceSub, Nat.reduceMul, Int.reduceEq, Int.reduceLT, Int.reduceLE, Int.reduceNeg, Int.reduceToNat, List.reduceReplicate, Int.ofNat_le, List.getElem?_drop]
  refine PSl.cat (bytes := 8) (σb := σ) (n := 0) (cs := []) (keep_new σ _) (PSl.new _ 1 rfl (Nat.le_refl _)) (pis_length xs) (by omega) (by omega) fun v' h' hk' ha => ?_
  simp only [pwA, if_true, if_false, eq_self, nm_eq, reduceCtorEq, ↓reduceIte, Nat.reduceEqDiff, Nat.reduceLeDiff, Nat.reduceBEq, Nat.reduceAdd, Nat.reduceLT, Nat.reduceSub, Nat.reduceMul, Int.reduceEq, Int.reduceLT, Int.reduceLE, Int.reduceNeg, Int.reduceToNat, List.reduceReplicate, Int.ofNat_le, List.getElem?_drop] at ha ⊢
  exact ha.out hk' (pis_bel _ _) hk
theorem Clone_ok {w : Bool} {a : AV} {xs : List Int} {l : Nat} (hl : l = xs.length) (hb : xs.length ≤ 4294967296) (hk : ResI σ K xs) : PCalls Try.prog 137 [.fz w a l (pis xs)] σ K := by
  subst hl
  refine PCalls.nil0 fun hnil => PCalls.gh ?_
  refine pcalls_of_vp mix Try.func137 cf137 rfl ?_
  dsimp only [if137, qI, eI, nI, qD, eD]
  simp only [pwA, if_true, if_false, eq_self, nm_eq, reduceCtorEq, ↓reduceIte, Nat.reduceEqDiff, Nat.reduceLeDiff, Nat.reduceBEq, Nat.reduceAdd, Nat.reduceLT, Nat.reduceSub, Nat.reduceMul, Int.reduceEq, Int.reduceLT, Int.reduceLE, Int.reduceNeg, Int.reduceToNat, List.reduceReplicate, Int.ofNat_le, List.getElem?_drop]
  cases hn : isNils a
  · simp only [pwA, if_true, if_false, eq_self, nm_eq, reduceCtorEq, ↓reduceIte, Nat.reduceEqDiff, Nat.reduceLeDiff, Nat.reduceBEq, Nat.reduceAdd, Nat.reduceLT, Nat.reduceSub, Nat.reduceMul, Int.reduceEq, Int.reduceLT, Int.reduceLE, Int.reduceNeg, Int.reduceToNat, List.reduceReplicate, Int.ofNat_le, List.getElem?_drop]
    refine PSl.cat (bytes := 8) (σb := σ) (n := 0) (cs := []) (keep_new σ _) (PSl.new _ 1 rfl (Nat.le_refl _)) (pis_length xs) (by omega) (by omega) fun v' h' hk' ha => ?_
    simp only [pwA, if_true, if_false, eq_self, nm_eq, reduceCtorEq, ↓reduceIte, Nat.reduceEqDiff, Nat.reduceLeDiff, Nat.reduceBEq, Nat.reduceAdd, Nat.reduceLT, Nat.reduceSub, Nat.reduceMul, Int.reduceEq, Int.reduceLT, Int.reduceLE, Int.reduceNeg, Int.reduceToNat, List.reduceReplicate, Int.ofNat_le, List.getElem?_drop] at ha ⊢
    exact ha.out hk' (pis_bel _ _) hk.2
  · simp only [pwA, if_true, if_false, eq_self, nm_eq, reduceCtorEq, ↓reduceIte, Nat.reduceEqDiff, Nat.reduceLeDiff, Nat.reduceBEq, Nat.reduceAdd, Nat.reduceLT, Nat.reduceSub, Nat.reduceMul, Int.reduceEq, Int.reduceLT, Int.reduceLE, Int.reduceNeg, Int.reduceToNat, List.reduceReplicate, Int.ofNat_le, List.getElem?_drop]
    exact Gh.ret (hk.1 (List.eq_nil_of_length_eq_zero (hnil hn).1))
/-- A vector with one entry 1. -/
def unitL (n k : Nat) : List Int := (List.replicate n 0).set k 1
theorem unitL_length (n k : Nat) : (unitL n k).length = n := by simp [unitL]
theorem unitVector_ok {n k : Nat} (hn : n ≤ 1048576) (hkn : k < n) (hk : ∀ cap, full 1 cap n → K (.sl σ.next 0 n cap) (σ.new (pis (unitL n k)))) : PCalls Try.prog 98 [.int .i64 n, .int .i64 k] σ K := by
  refine pcalls_of_vp mix Try.func98 cf98 rfl ?_
  dsimp only [if98, qI, eI, nI, qD, eD]
  simp only [pwA, if_true, if_false, eq_self, nm_eq, reduceCtorEq, ↓reduceIte, Nat.reduceEqDiff, Nat.reduceLeDiff, Nat.reduceBEq, Nat.reduceAdd, Nat.reduceLT, Nat.reduceSub, Nat.reduceMul, Int.reduceEq, Int.reduceLT, Int.reduceLE, Int.reduceNeg, Int.reduceToNat, List.reduceReplicate, Int.ofNat_le, List.getElem?_drop, hkn, List.length_replicate, pis_rep, pis_length, mk8 (n := n) (by omega), mkL (n := n) (by omega), Nat.succ_le_of_lt hkn]
  rw [pis_set_at (by simpa using hkn)]
  exact hk _ (.inr rfl)
theorem subtractMultiple_ok {s : Nat} {cap : Cap} {w : Bool} {a : AV} {xs ys : List Int} {k : Int} {l' : Nat} (hl' : l' = ys.length) (hs : σ.obj s = some (pis xs)) (hl : xs.length ≤ ys.length) (hb : xs.length ≤ 4294967296)
    (hsm : ∀ i (h1 : i < xs.length) (h2 : i < ys.length), sm (k * ys[i]) ∧ sm (xs[i] - k * ys[i])) (hk : K (.tup []) (σ.set s (pis (subm k xs ys)))) :
    PCalls Try.prog 148 [.sl s 0 xs.length cap, .fz w a l' (pis ys), .int .i64 k] σ K := by
  subst hl'
  refine pcalls_of_vp mix Try.func148 cf148 rfl ?_
  dsimp only [if148, qI, eI, nI, qD, eD]
  simp only [pwA, if_true, if_false, eq_self, nm_eq, reduceCtorEq, ↓reduceIte, Nat.reduceEqDiff, Nat.reduceLeDiff, Nat.reduceBEq, Nat.reduceAdd, Nat.reduceLT, Nat.reduceSub, Nat.reduceMul, Int.reduceEq, Int.reduceLT, Int.reduceLE, Int.reduceNeg, Int.reduceToNat, List.reduceReplicate, Int.ofNat_le, List.getElem?_drop]
  refine vp_loop (fun m vs h' => ∃ i : Nat, i ≤ xs.length ∧ m = xs.length - i ∧ vs = [.sl s 0 xs.length cap, .fz w a ys.length (pis ys), .int .i64 k, .int .i64 xs.length, .int .i64 i] ∧ h' = σ.set s (pis ((subm k xs ys).take i ++ xs.drop i))) xs.length ?_ ?_
  · exact ⟨0, by omega, by omega, rfl, by rw [List.take_zero, List.drop_zero, List.nil_append, set_same hs]⟩
  · rintro m vs h' ⟨i, hi, rfl, rfl, rfl⟩
    simp only [pwA, if_true, if_false, eq_self, nm_eq, reduceCtorEq, ↓reduceIte, Nat.reduceEqDiff, Nat.reduceLeDiff, Nat.reduceBEq, Nat.reduceAdd, Nat.reduceLT, Nat.reduceSub, Nat.reduceMul, Int.reduceEq, Int.reduceLT, Int.reduceLE, Int.reduceNeg, Int.reduceToNat, List.reduceReplicate, Int.ofNat_le, List.getElem?_drop]
    split
    · rename_i hlt
      have hlt2 : i < ys.length := by omega
      have hsl := subm_length (k := k) hl
      have e1 : ((subm k xs ys).take i ++ xs.drop i)[i]? = some xs[i] := by
        rw [List.getElem?_append_right (by rw [List.length_take]; omega), List.length_take, List.getElem?_drop]
        have : i + (i - min i (subm k xs ys).length) = i := by omega
        rw [this, gi hlt]
      obtain ⟨b1, b2⟩ := hsm i hlt hlt2
      have hlen : i + 1 ≤ ((subm k xs ys).take i ++ xs.drop i).length := by simp; omega
      simp only [pwA, if_true, if_false, eq_self, nm_eq, reduceCtorEq, ↓reduceIte, Nat.reduceEqDiff, Nat.reduceLeDiff, Nat.reduceBEq, Nat.reduceAdd, Nat.reduceLT, Nat.reduceSub, Nat.reduceMul, Int.reduceEq, Int.reduceLT, Int.reduceLE, Int.reduceNeg, Int.reduceToNat, List.reduceReplicate, Int.ofNat_le, List.getElem?_drop, hlt, hlt2, List.getElem?_drop, pis_get, pis_length, gi hlt2, e1, hlen, wrapS hlt (by omega : xs.length ≤ 4611686018427387904), b1.w, b2.w]
      refine ⟨_, by omega, i + 1, by omega, rfl, rfl, ?_⟩
      rw [pis_set_at (by simp; omega)]
      congr 2
      apply List.ext_getElem?
      intro j
      rcases Nat.lt_trichotomy j i with x | x | x
      · rw [List.getElem?_set_ne (by omega), List.getElem?_append_left (by simp; omega), List.getElem?_append_left (by simp; omega), List.getElem?_take, List.getElem?_take, if_pos x, if_pos (by omega)]
      · subst x
        rw [List.getElem?_set_self (by omega), List.getElem?_append_left (by simp; omega), List.getElem?_take, if_pos (by omega), subm_get hlt hlt2]
      · rw [List.getElem?_set_ne (by omega), List.getElem?_append_right (by simp; omega), List.getElem?_append_right (by simp; omega), List.getElem?_drop, List.getElem?_drop, List.length_take, List.length_take]
        congr 1; omega
    · have : i = xs.length := by omega
      subst this
      rw [List.drop_length, List.append_nil, List.take_of_length_le (by rw [subm_length hl]; exact Nat.le_refl _)]
      exact hk
theorem subtractMultiple_ok' {s l l' : Nat} {cap : Cap} {w : Bool} {a : AV} {xs ys : List Int} {k : Int} (hl : l = xs.length) (hl' : l' = ys.length) (hs : σ.obj s = some (pis xs)) (hle : xs.length ≤ ys.length) (hb : xs.length ≤ 4294967296)
    (hsm : ∀ i (h1 : i < xs.length) (h2 : i < ys.length), sm (k * ys[i]) ∧ sm (xs[i] - k * ys[i])) (hk : K (.tup []) (σ.set s (pis (subm k xs ys)))) :
    PCalls Try.prog 148 [.sl s 0 l cap, .fz w a l' (pis ys), .int .i64 k] σ K := by
  subst hl
  exact subtractMultiple_ok hl' hs hle hb hsm hk
theorem subtractMultiple_nil {w w' : Bool} {a : AV} {cs : List PV} {n : Nat} {k : Int} (hk : K (.tup []) σ) :
    PCalls Try.prog 148 [.fz w' .nils 0 [], .fz w a n cs, .int .i64 k] σ K := by
  refine pcalls_of_vp mix Try.func148 cf148 rfl ?_
  dsimp only [if148, qI, eI, nI, qD, eD]
  simp only [pwA, if_true, if_false, eq_self, nm_eq, reduceCtorEq, ↓reduceIte, Nat.reduceEqDiff, Nat.reduceLeDiff, Nat.reduceBEq, Nat.reduceAdd, Nat.reduceLT, Nat.reduceSub, Nat.reduceMul, Int.reduceEq, Int.reduceLT, Int.reduceLE, Int.reduceNeg, Int.reduceToNat, List.reduceReplicate, Int.ofNat_le, List.getElem?_drop]
  refine vp_loop (fun m vs h' => m = 0 ∧ vs = [.fz w' .nils 0 [], .fz w a n cs, .int .i64 k, .int .i64 (0 : Nat), .int .i64 (0 : Nat)] ∧ h' = σ) 0 ?_ ?_
  · exact ⟨rfl, rfl, rfl⟩
  · rintro m vs h' ⟨rfl, rfl, rfl⟩
    simp only [pwA, if_true, if_false, eq_self, nm_eq, reduceCtorEq, ↓reduceIte, Nat.reduceEqDiff, Nat.reduceLeDiff, Nat.reduceBEq, Nat.reduceAdd, Nat.reduceLT, Nat.reduceSub, Nat.reduceMul, Int.reduceEq, Int.reduceLT, Int.reduceLE, Int.reduceNeg, Int.reduceToNat, List.reduceReplicate, Int.ofNat_le, List.getElem?_drop]
    exact hk
end Go.Proofs
