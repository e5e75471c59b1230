/- The compiled forms of the functions, each held against the program by the kernel. Written by program. -/
import Derived.Test.YtngdcibjjomfjaaEAbPy
import Derived.Test.YtngdcibjjomfjaaChecked
namespace Go.Proofs
open Go.Ab
theorem mix : Try.prog.follows .mixedOrders = true := by kernel_rfl
/-- loop.example/g01076/laws.toInt64S -/
def if14 : IFn := ⟨[0], [(.tmp 2)], (.seq (.region [0] [qI 2 (.mv (.c .nils))])
  (.seq (.region [0, 3] [qI 5 (.mv (.t 0)), qI 6 (.len (.t 5)), eI 7 (.makeSl 1 8 [(.int .i64 0)] (.t 6) (.t 6)), qI 3 (.mv (.t 7))])
  (.seq (.seq (.region [0, 3, 4] [qI 4 (.mv (.c (.int .i64 0)))])
  (.block 0 (.loop [0, 3, 4] (.seq (.seq (.region [0, 3, 4, 11] [qI 8 (.mv (.t 4)), qI 9 (.mv (.t 0)), qI 10 (.len (.t 9)), qI 11 (.bin .lss .other (.t 8) (.t 10))])
  (.cond (.t 11) .skip (.exit 0)))
  (.seq (.block 1 (.region [0, 3, 4] [qI 14 (.mv (.t 3)), qI 15 (.mv (.t 4)), qI 16 (.mv (.t 0)), qI 17 (.mv (.t 4)), qI 18 (.indexAddr 1 (.t 16) (.t 17)), qI 19 (.load false 1 (.t 18)), qI 20 (.indexAddr 1 (.t 14) (.t 15)), nI (.store 1 (.t 20) (.t 19))]))
  (.region [0, 3, 4] [qI 12 (.mv (.t 4)), qI 13 (.bin .add .other (.t 12) (.c (.int .i64 1))), qI 4 (.mv (.t 13))]))))))
  (.seq (.region [2] [qI 21 (.mv (.t 3)), qI 2 (.mv (.t 21))])
  .ret))))⟩
theorem cf14 : cF Try.prog Try.f14 = some if14 := by kernel_rfl
/-- loop.example/g01076/laws.eqInt64S -/
def if16 : IFn := ⟨[0, 1], [(.tmp 4)], (.seq (.region [0, 1] [qI 4 (.mv (.c (.bool false)))])
  (.seq (.seq (.region [0, 1, 10] [qI 6 (.mv (.t 0)), qI 7 (.len (.t 6)), qI 8 (.mv (.t 1)), qI 9 (.len (.t 8)), qI 10 (.bin .neq .other (.t 7) (.t 9))])
  (.cond (.t 10) (.seq (.region [4] [qI 4 (.mv (.c (.bool false)))])
  .ret) .skip))
  (.seq (.seq (.region [0, 1, 5] [qI 5 (.mv (.c (.int .i64 0)))])
  (.block 0 (.loop [0, 1, 5] (.seq (.seq (.region [0, 1, 5, 14] [qI 11 (.mv (.t 5)), qI 12 (.mv (.t 0)), qI 13 (.len (.t 12)), qI 14 (.bin .lss .other (.t 11) (.t 13))])
  (.cond (.t 14) .skip (.exit 0)))
  (.seq (.block 1 (.seq (.draw [0, 1, 5, 25] [] [qD 17 (.mv (.t 0)) 0, qD 18 (.mv (.t 5)) 1, qD 19 (.indexAddr 1 (.t 17) (.t 18)) 2, qD 20 (.load false 1 (.t 19)) 3, qD 21 (.mv (.t 1)) 4, qD 22 (.mv (.t 5)) 5, qD 23 (.indexAddr 1 (.t 21) (.t 22)) 6, qD 24 (.load false 1 (.t 23)) 7, qD 25 (.bin .neq .other (.t 20) (.t 24)) 8])
  (.cond (.t 25) (.seq (.region [4] [qI 4 (.mv (.c (.bool false)))])
  .ret) .skip)))
  (.region [0, 1, 5] [qI 15 (.mv (.t 5)), qI 16 (.bin .add .other (.t 15) (.c (.int .i64 1))), qI 5 (.mv (.t 16))]))))))
  (.seq (.region [4] [qI 4 (.mv (.c (.bool true)))])
  .ret))))⟩
theorem cf16 : cF Try.prog Try.f16 = some if16 := by kernel_rfl
/-- loop.example/g01076/laws.markInt64S -/
def if19 : IFn := ⟨[0, 1], [(.tmp 4)], (.seq (.region [0, 1] [qI 4 (.mv (.c (.int .i64 0)))])
  (.seq (.seq (.region [0, 1, 5] [qI 5 (.mv (.c (.int .i64 0)))])
  (.block 0 (.loop [0, 1, 5] (.seq (.seq (.region [0, 1, 5, 9] [qI 6 (.mv (.t 5)), qI 7 (.mv (.t 0)), qI 8 (.len (.t 7)), qI 9 (.bin .lss .other (.t 6) (.t 8))])
  (.cond (.t 9) .skip (.exit 0)))
  (.seq (.block 1 (.seq (.region [0, 1, 5] [qI 12 (.mv (.t 0)), qI 13 (.mv (.t 5)), qI 14 (.mv (.t 1)), qI 15 (.indexAddr 1 (.t 12) (.t 13)), nI (.store 1 (.t 15) (.t 14))])
  (.region [0, 1, 5] [qI 16 (.mv (.t 1)), qI 17 (.bin .add .other (.t 16) (.c (.int .i64 1))), qI 1 (.mv (.t 17))])))
  (.region [0, 1, 5] [qI 10 (.mv (.t 5)), qI 11 (.bin .add .other (.t 10) (.c (.int .i64 1))), qI 5 (.mv (.t 11))]))))))
  (.seq (.region [4] [qI 18 (.mv (.t 1)), qI 4 (.mv (.t 18))])
  .ret)))⟩
theorem cf19 : cF Try.prog Try.f19 = some if19 := by kernel_rfl
/-- loop.example/g01076/laws.heldInt64S -/
def if20 : IFn := ⟨[0, 1], [(.tmp 4)], (.seq (.region [0, 1] [qI 4 (.mv (.c (.int .i64 0)))])
  (.seq (.seq (.region [0, 1, 5] [qI 5 (.mv (.c (.int .i64 0)))])
  (.block 0 (.loop [0, 1, 5] (.seq (.seq (.region [0, 1, 5, 9] [qI 6 (.mv (.t 5)), qI 7 (.mv (.t 0)), qI 8 (.len (.t 7)), qI 9 (.bin .lss .other (.t 6) (.t 8))])
  (.cond (.t 9) .skip (.exit 0)))
  (.seq (.block 1 (.seq (.seq (.region [0, 1, 5, 17] [qI 12 (.mv (.t 0)), qI 13 (.mv (.t 5)), qI 14 (.indexAddr 1 (.t 12) (.t 13)), qI 15 (.load false 1 (.t 14)), qI 16 (.mv (.t 1)), qI 17 (.bin .neq .other (.t 15) (.t 16))])
  (.cond (.t 17) (.seq (.region [4] [qI 4 (.mv (.c (.int .i64 (-1))))])
  .ret) .skip))
  (.region [0, 1, 5] [qI 18 (.mv (.t 1)), qI 19 (.bin .add .other (.t 18) (.c (.int .i64 1))), qI 1 (.mv (.t 19))])))
  (.region [0, 1, 5] [qI 10 (.mv (.t 5)), qI 11 (.bin .add .other (.t 10) (.c (.int .i64 1))), qI 5 (.mv (.t 11))]))))))
  (.seq (.region [4] [qI 20 (.mv (.t 1)), qI 4 (.mv (.t 20))])
  .ret)))⟩
theorem cf20 : cF Try.prog Try.f20 = some if20 := by kernel_rfl
/-- loop.example/g01076/laws.szPresentation -/
def if25 : IFn := ⟨[0, 1], [(.tmp 4)], (.seq (.region [1, 2] [eI 2 (.box (.t 0)), qI 4 (.mv (.c (.int .i64 0)))])
  (.seq (.region [1, 2] [qI 5 (.fieldAddr 0 (.t 2)), qI 6 (.load false 1 (.t 5)), qI 7 (.mv (.t 1)), eI 8 (.call 63 [(.t 6), (.t 7)]), qI 1 (.mv (.t 8))])
  (.seq (.seq (.region [1, 2, 10] [qI 9 (.mv (.t 1)), qI 10 (.bin .lss .other (.t 9) (.c (.int .i64 0)))])
  (.cond (.t 10) (.seq (.region [4] [qI 4 (.mv (.c (.int .i64 (-1))))])
  .ret) .skip))
  (.seq (.region [1, 2] [qI 11 (.fieldAddr 1 (.t 2)), qI 12 (.load false 1 (.t 11)), qI 13 (.mv (.t 1)), eI 14 (.call 42 [(.t 12), (.t 13)]), qI 1 (.mv (.t 14))])
  (.seq (.seq (.region [1, 2, 16] [qI 15 (.mv (.t 1)), qI 16 (.bin .lss .other (.t 15) (.c (.int .i64 0)))])
  (.cond (.t 16) (.seq (.region [4] [qI 4 (.mv (.c (.int .i64 (-1))))])
  .ret) .skip))
  (.seq (.region [1] [qI 17 (.fieldAddr 2 (.t 2)), qI 18 (.load false 1 (.t 17)), qI 19 (.mv (.t 1)), eI 20 (.call 43 [(.t 18), (.t 19)]), qI 1 (.mv (.t 20))])
  (.seq (.seq (.region [1, 22] [qI 21 (.mv (.t 1)), qI 22 (.bin .lss .other (.t 21) (.c (.int .i64 0)))])
  (.cond (.t 22) (.seq (.region [4] [qI 4 (.mv (.c (.int .i64 (-1))))])
  .ret) .skip))
  (.seq (.region [4] [qI 23 (.mv (.t 1)), qI 4 (.mv (.t 23))])
  .ret))))))))⟩
theorem cf25 : cF Try.prog Try.f25 = some if25 := by kernel_rfl
/-- loop.example/g01076/spec.IsCentralPresentation -/
def if26 : IFn := ⟨[0], [(.tmp 2)], (.seq (.region [1] [eI 1 (.box (.t 0)), qI 2 (.mv (.c (.bool false)))])
  (.seq (.seq (.region [1, 8] [qI 6 (.load true 3 (.t 1)), eI 7 (.call 64 [(.t 6)]), qI 8 (.un .not (.t 7))])
  (.cond (.t 8) (.seq (.region [2] [qI 2 (.mv (.c (.bool false)))])
  .ret) .skip))
  (.seq (.seq (.region [1, 3] [qI 3 (.mv (.c (.int .i64 0)))])
  (.block 0 (.loop [1, 3] (.seq (.seq (.region [1, 3, 13] [qI 9 (.mv (.t 3)), qI 10 (.fieldAddr 0 (.t 1)), qI 11 (.load false 1 (.t 10)), qI 12 (.len (.t 11)), qI 13 (.bin .lss .other (.t 9) (.t 12))])
  (.cond (.t 13) .skip (.exit 0)))
  (.seq (.block 1 (.seq (.seq (.draw [1, 3, 25] [] [qD 16 (.fieldAddr 0 (.t 1)) 0, qD 17 (.load false 1 (.t 16)) 1, qD 18 (.mv (.t 3)) 2, qD 19 (.indexAddr 1 (.t 17) (.t 18)) 3, qD 20 (.load false 1 (.t 19)) 4, qD 21 (.fieldAddr 0 (.t 1)) 5, qD 22 (.load false 1 (.t 21)) 6, qD 23 (.indexAddr 1 (.t 22) (.c (.int .i64 0))) 7, qD 24 (.load false 1 (.t 23)) 8, qD 25 (.bin .neq .other (.t 20) (.t 24)) 9])
  (.cond (.t 25) (.seq (.region [2] [qI 2 (.mv (.c (.bool false)))])
  .ret) .skip))
  (.seq (.region [1, 3, 4] [qI 26 (.mv (.t 3)), qI 27 (.bin .add .other (.t 26) (.c (.int .i64 1))), qI 4 (.mv (.t 27))])
  (.block 2 (.loop [1, 3, 4] (.seq (.seq (.region [1, 3, 4, 32] [qI 28 (.mv (.t 4)), qI 29 (.fieldAddr 0 (.t 1)), qI 30 (.load false 1 (.t 29)), qI 31 (.len (.t 30)), qI 32 (.bin .lss .other (.t 28) (.t 31))])
  (.cond (.t 32) .skip (.exit 2)))
  (.seq (.block 3 (.seq (.region [1, 3, 4, 5] [qI 35 (.fieldAddr 2 (.t 1)), qI 36 (.load false 1 (.t 35)), qI 37 (.mv (.t 3)), qI 38 (.indexAddr 1 (.t 36) (.t 37)), qI 39 (.load false 1 (.t 38)), qI 40 (.mv (.t 4)), qI 41 (.mv (.t 3)), qI 42 (.bin .sub .other (.t 40) (.t 41)), qI 43 (.bin .sub .other (.t 42) (.c (.int .i64 1))), qI 44 (.indexAddr 1 (.t 39) (.t 43)), qI 45 (.load false 1 (.t 44)), qI 5 (.mv (.t 45))])
  (.seq (.region [1, 3, 4, 57] [qI 46 (.mv (.t 5)), qI 47 (.mv (.t 4)), qI 48 (.indexAddr 1 (.t 46) (.t 47)), qI 49 (.load false 1 (.t 48)), qI 50 (.bin .neq .other (.t 49) (.c (.int .i64 1))), qI 51 (.mv (.t 50)), ⟨(some 52), .mv (.t 5), true, (some (51, false))⟩, ⟨(some 53), .mv (.t 4), true, (some (51, false))⟩, ⟨(some 54), .slice 1 (.t 52) none (some (.t 53)) none, true, (some (51, false))⟩, ⟨(some 55), .call 65 [(.t 54)], false, (some (51, false))⟩, ⟨(some 56), .un .not (.t 55), true, (some (51, false))⟩, qI 57 (.pick (.t 51) (.c (.bool true)) (.t 56))])
  (.cond (.t 57) (.seq (.region [2] [qI 2 (.mv (.c (.bool false)))])
  .ret) .skip))))
  (.region [1, 3, 4] [qI 33 (.mv (.t 4)), qI 34 (.bin .add .other (.t 33) (.c (.int .i64 1))), qI 4 (.mv (.t 34))]))))))))
  (.region [1, 3] [qI 14 (.mv (.t 3)), qI 15 (.bin .add .other (.t 14) (.c (.int .i64 1))), qI 3 (.mv (.t 15))]))))))
  (.seq (.region [2] [qI 2 (.mv (.c (.bool true)))])
  .ret))))⟩
theorem cf26 : cF Try.prog Try.f26 = some if26 := by kernel_rfl
/-- loop.example/g01076/laws.toPresentation -/
def if27 : IFn := ⟨[0], [(.cell 2 true 3)], (.seq (.region [1, 2] [eI 1 (.box (.t 0)), eI 2 (.alloc [.nils, .nils, .nils])])
  (.seq (.region [1, 2, 3] [eI 3 (.alloc [.nils, .nils, .nils])])
  (.seq (.region [1, 2, 3] [qI 4 (.fieldAddr 0 (.t 1)), qI 5 (.load false 1 (.t 4)), eI 6 (.call 14 [(.t 5)]), qI 7 (.fieldAddr 0 (.t 3)), nI (.store 1 (.t 7) (.t 6))])
  (.seq (.region [1, 2, 3] [qI 8 (.fieldAddr 1 (.t 1)), qI 9 (.load false 1 (.t 8)), eI 10 (.call 46 [(.t 9)]), qI 11 (.fieldAddr 1 (.t 3)), nI (.store 1 (.t 11) (.t 10))])
  (.seq (.region [2, 3] [qI 12 (.fieldAddr 2 (.t 1)), qI 13 (.load false 1 (.t 12)), eI 14 (.call 47 [(.t 13)]), qI 15 (.fieldAddr 2 (.t 3)), nI (.store 1 (.t 15) (.t 14))])
  (.seq (.region [2] [qI 16 (.load true 3 (.t 3)), nI (.store 3 (.t 2) (.t 16))])
  .ret))))))⟩
theorem cf27 : cF Try.prog Try.f27 = some if27 := by kernel_rfl
/-- loop.example/g01076/laws.eqPresentation -/
def if29 : IFn := ⟨[0, 1], [(.tmp 4)], (.seq (.region [2, 3] [eI 2 (.box (.t 0)), eI 3 (.box (.t 1)), qI 4 (.mv (.c (.bool false)))])
  (.seq (.seq (.region [2, 3, 10] [qI 5 (.fieldAddr 0 (.t 2)), qI 6 (.load false 1 (.t 5)), qI 7 (.fieldAddr 0 (.t 3)), qI 8 (.load false 1 (.t 7)), eI 9 (.call 16 [(.t 6), (.t 8)]), qI 10 (.un .not (.t 9))])
  (.cond (.t 10) (.seq (.region [4] [qI 4 (.mv (.c (.bool false)))])
  .ret) .skip))
  (.seq (.seq (.region [2, 3, 16] [qI 11 (.fieldAddr 1 (.t 2)), qI 12 (.load false 1 (.t 11)), qI 13 (.fieldAddr 1 (.t 3)), qI 14 (.load false 1 (.t 13)), eI 15 (.call 50 [(.t 12), (.t 14)]), qI 16 (.un .not (.t 15))])
  (.cond (.t 16) (.seq (.region [4] [qI 4 (.mv (.c (.bool false)))])
  .ret) .skip))
  (.seq (.seq (.region [22] [qI 17 (.fieldAddr 2 (.t 2)), qI 18 (.load false 1 (.t 17)), qI 19 (.fieldAddr 2 (.t 3)), qI 20 (.load false 1 (.t 19)), eI 21 (.call 51 [(.t 18), (.t 20)]), qI 22 (.un .not (.t 21))])
  (.cond (.t 22) (.seq (.region [4] [qI 4 (.mv (.c (.bool false)))])
  .ret) .skip))
  (.seq (.region [4] [qI 4 (.mv (.c (.bool true)))])
  .ret)))))⟩
theorem cf29 : cF Try.prog Try.f29 = some if29 := by kernel_rfl
/-- loop.example/g01076/spec.IsLazardGroup -/
def if30 : IFn := ⟨[0], [(.tmp 2)], (.seq (.region [1] [eI 1 (.box (.t 0)), qI 2 (.mv (.c (.bool false)))])
  (.seq (.region [2] [qI 3 (.load true 3 (.t 1)), eI 4 (.call 26 [(.t 3)]), qI 5 (.mv (.t 4)), ⟨(some 6), .load true 3 (.t 1), true, (some (5, true))⟩, ⟨(some 7), .call 68 [(.t 6)], false, (some (5, true))⟩, qI 8 (.pick (.t 5) (.t 7) (.c (.bool false))), qI 2 (.mv (.t 8))])
  .ret))⟩
theorem cf30 : cF Try.prog Try.f30 = some if30 := by kernel_rfl
/-- loop.example/g01076/spec.GroupSum -/
def if32 : IFn := ⟨[0, 1, 2], [(.tmp 6), (.tmp 7)], (.seq (.region [1, 2, 3] [eI 3 (.box (.t 0)), qI 6 (.mv (.c .nils)), qI 7 (.mv (.c (.int .i64 0)))])
  (.seq (.seq (.region [1, 2, 3, 8] [qI 9 (.load true 3 (.t 3)), qI 10 (.mv (.t 1)), qI 11 (.mv (.t 2)), eI 12 (.buildSl 1 2 [.nils] [(0, 1, (.t 10)), (1, 1, (.t 11))]), eI 13 (.call 70 [(.t 9), (.t 12)]), qI 8 (.mv (.t 13))])
  (.seq (.region [1, 2, 3, 8, 15] [qI 14 (.mv (.t 8)), qI 15 (.bin .neq .other (.t 14) (.c (.int .i64 0)))])
  (.cond (.t 15) (.seq (.region [6, 7] [qI 16 (.mv (.t 8)), qI 6 (.mv (.c .nils)), qI 7 (.mv (.t 16))])
  .ret) .skip)))
  (.seq (.region [6, 7] [qI 17 (.load true 3 (.t 3)), qI 18 (.mv (.t 1)), qI 19 (.mv (.t 2)), eI 20 (.call 71 [(.t 17), (.t 18), (.t 19)]), qI 6 (.mv (.t 20)), qI 7 (.mv (.c (.int .i64 0)))])
  .ret)))⟩
theorem cf32 : cF Try.prog Try.f32 = some if32 := by kernel_rfl
/-- loop.example/g01076/impl.GroupSum -/
def if33 : IFn := ⟨[0, 1, 2], [(.tmp 6), (.tmp 7)], (.seq (.region [1, 2, 3] [eI 3 (.box (.t 0)), qI 6 (.mv (.c .nils)), qI 7 (.mv (.c (.int .i64 0)))])
  (.seq (.seq (.region [1, 2, 3, 8] [qI 9 (.mv (.t 1)), qI 10 (.mv (.t 2)), eI 11 (.buildSl 1 2 [.nils] [(0, 1, (.t 9)), (1, 1, (.t 10))]), eI 12 (.call 72 [(.t 3), (.t 11)]), qI 8 (.mv (.t 12))])
  (.seq (.region [1, 2, 3, 8, 14] [qI 13 (.mv (.t 8)), qI 14 (.bin .neq .other (.t 13) (.c (.int .i64 0)))])
  (.cond (.t 14) (.seq (.region [6, 7] [qI 15 (.mv (.t 8)), qI 6 (.mv (.c .nils)), qI 7 (.mv (.t 15))])
  .ret) .skip)))
  (.seq (.region [6, 7] [qI 16 (.mv (.t 1)), qI 17 (.mv (.t 2)), eI 18 (.call 73 [(.t 3), (.t 16), (.t 17)]), qI 6 (.mv (.t 18)), qI 7 (.mv (.c (.int .i64 0)))])
  .ret)))⟩
theorem cf33 : cF Try.prog Try.f33 = some if33 := by kernel_rfl
/-- loop.example/g01076/laws.markPresentation -/
def if34 : IFn := ⟨[0, 1], [(.tmp 4)], (.seq (.region [1, 2] [eI 2 (.box (.t 0)), qI 4 (.mv (.c (.int .i64 0)))])
  (.seq (.region [1, 2] [qI 5 (.fieldAddr 0 (.t 2)), qI 6 (.load false 1 (.t 5)), qI 7 (.mv (.t 1)), eI 8 (.call 19 [(.t 6), (.t 7)]), qI 1 (.mv (.t 8))])
  (.seq (.region [1, 2] [qI 9 (.fieldAddr 1 (.t 2)), qI 10 (.load false 1 (.t 9)), qI 11 (.mv (.t 1)), eI 12 (.call 52 [(.t 10), (.t 11)]), qI 1 (.mv (.t 12))])
  (.seq (.region [1] [qI 13 (.fieldAddr 2 (.t 2)), qI 14 (.load false 1 (.t 13)), qI 15 (.mv (.t 1)), eI 16 (.call 53 [(.t 14), (.t 15)]), qI 1 (.mv (.t 16))])
  (.seq (.region [4] [qI 17 (.mv (.t 1)), qI 4 (.mv (.t 17))])
  .ret)))))⟩
theorem cf34 : cF Try.prog Try.f34 = some if34 := by kernel_rfl
/-- loop.example/g01076/spec.GroupBracket -/
def if35 : IFn := ⟨[0, 1, 2], [(.tmp 6), (.tmp 7)], (.seq (.region [1, 2, 3] [eI 3 (.box (.t 0)), qI 6 (.mv (.c .nils)), qI 7 (.mv (.c (.int .i64 0)))])
  (.seq (.seq (.region [1, 2, 3, 8] [qI 9 (.load true 3 (.t 3)), qI 10 (.mv (.t 1)), qI 11 (.mv (.t 2)), eI 12 (.buildSl 1 2 [.nils] [(0, 1, (.t 10)), (1, 1, (.t 11))]), eI 13 (.call 70 [(.t 9), (.t 12)]), qI 8 (.mv (.t 13))])
  (.seq (.region [1, 2, 3, 8, 15] [qI 14 (.mv (.t 8)), qI 15 (.bin .neq .other (.t 14) (.c (.int .i64 0)))])
  (.cond (.t 15) (.seq (.region [6, 7] [qI 16 (.mv (.t 8)), qI 6 (.mv (.c .nils)), qI 7 (.mv (.t 16))])
  .ret) .skip)))
  (.seq (.region [6, 7] [qI 17 (.load true 3 (.t 3)), qI 18 (.mv (.t 1)), qI 19 (.mv (.t 2)), eI 20 (.call 74 [(.t 17), (.t 18), (.t 19)]), qI 6 (.mv (.t 20)), qI 7 (.mv (.c (.int .i64 0)))])
  .ret)))⟩
theorem cf35 : cF Try.prog Try.f35 = some if35 := by kernel_rfl
/-- loop.example/g01076/impl.GroupBracket -/
def if36 : IFn := ⟨[0, 1, 2], [(.tmp 6), (.tmp 7)], (.seq (.region [1, 2, 3] [eI 3 (.box (.t 0)), qI 6 (.mv (.c .nils)), qI 7 (.mv (.c (.int .i64 0)))])
  (.seq (.seq (.region [1, 2, 3, 8] [qI 9 (.mv (.t 1)), qI 10 (.mv (.t 2)), eI 11 (.buildSl 1 2 [.nils] [(0, 1, (.t 9)), (1, 1, (.t 10))]), eI 12 (.call 72 [(.t 3), (.t 11)]), qI 8 (.mv (.t 12))])
  (.seq (.region [1, 2, 3, 8, 14] [qI 13 (.mv (.t 8)), qI 14 (.bin .neq .other (.t 13) (.c (.int .i64 0)))])
  (.cond (.t 14) (.seq (.region [6, 7] [qI 15 (.mv (.t 8)), qI 6 (.mv (.c .nils)), qI 7 (.mv (.t 15))])
  .ret) .skip)))
  (.seq (.region [6, 7] [qI 16 (.mv (.t 1)), qI 17 (.mv (.t 2)), eI 18 (.call 75 [(.t 3), (.t 16), (.t 17)]), qI 6 (.mv (.t 18)), qI 7 (.mv (.c (.int .i64 0)))])
  .ret)))⟩
theorem cf36 : cF Try.prog Try.f36 = some if36 := by kernel_rfl
-- BAD 37 loop.example/g01076/spec.ProveConsistent
/-- loop.example/g01076/laws.szInt64SS -/
def if42 : IFn := ⟨[0, 1], [(.tmp 4)], (.seq (.region [0, 1] [qI 4 (.mv (.c (.int .i64 0)))])
  (.seq (.region [0, 1] [qI 6 (.mv (.t 1)), qI 7 (.mv (.t 0)), qI 8 (.len (.t 7)), qI 9 (.bin .sub .other (.t 6) (.t 8)), qI 1 (.mv (.t 9))])
  (.seq (.seq (.region [0, 1, 11] [qI 10 (.mv (.t 1)), qI 11 (.bin .lss .other (.t 10) (.c (.int .i64 0)))])
  (.cond (.t 11) (.seq (.region [4] [qI 4 (.mv (.c (.int .i64 (-1))))])
  .ret) .skip))
  (.seq (.seq (.region [0, 1, 5] [qI 5 (.mv (.c (.int .i64 0)))])
  (.block 0 (.loop [0, 1, 5] (.seq (.seq (.region [0, 1, 5, 15] [qI 12 (.mv (.t 5)), qI 13 (.mv (.t 0)), qI 14 (.len (.t 13)), qI 15 (.bin .lss .other (.t 12) (.t 14))])
  (.cond (.t 15) .skip (.exit 0)))
  (.seq (.block 1 (.seq (.region [0, 1, 5] [qI 18 (.mv (.t 0)), qI 19 (.mv (.t 5)), qI 20 (.indexAddr 1 (.t 18) (.t 19)), qI 21 (.load false 1 (.t 20)), qI 22 (.mv (.t 1)), eI 23 (.call 63 [(.t 21), (.t 22)]), qI 1 (.mv (.t 23))])
  (.seq (.region [0, 1, 5, 25] [qI 24 (.mv (.t 1)), qI 25 (.bin .lss .other (.t 24) (.c (.int .i64 0)))])
  (.cond (.t 25) (.seq (.region [4] [qI 4 (.mv (.c (.int .i64 (-1))))])
  .ret) .skip))))
  (.region [0, 1, 5] [qI 16 (.mv (.t 5)), qI 17 (.bin .add .other (.t 16) (.c (.int .i64 1))), qI 5 (.mv (.t 17))]))))))
  (.seq (.region [4] [qI 26 (.mv (.t 1)), qI 4 (.mv (.t 26))])
  .ret)))))⟩
theorem cf42 : cF Try.prog Try.f42 = some if42 := by kernel_rfl
/-- loop.example/g01076/laws.szInt64SSS -/
def if43 : IFn := ⟨[0, 1], [(.tmp 4)], (.seq (.region [0, 1] [qI 4 (.mv (.c (.int .i64 0)))])
  (.seq (.region [0, 1] [qI 6 (.mv (.t 1)), qI 7 (.mv (.t 0)), qI 8 (.len (.t 7)), qI 9 (.bin .sub .other (.t 6) (.t 8)), qI 1 (.mv (.t 9))])
  (.seq (.seq (.region [0, 1, 11] [qI 10 (.mv (.t 1)), qI 11 (.bin .lss .other (.t 10) (.c (.int .i64 0)))])
  (.cond (.t 11) (.seq (.region [4] [qI 4 (.mv (.c (.int .i64 (-1))))])
  .ret) .skip))
  (.seq (.seq (.region [0, 1, 5] [qI 5 (.mv (.c (.int .i64 0)))])
  (.block 0 (.loop [0, 1, 5] (.seq (.seq (.region [0, 1, 5, 15] [qI 12 (.mv (.t 5)), qI 13 (.mv (.t 0)), qI 14 (.len (.t 13)), qI 15 (.bin .lss .other (.t 12) (.t 14))])
  (.cond (.t 15) .skip (.exit 0)))
  (.seq (.block 1 (.seq (.region [0, 1, 5] [qI 18 (.mv (.t 0)), qI 19 (.mv (.t 5)), qI 20 (.indexAddr 1 (.t 18) (.t 19)), qI 21 (.load false 1 (.t 20)), qI 22 (.mv (.t 1)), eI 23 (.call 42 [(.t 21), (.t 22)]), qI 1 (.mv (.t 23))])
  (.seq (.region [0, 1, 5, 25] [qI 24 (.mv (.t 1)), qI 25 (.bin .lss .other (.t 24) (.c (.int .i64 0)))])
  (.cond (.t 25) (.seq (.region [4] [qI 4 (.mv (.c (.int .i64 (-1))))])
  .ret) .skip))))
  (.region [0, 1, 5] [qI 16 (.mv (.t 5)), qI 17 (.bin .add .other (.t 16) (.c (.int .i64 1))), qI 5 (.mv (.t 17))]))))))
  (.seq (.region [4] [qI 26 (.mv (.t 1)), qI 4 (.mv (.t 26))])
  .ret)))))⟩
theorem cf43 : cF Try.prog Try.f43 = some if43 := by kernel_rfl
/-- loop.example/g01076/laws.toInt64SS -/
def if46 : IFn := ⟨[0], [(.tmp 2)], (.seq (.region [0] [qI 2 (.mv (.c .nils))])
  (.seq (.region [0, 3] [qI 5 (.mv (.t 0)), qI 6 (.len (.t 5)), eI 7 (.makeSl 1 24 [.nils] (.t 6) (.t 6)), qI 3 (.mv (.t 7))])
  (.seq (.seq (.region [0, 3, 4] [qI 4 (.mv (.c (.int .i64 0)))])
  (.block 0 (.loop [0, 3, 4] (.seq (.seq (.region [0, 3, 4, 11] [qI 8 (.mv (.t 4)), qI 9 (.mv (.t 0)), qI 10 (.len (.t 9)), qI 11 (.bin .lss .other (.t 8) (.t 10))])
  (.cond (.t 11) .skip (.exit 0)))
  (.seq (.block 1 (.region [0, 3, 4] [qI 14 (.mv (.t 3)), qI 15 (.mv (.t 4)), qI 16 (.mv (.t 0)), qI 17 (.mv (.t 4)), qI 18 (.indexAddr 1 (.t 16) (.t 17)), qI 19 (.load false 1 (.t 18)), eI 20 (.call 14 [(.t 19)]), qI 21 (.indexAddr 1 (.t 14) (.t 15)), nI (.store 1 (.t 21) (.t 20))]))
  (.region [0, 3, 4] [qI 12 (.mv (.t 4)), qI 13 (.bin .add .other (.t 12) (.c (.int .i64 1))), qI 4 (.mv (.t 13))]))))))
  (.seq (.region [2] [qI 22 (.mv (.t 3)), qI 2 (.mv (.t 22))])
  .ret))))⟩
theorem cf46 : cF Try.prog Try.f46 = some if46 := by kernel_rfl
/-- loop.example/g01076/laws.toInt64SSS -/
def if47 : IFn := ⟨[0], [(.tmp 2)], (.seq (.region [0] [qI 2 (.mv (.c .nils))])
  (.seq (.region [0, 3] [qI 5 (.mv (.t 0)), qI 6 (.len (.t 5)), eI 7 (.makeSl 1 24 [.nils] (.t 6) (.t 6)), qI 3 (.mv (.t 7))])
  (.seq (.seq (.region [0, 3, 4] [qI 4 (.mv (.c (.int .i64 0)))])
  (.block 0 (.loop [0, 3, 4] (.seq (.seq (.region [0, 3, 4, 11] [qI 8 (.mv (.t 4)), qI 9 (.mv (.t 0)), qI 10 (.len (.t 9)), qI 11 (.bin .lss .other (.t 8) (.t 10))])
  (.cond (.t 11) .skip (.exit 0)))
  (.seq (.block 1 (.region [0, 3, 4] [qI 14 (.mv (.t 3)), qI 15 (.mv (.t 4)), qI 16 (.mv (.t 0)), qI 17 (.mv (.t 4)), qI 18 (.indexAddr 1 (.t 16) (.t 17)), qI 19 (.load false 1 (.t 18)), eI 20 (.call 46 [(.t 19)]), qI 21 (.indexAddr 1 (.t 14) (.t 15)), nI (.store 1 (.t 21) (.t 20))]))
  (.region [0, 3, 4] [qI 12 (.mv (.t 4)), qI 13 (.bin .add .other (.t 12) (.c (.int .i64 1))), qI 4 (.mv (.t 13))]))))))
  (.seq (.region [2] [qI 22 (.mv (.t 3)), qI 2 (.mv (.t 22))])
  .ret))))⟩
theorem cf47 : cF Try.prog Try.f47 = some if47 := by kernel_rfl
/-- loop.example/g01076/laws.eqInt64SS -/
def if50 : IFn := ⟨[0, 1], [(.tmp 4)], (.seq (.region [0, 1] [qI 4 (.mv (.c (.bool false)))])
  (.seq (.seq (.region [0, 1, 10] [qI 6 (.mv (.t 0)), qI 7 (.len (.t 6)), qI 8 (.mv (.t 1)), qI 9 (.len (.t 8)), qI 10 (.bin .neq .other (.t 7) (.t 9))])
  (.cond (.t 10) (.seq (.region [4] [qI 4 (.mv (.c (.bool false)))])
  .ret) .skip))
  (.seq (.seq (.region [0, 1, 5] [qI 5 (.mv (.c (.int .i64 0)))])
  (.block 0 (.loop [0, 1, 5] (.seq (.seq (.region [0, 1, 5, 14] [qI 11 (.mv (.t 5)), qI 12 (.mv (.t 0)), qI 13 (.len (.t 12)), qI 14 (.bin .lss .other (.t 11) (.t 13))])
  (.cond (.t 14) .skip (.exit 0)))
  (.seq (.block 1 (.seq (.draw [0, 1, 5, 26] [] [qD 17 (.mv (.t 0)) 0, qD 18 (.mv (.t 5)) 1, qD 19 (.indexAddr 1 (.t 17) (.t 18)) 2, qD 20 (.load false 1 (.t 19)) 3, qD 21 (.mv (.t 1)) 4, qD 22 (.mv (.t 5)) 5, qD 23 (.indexAddr 1 (.t 21) (.t 22)) 6, qD 24 (.load false 1 (.t 23)) 7, eD 25 (.call 16 [(.t 20), (.t 24)]) 8 [], qD 26 (.un .not (.t 25)) 9])
  (.cond (.t 26) (.seq (.region [4] [qI 4 (.mv (.c (.bool false)))])
  .ret) .skip)))
  (.region [0, 1, 5] [qI 15 (.mv (.t 5)), qI 16 (.bin .add .other (.t 15) (.c (.int .i64 1))), qI 5 (.mv (.t 16))]))))))
  (.seq (.region [4] [qI 4 (.mv (.c (.bool true)))])
  .ret))))⟩
theorem cf50 : cF Try.prog Try.f50 = some if50 := by kernel_rfl
/-- loop.example/g01076/laws.eqInt64SSS -/
def if51 : IFn := ⟨[0, 1], [(.tmp 4)], (.seq (.region [0, 1] [qI 4 (.mv (.c (.bool false)))])
  (.seq (.seq (.region [0, 1, 10] [qI 6 (.mv (.t 0)), qI 7 (.len (.t 6)), qI 8 (.mv (.t 1)), qI 9 (.len (.t 8)), qI 10 (.bin .neq .other (.t 7) (.t 9))])
  (.cond (.t 10) (.seq (.region [4] [qI 4 (.mv (.c (.bool false)))])
  .ret) .skip))
  (.seq (.seq (.region [0, 1, 5] [qI 5 (.mv (.c (.int .i64 0)))])
  (.block 0 (.loop [0, 1, 5] (.seq (.seq (.region [0, 1, 5, 14] [qI 11 (.mv (.t 5)), qI 12 (.mv (.t 0)), qI 13 (.len (.t 12)), qI 14 (.bin .lss .other (.t 11) (.t 13))])
  (.cond (.t 14) .skip (.exit 0)))
  (.seq (.block 1 (.seq (.draw [0, 1, 5, 26] [] [qD 17 (.mv (.t 0)) 0, qD 18 (.mv (.t 5)) 1, qD 19 (.indexAddr 1 (.t 17) (.t 18)) 2, qD 20 (.load false 1 (.t 19)) 3, qD 21 (.mv (.t 1)) 4, qD 22 (.mv (.t 5)) 5, qD 23 (.indexAddr 1 (.t 21) (.t 22)) 6, qD 24 (.load false 1 (.t 23)) 7, eD 25 (.call 50 [(.t 20), (.t 24)]) 8 [], qD 26 (.un .not (.t 25)) 9])
  (.cond (.t 26) (.seq (.region [4] [qI 4 (.mv (.c (.bool false)))])
  .ret) .skip)))
  (.region [0, 1, 5] [qI 15 (.mv (.t 5)), qI 16 (.bin .add .other (.t 15) (.c (.int .i64 1))), qI 5 (.mv (.t 16))]))))))
  (.seq (.region [4] [qI 4 (.mv (.c (.bool true)))])
  .ret))))⟩
theorem cf51 : cF Try.prog Try.f51 = some if51 := by kernel_rfl
/-- loop.example/g01076/laws.markInt64SS -/
def if52 : IFn := ⟨[0, 1], [(.tmp 4)], (.seq (.region [0, 1] [qI 4 (.mv (.c (.int .i64 0)))])
  (.seq (.seq (.region [0, 1, 5] [qI 5 (.mv (.c (.int .i64 0)))])
  (.block 0 (.loop [0, 1, 5] (.seq (.seq (.region [0, 1, 5, 9] [qI 6 (.mv (.t 5)), qI 7 (.mv (.t 0)), qI 8 (.len (.t 7)), qI 9 (.bin .lss .other (.t 6) (.t 8))])
  (.cond (.t 9) .skip (.exit 0)))
  (.seq (.block 1 (.region [0, 1, 5] [qI 12 (.mv (.t 0)), qI 13 (.mv (.t 5)), qI 14 (.indexAddr 1 (.t 12) (.t 13)), qI 15 (.load false 1 (.t 14)), qI 16 (.mv (.t 1)), eI 17 (.call 19 [(.t 15), (.t 16)]), qI 1 (.mv (.t 17))]))
  (.region [0, 1, 5] [qI 10 (.mv (.t 5)), qI 11 (.bin .add .other (.t 10) (.c (.int .i64 1))), qI 5 (.mv (.t 11))]))))))
  (.seq (.region [4] [qI 18 (.mv (.t 1)), qI 4 (.mv (.t 18))])
  .ret)))⟩
theorem cf52 : cF Try.prog Try.f52 = some if52 := by kernel_rfl
/-- loop.example/g01076/laws.markInt64SSS -/
def if53 : IFn := ⟨[0, 1], [(.tmp 4)], (.seq (.region [0, 1] [qI 4 (.mv (.c (.int .i64 0)))])
  (.seq (.seq (.region [0, 1, 5] [qI 5 (.mv (.c (.int .i64 0)))])
  (.block 0 (.loop [0, 1, 5] (.seq (.seq (.region [0, 1, 5, 9] [qI 6 (.mv (.t 5)), qI 7 (.mv (.t 0)), qI 8 (.len (.t 7)), qI 9 (.bin .lss .other (.t 6) (.t 8))])
  (.cond (.t 9) .skip (.exit 0)))
  (.seq (.block 1 (.region [0, 1, 5] [qI 12 (.mv (.t 0)), qI 13 (.mv (.t 5)), qI 14 (.indexAddr 1 (.t 12) (.t 13)), qI 15 (.load false 1 (.t 14)), qI 16 (.mv (.t 1)), eI 17 (.call 52 [(.t 15), (.t 16)]), qI 1 (.mv (.t 17))]))
  (.region [0, 1, 5] [qI 10 (.mv (.t 5)), qI 11 (.bin .add .other (.t 10) (.c (.int .i64 1))), qI 5 (.mv (.t 11))]))))))
  (.seq (.region [4] [qI 18 (.mv (.t 1)), qI 4 (.mv (.t 18))])
  .ret)))⟩
theorem cf53 : cF Try.prog Try.f53 = some if53 := by kernel_rfl
/-- loop.example/g01076/laws.szInt64S -/
def if63 : IFn := ⟨[0, 1], [(.tmp 4)], (.seq (.region [0, 1] [qI 4 (.mv (.c (.int .i64 0)))])
  (.seq (.region [1] [qI 5 (.mv (.t 1)), qI 6 (.mv (.t 0)), qI 7 (.len (.t 6)), qI 8 (.bin .sub .other (.t 5) (.t 7)), qI 1 (.mv (.t 8))])
  (.seq (.seq (.region [1, 10] [qI 9 (.mv (.t 1)), qI 10 (.bin .lss .other (.t 9) (.c (.int .i64 0)))])
  (.cond (.t 10) (.seq (.region [4] [qI 4 (.mv (.c (.int .i64 (-1))))])
  .ret) .skip))
  (.seq (.region [4] [qI 11 (.mv (.t 1)), qI 4 (.mv (.t 11))])
  .ret))))⟩
theorem cf63 : cF Try.prog Try.f63 = some if63 := by kernel_rfl
/-- loop.example/g01076/spec.l08Group -/
def if64 : IFn := ⟨[0], [(.tmp 2)], (.seq (.region [1] [eI 1 (.box (.t 0)), qI 2 (.mv (.c (.bool false)))])
  (.seq (.region [2] [qI 3 (.load true 3 (.t 1)), eI 4 (.call 76 [(.t 3)]), qI 5 (.mv (.t 4)), ⟨(some 6), .load true 3 (.t 1), true, (some (5, true))⟩, ⟨(some 7), .call 78 [(.t 6)], false, (some (5, true))⟩, qI 8 (.pick (.t 5) (.t 7) (.c (.bool false))), qI 2 (.mv (.t 8))])
  .ret))⟩
theorem cf64 : cF Try.prog Try.f64 = some if64 := by kernel_rfl
/-- loop.example/g01076/spec.l01Zero -/
def if65 : IFn := ⟨[0], [(.tmp 2)], (.seq (.region [0] [qI 2 (.mv (.c (.bool false)))])
  (.seq (.seq (.region [0, 3] [qI 3 (.mv (.c (.int .i64 0)))])
  (.block 0 (.loop [0, 3] (.seq (.seq (.region [0, 3, 7] [qI 4 (.mv (.t 3)), qI 5 (.mv (.t 0)), qI 6 (.len (.t 5)), qI 7 (.bin .lss .other (.t 4) (.t 6))])
  (.cond (.t 7) .skip (.exit 0)))
  (.seq (.block 1 (.seq (.region [0, 3, 14] [qI 10 (.mv (.t 0)), qI 11 (.mv (.t 3)), qI 12 (.indexAddr 1 (.t 10) (.t 11)), qI 13 (.load false 1 (.t 12)), qI 14 (.bin .neq .other (.t 13) (.c (.int .i64 0)))])
  (.cond (.t 14) (.seq (.region [2] [qI 2 (.mv (.c (.bool false)))])
  .ret) .skip)))
  (.region [0, 3] [qI 8 (.mv (.t 3)), qI 9 (.bin .add .other (.t 8) (.c (.int .i64 1))), qI 3 (.mv (.t 9))]))))))
  (.seq (.region [2] [qI 2 (.mv (.c (.bool true)))])
  .ret)))⟩
theorem cf65 : cF Try.prog Try.f65 = some if65 := by kernel_rfl
/-- loop.example/g01076/impl.IsConsistent -/
def if66 : IFn := ⟨[0], [(.tmp 2)], (.seq (.region [1] [eI 1 (.box (.t 0)), qI 2 (.mv (.c (.bool false)))])
  (.seq (.region [2] [qI 3 (.load true 3 (.t 1)), eI 4 (.call 81 [(.t 3)]), qI 5 (.mv (.t 4)), ⟨(some 6), .call 111 [(.t 1)], false, (some (5, true))⟩, ⟨(some 7), .bin .eql .other (.t 6) (.c (.int .i64 0)), true, (some (5, true))⟩, qI 8 (.pick (.t 5) (.t 7) (.c (.bool false))), qI 2 (.mv (.t 8))])
  .ret))⟩
theorem cf66 : cF Try.prog Try.f66 = some if66 := by kernel_rfl
/-- loop.example/g01076/impl.isCentral -/
def if67 : IFn := ⟨[0], [(.tmp 2)], (.seq (.region [0] [qI 2 (.mv (.c (.bool false)))])
  (.seq (.seq (.region [0, 11, 12, 13] [qI 8 (.mv (.t 0)), qI 9 (.nilCheck (.t 8)), qI 10 (.fieldAddr 0 (.t 9)), qI 11 (.load false 1 (.t 10)), qI 12 (.len (.t 11)), qI 13 (.mv (.c (.int .i64 0)))])
  (.block 0 (.loop [0, 11, 12, 13] (.seq (.region [0, 11, 12, 13, 14] [qI 14 (.bin .lss .other (.t 13) (.t 12))])
  (.seq (.cond (.t 14) .skip (.exit 0))
  (.seq (.block 1 (.seq (.region [0, 3, 4, 11, 12, 13] [qI 15 (.mv (.t 13)), qI 16 (.indexAddr 1 (.t 11) (.t 13)), qI 17 (.load false 1 (.t 16)), qI 3 (.mv (.t 15)), qI 4 (.mv (.t 17))])
  (.seq (.seq (.region [0, 3, 11, 12, 13, 25] [qI 18 (.mv (.t 4)), qI 19 (.mv (.t 0)), qI 20 (.nilCheck (.t 19)), qI 21 (.fieldAddr 0 (.t 20)), qI 22 (.load false 1 (.t 21)), qI 23 (.indexAddr 1 (.t 22) (.c (.int .i64 0))), qI 24 (.load false 1 (.t 23)), qI 25 (.bin .neq .other (.t 18) (.t 24))])
  (.cond (.t 25) (.seq (.region [2] [qI 2 (.mv (.c (.bool false)))])
  .ret) .skip))
  (.seq (.region [0, 3, 11, 12, 13, 32, 33, 34] [qI 26 (.mv (.t 0)), qI 27 (.nilCheck (.t 26)), qI 28 (.fieldAddr 2 (.t 27)), qI 29 (.load false 1 (.t 28)), qI 30 (.mv (.t 3)), qI 31 (.indexAddr 1 (.t 29) (.t 30)), qI 32 (.load false 1 (.t 31)), qI 33 (.len (.t 32)), qI 34 (.mv (.c (.int .i64 0)))])
  (.block 2 (.loop [0, 3, 11, 12, 13, 32, 33, 34] (.seq (.region [0, 3, 11, 12, 13, 32, 33, 34, 35] [qI 35 (.bin .lss .other (.t 34) (.t 33))])
  (.seq (.cond (.t 35) .skip (.exit 2))
  (.seq (.block 3 (.seq (.region [0, 3, 5, 6, 11, 12, 13, 32, 33, 34] [qI 36 (.mv (.t 34)), qI 37 (.indexAddr 1 (.t 32) (.t 34)), qI 38 (.load false 1 (.t 37)), qI 5 (.mv (.t 36)), qI 6 (.mv (.t 38))])
  (.seq (.region [0, 3, 6, 7, 11, 12, 13, 32, 33, 34] [qI 39 (.mv (.t 3)), qI 40 (.bin .add .other (.t 39) (.c (.int .i64 1))), qI 41 (.mv (.t 5)), qI 42 (.bin .add .other (.t 40) (.t 41)), qI 7 (.mv (.t 42))])
  (.seq (.region [0, 3, 11, 12, 13, 32, 33, 34, 54] [qI 43 (.mv (.t 6)), qI 44 (.mv (.t 7)), qI 45 (.indexAddr 1 (.t 43) (.t 44)), qI 46 (.load false 1 (.t 45)), qI 47 (.bin .neq .other (.t 46) (.c (.int .i64 1))), qI 48 (.mv (.t 47)), ⟨(some 49), .mv (.t 6), true, (some (48, false))⟩, ⟨(some 50), .mv (.t 7), true, (some (48, false))⟩, ⟨(some 51), .slice 1 (.t 49) none (some (.t 50)) none, true, (some (48, false))⟩, ⟨(some 52), .call 108 [(.t 51)], false, (some (48, false))⟩, ⟨(some 53), .un .not (.t 52), true, (some (48, false))⟩, qI 54 (.pick (.t 48) (.c (.bool true)) (.t 53))])
  (.cond (.t 54) (.seq (.region [2] [qI 2 (.mv (.c (.bool false)))])
  .ret) .skip)))))
  (.region [0, 3, 11, 12, 13, 32, 33, 34] [qI 55 (.bin .add .other (.t 34) (.c (.int .i64 1))), qI 34 (.mv (.t 55))]))))))))))
  (.region [0, 11, 12, 13] [qI 56 (.bin .add .other (.t 13) (.c (.int .i64 1))), qI 13 (.mv (.t 56))])))))))
  (.seq (.region [2] [qI 2 (.mv (.c (.bool true)))])
  .ret)))⟩
theorem cf67 : cF Try.prog Try.f67 = some if67 := by kernel_rfl
/-- loop.example/g01076/spec.l34Class -/
def if68 : IFn := ⟨[0], [(.tmp 2)], (.seq (.region [1] [eI 1 (.box (.t 0)), qI 2 (.mv (.c (.bool false)))])
  (.seq (.region [1, 3] [qI 7 (.fieldAddr 0 (.t 1)), qI 8 (.load false 1 (.t 7)), qI 9 (.len (.t 8)), qI 3 (.mv (.t 9))])
  (.seq (.region [1, 3, 4] [eI 10 (.buildSl 1 0 [.nils] []), qI 4 (.mv (.t 10))])
  (.seq (.seq (.region [1, 3, 4, 5] [qI 5 (.mv (.c (.int .i64 0)))])
  (.block 0 (.loop [1, 3, 4, 5] (.seq (.seq (.region [1, 3, 4, 5, 13] [qI 11 (.mv (.t 5)), qI 12 (.mv (.t 3)), qI 13 (.bin .lss .other (.t 11) (.t 12))])
  (.cond (.t 13) .skip (.exit 0)))
  (.seq (.block 1 (.region [1, 3, 4, 5] [qI 16 (.mv (.t 4)), qI 17 (.mv (.t 3)), qI 18 (.mv (.t 5)), eI 19 (.call 112 [(.t 17), (.t 18)]), eI 20 (.buildSl 1 1 [.nils] [(0, 1, (.t 19))]), eI 21 (.append 1 24 (.t 16) (.t 20)), qI 4 (.mv (.t 21))]))
  (.region [1, 3, 4, 5] [qI 14 (.mv (.t 5)), qI 15 (.bin .add .other (.t 14) (.c (.int .i64 1))), qI 5 (.mv (.t 15))]))))))
  (.seq (.seq (.region [1, 3, 4, 6] [qI 6 (.mv (.c (.int .i64 1)))])
  (.block 2 (.loop [1, 3, 4, 6] (.seq (.seq (.region [1, 3, 4, 6, 36] [qI 22 (.mv (.t 3)), qI 23 (.bin .gtr .other (.t 22) (.c (.int .i64 0))), qI 24 (.mv (.t 23)), ⟨(some 25), .mv (.t 6), true, (some (24, true))⟩, ⟨(some 26), .fieldAddr 0 (.t 1), true, (some (24, true))⟩, ⟨(some 27), .load false 1 (.t 26), true, (some (24, true))⟩, ⟨(some 28), .indexAddr 1 (.t 27) (.c (.int .i64 0)), true, (some (24, true))⟩, ⟨(some 29), .load false 1 (.t 28), true, (some (24, true))⟩, ⟨(some 30), .bin .lss .other (.t 25) (.t 29), true, (some (24, true))⟩, qI 31 (.pick (.t 24) (.t 30) (.c (.bool false))), qI 32 (.mv (.t 31)), ⟨(some 33), .mv (.t 4), true, (some (32, true))⟩, ⟨(some 34), .len (.t 33), true, (some (32, true))⟩, ⟨(some 35), .bin .gtr .other (.t 34) (.c (.int .i64 0)), true, (some (32, true))⟩, qI 36 (.pick (.t 32) (.t 35) (.c (.bool false)))])
  (.cond (.t 36) .skip (.exit 2)))
  (.seq (.block 3 (.region [1, 3, 4, 6] [qI 39 (.load true 3 (.t 1)), qI 40 (.mv (.t 4)), eI 41 (.call 113 [(.t 39), (.t 40)]), qI 4 (.mv (.t 41))]))
  (.region [1, 3, 4, 6] [qI 37 (.mv (.t 6)), qI 38 (.bin .add .other (.t 37) (.c (.int .i64 1))), qI 6 (.mv (.t 38))]))))))
  (.seq (.region [2] [qI 42 (.mv (.t 3)), qI 43 (.bin .eql .other (.t 42) (.c (.int .i64 0))), qI 44 (.mv (.t 43)), ⟨(some 45), .mv (.t 4), true, (some (44, false))⟩, ⟨(some 46), .len (.t 45), true, (some (44, false))⟩, ⟨(some 47), .bin .eql .other (.t 46) (.c (.int .i64 0)), true, (some (44, false))⟩, qI 48 (.pick (.t 44) (.c (.bool true)) (.t 47)), qI 2 (.mv (.t 48))])
  .ret))))))⟩
theorem cf68 : cF Try.prog Try.f68 = some if68 := by kernel_rfl
/-- loop.example/g01076/impl.isLazardGroup -/
def if69 : IFn := ⟨[0], [(.tmp 2)], (.seq (.region [0] [qI 2 (.mv (.c (.bool false)))])
  (.seq (.seq (.region [0, 6] [qI 4 (.mv (.t 0)), eI 5 (.call 67 [(.t 4)]), qI 6 (.un .not (.t 5))])
  (.cond (.t 6) (.seq (.region [2] [qI 2 (.mv (.c (.bool false)))])
  .ret) .skip))
  (.seq (.region [0, 3] [qI 7 (.mv (.t 0)), eI 8 (.call 114 [(.t 7)]), qI 3 (.mv (.t 8))])
  (.seq (.region [2] [qI 9 (.mv (.t 0)), qI 10 (.nilCheck (.t 9)), qI 11 (.fieldAddr 0 (.t 10)), qI 12 (.load false 1 (.t 11)), qI 13 (.len (.t 12)), qI 14 (.bin .eql .other (.t 13) (.c (.int .i64 0))), qI 15 (.mv (.t 14)), ⟨(some 16), .mv (.t 3), true, (some (15, false))⟩, ⟨(some 17), .len (.t 16), true, (some (15, false))⟩, ⟨(some 18), .bin .sub .other (.t 17) (.c (.int .i64 1)), true, (some (15, false))⟩, ⟨(some 19), .mv (.t 0), true, (some (15, false))⟩, ⟨(some 20), .nilCheck (.t 19), true, (some (15, false))⟩, ⟨(some 21), .fieldAddr 0 (.t 20), true, (some (15, false))⟩, ⟨(some 22), .load false 1 (.t 21), true, (some (15, false))⟩, ⟨(some 23), .indexAddr 1 (.t 22) (.c (.int .i64 0)), true, (some (15, false))⟩, ⟨(some 24), .load false 1 (.t 23), true, (some (15, false))⟩, ⟨(some 25), .bin .lss .other (.t 18) (.t 24), true, (some (15, false))⟩, qI 26 (.pick (.t 15) (.c (.bool true)) (.t 25)), qI 2 (.mv (.t 26))])
  .ret))))⟩
theorem cf69 : cF Try.prog Try.f69 = some if69 := by kernel_rfl
/-- loop.example/g01076/spec.l34Code -/
def if70 : IFn := ⟨[0, 1], [(.tmp 4)], (.seq (.region [1, 2] [eI 2 (.box (.t 0)), qI 4 (.mv (.c (.int .i64 0)))])
  (.seq (.seq (.region [1, 2, 8] [qI 6 (.load true 3 (.t 2)), eI 7 (.call 64 [(.t 6)]), qI 8 (.un .not (.t 7))])
  (.cond (.t 8) (.seq (.region [4] [qI 4 (.mv (.c (.int .i64 1)))])
  .ret) .skip))
  (.seq (.seq (.region [1, 2, 5] [qI 5 (.mv (.c (.int .i64 0)))])
  (.block 0 (.loop [1, 2, 5] (.seq (.seq (.region [1, 2, 5, 12] [qI 9 (.mv (.t 5)), qI 10 (.mv (.t 1)), qI 11 (.len (.t 10)), qI 12 (.bin .lss .other (.t 9) (.t 11))])
  (.cond (.t 12) .skip (.exit 0)))
  (.seq (.block 1 (.seq (.draw [1, 2, 5, 22] [] [qD 15 (.fieldAddr 0 (.t 2)) 0, qD 16 (.load false 1 (.t 15)) 1, qD 17 (.mv (.t 1)) 2, qD 18 (.mv (.t 5)) 3, qD 19 (.indexAddr 1 (.t 17) (.t 18)) 4, qD 20 (.load false 1 (.t 19)) 5, eD 21 (.call 115 [(.t 16), (.t 20), (.c (.int .i64 (-1)))]) 6 [], qD 22 (.un .not (.t 21)) 7])
  (.cond (.t 22) (.seq (.region [4] [qI 4 (.mv (.c (.int .i64 1)))])
  .ret) .skip)))
  (.region [1, 2, 5] [qI 13 (.mv (.t 5)), qI 14 (.bin .add .other (.t 13) (.c (.int .i64 1))), qI 5 (.mv (.t 14))]))))))
  (.seq (.seq (.region [25] [qI 23 (.load true 3 (.t 2)), eI 24 (.call 30 [(.t 23)]), qI 25 (.un .not (.t 24))])
  (.cond (.t 25) (.seq (.region [4] [qI 4 (.mv (.c (.int .i64 5)))])
  .ret) .skip))
  (.seq (.region [4] [qI 4 (.mv (.c (.int .i64 0)))])
  .ret)))))⟩
theorem cf70 : cF Try.prog Try.f70 = some if70 := by kernel_rfl
/-- loop.example/g01076/spec.l34Sum -/
def if71 : IFn := ⟨[0, 1, 2], [(.tmp 6)], (.seq (.region [1, 2, 3] [eI 3 (.box (.t 0)), qI 6 (.mv (.c .nils))])
  (.seq (.region [1, 2, 3, 7] [qI 10 (.load true 3 (.t 3)), qI 11 (.mv (.t 1)), qI 12 (.mv (.t 2)), eI 13 (.call 116 [(.t 10), (.t 11), (.t 12)]), qI 7 (.mv (.t 13))])
  (.seq (.draw [1, 2, 3, 7, 8, 9] [] [qD 14 (.load true 3 (.t 3)) 0, qD 15 (.mv (.t 7)) 1, qD 16 (.mv (.t 1)) 2, qD 18 (.load true 3 (.t 3)) 4, qD 19 (.mv (.t 7)) 5, qD 20 (.mv (.t 2)) 6, eD 17 (.call 116 [(.t 14), (.t 15), (.t 16)]) 3 [4], eD 21 (.call 116 [(.t 18), (.t 19), (.t 20)]) 7 [], qD 8 (.mv (.t 17)) 8, qD 9 (.mv (.t 21)) 9])
  (.seq (.draw [6] [] [qD 22 (.load true 3 (.t 3)) 0, qD 23 (.mv (.t 1)) 1, qD 24 (.mv (.t 2)) 2, qD 25 (.load true 3 (.t 3)) 3, qD 26 (.load true 3 (.t 3)) 4, qD 27 (.mv (.t 7)) 5, qD 30 (.load true 3 (.t 3)) 8, qD 31 (.mv (.t 8)) 9, qD 33 (.load true 3 (.t 3)) 11, qD 34 (.load true 3 (.t 3)) 12, qD 35 (.mv (.t 9)) 13, eD 28 (.call 119 [(.t 26), (.t 27), (.c (.int .i64 2))]) 6 [0, 3, 8, 11, 12], eD 29 (.call 118 [(.t 25), (.t 28)]) 7 [0, 8, 11, 12], eD 32 (.call 119 [(.t 30), (.t 31), (.c (.int .i64 12))]) 10 [0, 11, 12], eD 36 (.call 119 [(.t 34), (.t 35), (.c (.int .i64 12))]) 14 [0, 11], eD 37 (.call 118 [(.t 33), (.t 36)]) 15 [0], eD 38 (.buildSl 1 5 [.nils] [(0, 1, (.t 23)), (1, 1, (.t 24)), (2, 1, (.t 29)), (3, 1, (.t 32)), (4, 1, (.t 37))]) 16 [0], eD 39 (.call 117 [(.t 22), (.t 38)]) 17 [], qD 6 (.mv (.t 39)) 18])
  .ret))))⟩
theorem cf71 : cF Try.prog Try.f71 = some if71 := by kernel_rfl
/-- loop.example/g01076/impl.lazardGroupCode -/
def if72 : IFn := ⟨[0, 1], [(.tmp 4)], (.seq (.region [0, 1] [qI 4 (.mv (.c (.int .i64 0)))])
  (.seq (.seq (.region [0, 8] [qI 5 (.mv (.t 0)), qI 6 (.mv (.t 1)), eI 7 (.call 120 [(.t 5), (.t 6)]), qI 8 (.un .not (.t 7))])
  (.cond (.t 8) (.seq (.region [4] [qI 4 (.mv (.c (.int .i64 1)))])
  .ret) .skip))
  (.seq (.seq (.region [11] [qI 9 (.mv (.t 0)), eI 10 (.call 69 [(.t 9)]), qI 11 (.un .not (.t 10))])
  (.cond (.t 11) (.seq (.region [4] [qI 4 (.mv (.c (.int .i64 5)))])
  .ret) .skip))
  (.seq (.region [4] [qI 4 (.mv (.c (.int .i64 0)))])
  .ret))))⟩
theorem cf72 : cF Try.prog Try.f72 = some if72 := by kernel_rfl
/-- loop.example/g01076/impl.groupSum -/
def if73 : IFn := ⟨[0, 1, 2], [(.tmp 6)], (.seq (.region [0, 1, 2] [qI 6 (.mv (.c .nils))])
  (.seq (.region [0, 1, 2, 7] [qI 9 (.mv (.t 0)), qI 10 (.mv (.t 1)), qI 11 (.mv (.t 2)), eI 12 (.call 121 [(.t 9), (.t 10), (.t 11)]), qI 7 (.mv (.t 12))])
  (.seq (.region [0, 1, 2, 7, 8] [qI 13 (.mv (.t 0)), qI 14 (.mv (.t 1)), qI 15 (.mv (.t 2)), eI 16 (.call 122 [(.t 13), (.t 14), (.t 15)]), qI 8 (.mv (.t 16))])
  (.seq (.region [0, 1, 2, 7, 8] [qI 17 (.mv (.t 0)), qI 18 (.mv (.t 8)), qI 19 (.mv (.t 0)), qI 20 (.mv (.t 7)), eI 21 (.call 123 [(.t 19), (.t 20), (.c (.int .i64 (-2)))]), eI 22 (.call 122 [(.t 17), (.t 18), (.t 21)]), qI 8 (.mv (.t 22))])
  (.seq (.region [0, 2, 7, 8] [qI 23 (.mv (.t 0)), qI 24 (.mv (.t 8)), qI 25 (.mv (.t 0)), qI 26 (.mv (.t 0)), qI 27 (.mv (.t 7)), qI 28 (.mv (.t 1)), eI 29 (.call 121 [(.t 26), (.t 27), (.t 28)]), eI 30 (.call 123 [(.t 25), (.t 29), (.c (.int .i64 12))]), eI 31 (.call 122 [(.t 23), (.t 24), (.t 30)]), qI 8 (.mv (.t 31))])
  (.seq (.region [6] [qI 32 (.mv (.t 0)), qI 33 (.mv (.t 8)), qI 34 (.mv (.t 0)), qI 35 (.mv (.t 0)), qI 36 (.mv (.t 7)), qI 37 (.mv (.t 2)), eI 38 (.call 121 [(.t 35), (.t 36), (.t 37)]), eI 39 (.call 123 [(.t 34), (.t 38), (.c (.int .i64 (-12)))]), eI 40 (.call 122 [(.t 32), (.t 33), (.t 39)]), qI 6 (.mv (.t 40))])
  .ret))))))⟩
theorem cf73 : cF Try.prog Try.f73 = some if73 := by kernel_rfl
/-- loop.example/g01076/spec.l34Bracket -/
def if74 : IFn := ⟨[0, 1, 2], [(.tmp 6)], (.seq (.region [1, 2, 3] [eI 3 (.box (.t 0)), qI 6 (.mv (.c .nils))])
  (.seq (.region [1, 2, 3, 7] [qI 10 (.load true 3 (.t 3)), qI 11 (.mv (.t 1)), qI 12 (.mv (.t 2)), eI 13 (.call 116 [(.t 10), (.t 11), (.t 12)]), qI 7 (.mv (.t 13))])
  (.seq (.draw [3, 7, 8, 9] [] [qD 14 (.load true 3 (.t 3)) 0, qD 15 (.mv (.t 7)) 1, qD 16 (.mv (.t 1)) 2, qD 18 (.load true 3 (.t 3)) 4, qD 19 (.mv (.t 7)) 5, qD 20 (.mv (.t 2)) 6, eD 17 (.call 116 [(.t 14), (.t 15), (.t 16)]) 3 [4], eD 21 (.call 116 [(.t 18), (.t 19), (.t 20)]) 7 [], qD 8 (.mv (.t 17)) 8, qD 9 (.mv (.t 21)) 9])
  (.seq (.draw [6] [] [qD 22 (.load true 3 (.t 3)) 0, qD 23 (.mv (.t 7)) 1, qD 24 (.load true 3 (.t 3)) 2, qD 25 (.load true 3 (.t 3)) 3, qD 26 (.mv (.t 8)) 4, qD 29 (.load true 3 (.t 3)) 7, qD 30 (.load true 3 (.t 3)) 8, qD 31 (.mv (.t 9)) 9, eD 27 (.call 119 [(.t 25), (.t 26), (.c (.int .i64 2))]) 5 [0, 2, 7, 8], eD 28 (.call 118 [(.t 24), (.t 27)]) 6 [0, 7, 8], eD 32 (.call 119 [(.t 30), (.t 31), (.c (.int .i64 2))]) 10 [0, 7], eD 33 (.call 118 [(.t 29), (.t 32)]) 11 [0], eD 34 (.buildSl 1 3 [.nils] [(0, 1, (.t 23)), (1, 1, (.t 28)), (2, 1, (.t 33))]) 12 [0], eD 35 (.call 117 [(.t 22), (.t 34)]) 13 [], qD 6 (.mv (.t 35)) 14])
  .ret))))⟩
theorem cf74 : cF Try.prog Try.f74 = some if74 := by kernel_rfl
/-- loop.example/g01076/impl.groupBracket -/
def if75 : IFn := ⟨[0, 1, 2], [(.tmp 6)], (.seq (.region [0, 1, 2] [qI 6 (.mv (.c .nils))])
  (.seq (.region [0, 1, 2, 7] [qI 9 (.mv (.t 0)), qI 10 (.mv (.t 1)), qI 11 (.mv (.t 2)), eI 12 (.call 121 [(.t 9), (.t 10), (.t 11)]), qI 7 (.mv (.t 12))])
  (.seq (.region [0, 2, 7, 8] [qI 13 (.mv (.t 0)), qI 14 (.mv (.t 7)), qI 15 (.mv (.t 0)), qI 16 (.mv (.t 0)), qI 17 (.mv (.t 7)), qI 18 (.mv (.t 1)), eI 19 (.call 121 [(.t 16), (.t 17), (.t 18)]), eI 20 (.call 123 [(.t 15), (.t 19), (.c (.int .i64 (-2)))]), eI 21 (.call 122 [(.t 13), (.t 14), (.t 20)]), qI 8 (.mv (.t 21))])
  (.seq (.region [6] [qI 22 (.mv (.t 0)), qI 23 (.mv (.t 8)), qI 24 (.mv (.t 0)), qI 25 (.mv (.t 0)), qI 26 (.mv (.t 7)), qI 27 (.mv (.t 2)), eI 28 (.call 121 [(.t 25), (.t 26), (.t 27)]), eI 29 (.call 123 [(.t 24), (.t 28), (.c (.int .i64 (-2)))]), eI 30 (.call 122 [(.t 22), (.t 23), (.t 29)]), qI 6 (.mv (.t 30))])
  .ret))))⟩
theorem cf75 : cF Try.prog Try.f75 = some if75 := by kernel_rfl
/-- loop.example/g01076/spec.IsPresentation -/
def if76 : IFn := ⟨[0], [(.tmp 2)], (.seq (.region [1] [eI 1 (.box (.t 0)), qI 2 (.mv (.c (.bool false)))])
  (.seq (.region [1, 3] [qI 7 (.fieldAddr 0 (.t 1)), qI 8 (.load false 1 (.t 7)), qI 9 (.len (.t 8)), qI 3 (.mv (.t 9))])
  (.seq (.seq (.region [1, 3, 25] [qI 10 (.mv (.t 3)), qI 11 (.bin .gtr .other (.t 10) (.c (.int .i64 6))), qI 12 (.mv (.t 11)), ⟨(some 13), .fieldAddr 1 (.t 1), true, (some (12, false))⟩, ⟨(some 14), .load false 1 (.t 13), true, (some (12, false))⟩, ⟨(some 15), .len (.t 14), true, (some (12, false))⟩, ⟨(some 16), .mv (.t 3), true, (some (12, false))⟩, ⟨(some 17), .bin .neq .other (.t 15) (.t 16), true, (some (12, false))⟩, qI 18 (.pick (.t 12) (.c (.bool true)) (.t 17)), qI 19 (.mv (.t 18)), ⟨(some 20), .fieldAddr 2 (.t 1), true, (some (19, false))⟩, ⟨(some 21), .load false 1 (.t 20), true, (some (19, false))⟩, ⟨(some 22), .len (.t 21), true, (some (19, false))⟩, ⟨(some 23), .mv (.t 3), true, (some (19, false))⟩, ⟨(some 24), .bin .neq .other (.t 22) (.t 23), true, (some (19, false))⟩, qI 25 (.pick (.t 19) (.c (.bool true)) (.t 24))])
  (.cond (.t 25) (.seq (.region [2] [qI 2 (.mv (.c (.bool false)))])
  .ret) .skip))
  (.seq (.seq (.region [1, 3, 4] [qI 4 (.mv (.c (.int .i64 0)))])
  (.block 0 (.loop [1, 3, 4] (.seq (.seq (.region [1, 3, 4, 28] [qI 26 (.mv (.t 4)), qI 27 (.mv (.t 3)), qI 28 (.bin .lss .other (.t 26) (.t 27))])
  (.cond (.t 28) .skip (.exit 0)))
  (.seq (.block 1 (.seq (.region [1, 3, 4, 37] [qI 31 (.fieldAddr 0 (.t 1)), qI 32 (.load false 1 (.t 31)), qI 33 (.mv (.t 4)), qI 34 (.indexAddr 1 (.t 32) (.t 33)), qI 35 (.load false 1 (.t 34)), eI 36 (.call 124 [(.t 35)]), qI 37 (.un .not (.t 36))])
  (.cond (.t 37) (.seq (.region [2] [qI 2 (.mv (.c (.bool false)))])
  .ret) .skip)))
  (.region [1, 3, 4] [qI 29 (.mv (.t 4)), qI 30 (.bin .add .other (.t 29) (.c (.int .i64 1))), qI 4 (.mv (.t 30))]))))))
  (.seq (.seq (.region [1, 3, 41] [qI 38 (.fieldAddr 0 (.t 1)), qI 39 (.load false 1 (.t 38)), eI 40 (.call 125 [(.t 39)]), qI 41 (.bin .gtr .other (.t 40) (.c (.int .i64 729)))])
  (.cond (.t 41) (.seq (.region [2] [qI 2 (.mv (.c (.bool false)))])
  .ret) .skip))
  (.seq (.seq (.region [1, 3, 5] [qI 5 (.mv (.c (.int .i64 0)))])
  (.block 2 (.loop [1, 3, 5] (.seq (.seq (.region [1, 3, 5, 44] [qI 42 (.mv (.t 5)), qI 43 (.mv (.t 3)), qI 44 (.bin .lss .other (.t 42) (.t 43))])
  (.cond (.t 44) .skip (.exit 2)))
  (.seq (.block 3 (.seq (.seq (.draw [1, 3, 5, 69] [] [qD 47 (.fieldAddr 0 (.t 1)) 0, qD 48 (.load false 1 (.t 47)) 1, qD 49 (.fieldAddr 1 (.t 1)) 2, qD 50 (.load false 1 (.t 49)) 3, qD 51 (.mv (.t 5)) 4, qD 52 (.indexAddr 1 (.t 50) (.t 51)) 5, qD 53 (.load false 1 (.t 52)) 6, qD 54 (.mv (.t 5)) 7, eD 55 (.call 115 [(.t 48), (.t 53), (.t 54)]) 8 [], qD 56 (.un .not (.t 55)) 9, qD 57 (.mv (.t 56)) 10, ⟨⟨(some 58), .fieldAddr 2 (.t 1), true, (some (57, false))⟩, 11, []⟩, ⟨⟨(some 59), .load false 1 (.t 58), true, (some (57, false))⟩, 12, []⟩, ⟨⟨(some 60), .mv (.t 5), true, (some (57, false))⟩, 13, []⟩, ⟨⟨(some 61), .indexAddr 1 (.t 59) (.t 60), true, (some (57, false))⟩, 14, []⟩, ⟨⟨(some 62), .load false 1 (.t 61), true, (some (57, false))⟩, 15, []⟩, ⟨⟨(some 63), .len (.t 62), true, (some (57, false))⟩, 16, []⟩, ⟨⟨(some 64), .mv (.t 3), true, (some (57, false))⟩, 17, []⟩, ⟨⟨(some 65), .bin .sub .other (.t 64) (.c (.int .i64 1)), true, (some (57, false))⟩, 18, []⟩, ⟨⟨(some 66), .mv (.t 5), true, (some (57, false))⟩, 19, []⟩, ⟨⟨(some 67), .bin .sub .other (.t 65) (.t 66), true, (some (57, false))⟩, 20, []⟩, ⟨⟨(some 68), .bin .neq .other (.t 63) (.t 67), true, (some (57, false))⟩, 21, []⟩, qD 69 (.pick (.t 57) (.c (.bool true)) (.t 68)) 22])
  (.cond (.t 69) (.seq (.region [2] [qI 2 (.mv (.c (.bool false)))])
  .ret) .skip))
  (.seq (.region [1, 3, 5, 6] [qI 6 (.mv (.c (.int .i64 0)))])
  (.block 4 (.loop [1, 3, 5, 6] (.seq (.seq (.region [1, 3, 5, 6, 77] [qI 70 (.mv (.t 6)), qI 71 (.fieldAddr 2 (.t 1)), qI 72 (.load false 1 (.t 71)), qI 73 (.mv (.t 5)), qI 74 (.indexAddr 1 (.t 72) (.t 73)), qI 75 (.load false 1 (.t 74)), qI 76 (.len (.t 75)), qI 77 (.bin .lss .other (.t 70) (.t 76))])
  (.cond (.t 77) .skip (.exit 4)))
  (.seq (.block 5 (.seq (.draw [1, 3, 5, 6, 92] [] [qD 80 (.fieldAddr 0 (.t 1)) 0, qD 81 (.load false 1 (.t 80)) 1, qD 82 (.fieldAddr 2 (.t 1)) 2, qD 83 (.load false 1 (.t 82)) 3, qD 84 (.mv (.t 5)) 4, qD 85 (.indexAddr 1 (.t 83) (.t 84)) 5, qD 86 (.load false 1 (.t 85)) 6, qD 87 (.mv (.t 6)) 7, qD 88 (.indexAddr 1 (.t 86) (.t 87)) 8, qD 89 (.load false 1 (.t 88)) 9, qD 90 (.mv (.t 5)) 10, eD 91 (.call 115 [(.t 81), (.t 89), (.t 90)]) 11 [], qD 92 (.un .not (.t 91)) 12])
  (.cond (.t 92) (.seq (.region [2] [qI 2 (.mv (.c (.bool false)))])
  .ret) .skip)))
  (.region [1, 3, 5, 6] [qI 78 (.mv (.t 6)), qI 79 (.bin .add .other (.t 78) (.c (.int .i64 1))), qI 6 (.mv (.t 79))]))))))))
  (.region [1, 3, 5] [qI 45 (.mv (.t 5)), qI 46 (.bin .add .other (.t 45) (.c (.int .i64 1))), qI 5 (.mv (.t 46))]))))))
  (.seq (.region [2] [qI 2 (.mv (.c (.bool true)))])
  .ret)))))))⟩
theorem cf76 : cF Try.prog Try.f76 = some if76 := by kernel_rfl
/-- loop.example/g01076/spec.l08Consistent -/
def if78 : IFn := ⟨[0], [(.tmp 2)], (.seq (.region [1] [eI 1 (.box (.t 0)), qI 2 (.mv (.c (.bool false)))])
  (.seq (.region [2] [qI 3 (.load true 3 (.t 1)), eI 4 (.call 126 [(.t 3)]), qI 5 (.field false 1 0 (.t 4)), qI 6 (.bin .eql .other (.t 5) (.c (.int .i64 0))), qI 2 (.mv (.t 6))])
  .ret))⟩
theorem cf78 : cF Try.prog Try.f78 = some if78 := by kernel_rfl
/-- loop.example/g01076/impl.IsPresentation -/
def if81 : IFn := ⟨[0], [(.tmp 2)], (.seq (.region [1] [eI 1 (.box (.t 0)), qI 2 (.mv (.c (.bool false)))])
  (.seq (.region [1, 3] [qI 10 (.fieldAddr 0 (.t 1)), qI 11 (.load false 1 (.t 10)), qI 12 (.len (.t 11)), qI 3 (.mv (.t 12))])
  (.seq (.seq (.region [1, 3, 28] [qI 13 (.mv (.t 3)), qI 14 (.bin .gtr .other (.t 13) (.c (.int .i64 6))), qI 15 (.mv (.t 14)), ⟨(some 16), .fieldAddr 1 (.t 1), true, (some (15, false))⟩, ⟨(some 17), .load false 1 (.t 16), true, (some (15, false))⟩, ⟨(some 18), .len (.t 17), true, (some (15, false))⟩, ⟨(some 19), .mv (.t 3), true, (some (15, false))⟩, ⟨(some 20), .bin .neq .other (.t 18) (.t 19), true, (some (15, false))⟩, qI 21 (.pick (.t 15) (.c (.bool true)) (.t 20)), qI 22 (.mv (.t 21)), ⟨(some 23), .fieldAddr 2 (.t 1), true, (some (22, false))⟩, ⟨(some 24), .load false 1 (.t 23), true, (some (22, false))⟩, ⟨(some 25), .len (.t 24), true, (some (22, false))⟩, ⟨(some 26), .mv (.t 3), true, (some (22, false))⟩, ⟨(some 27), .bin .neq .other (.t 25) (.t 26), true, (some (22, false))⟩, qI 28 (.pick (.t 22) (.c (.bool true)) (.t 27))])
  (.cond (.t 28) (.seq (.region [2] [qI 2 (.mv (.c (.bool false)))])
  .ret) .skip))
  (.seq (.region [1, 3, 4] [qI 4 (.mv (.c (.int .i64 1)))])
  (.seq (.seq (.region [1, 3, 4, 30, 31, 32] [qI 29 (.fieldAddr 0 (.t 1)), qI 30 (.load false 1 (.t 29)), qI 31 (.len (.t 30)), qI 32 (.mv (.c (.int .i64 0)))])
  (.block 0 (.loop [1, 3, 4, 30, 31, 32] (.seq (.region [1, 3, 4, 30, 31, 32, 33] [qI 33 (.bin .lss .other (.t 32) (.t 31))])
  (.seq (.cond (.t 33) .skip (.exit 0))
  (.seq (.block 1 (.seq (.region [1, 3, 4, 6, 30, 31, 32] [qI 34 (.indexAddr 1 (.t 30) (.t 32)), qI 35 (.load false 1 (.t 34)), qI 6 (.mv (.t 35))])
  (.seq (.seq (.region [1, 3, 4, 6, 30, 31, 32, 44] [qI 36 (.mv (.t 6)), eI 37 (.call 132 [(.t 36)]), qI 38 (.un .not (.t 37)), qI 39 (.mv (.t 38)), ⟨(some 40), .mv (.t 4), true, (some (39, false))⟩, ⟨(some 41), .mv (.t 6), true, (some (39, false))⟩, ⟨(some 42), .bin .mul .other (.t 40) (.t 41), true, (some (39, false))⟩, ⟨(some 43), .bin .gtr .other (.t 42) (.c (.int .i64 729)), true, (some (39, false))⟩, qI 44 (.pick (.t 39) (.c (.bool true)) (.t 43))])
  (.cond (.t 44) (.seq (.region [2] [qI 2 (.mv (.c (.bool false)))])
  .ret) .skip))
  (.region [1, 3, 4, 30, 31, 32] [qI 45 (.mv (.t 4)), qI 46 (.mv (.t 6)), qI 47 (.bin .mul .other (.t 45) (.t 46)), qI 4 (.mv (.t 47))]))))
  (.region [1, 3, 4, 30, 31, 32] [qI 48 (.bin .add .other (.t 32) (.c (.int .i64 1))), qI 32 (.mv (.t 48))])))))))
  (.seq (.seq (.region [1, 3, 49, 50] [qI 49 (.mv (.t 3)), qI 50 (.mv (.c (.int .i64 0)))])
  (.block 2 (.loop [1, 3, 49, 50] (.seq (.region [1, 3, 49, 50, 51] [qI 51 (.bin .lss .other (.t 50) (.t 49))])
  (.seq (.cond (.t 51) .skip (.exit 2))
  (.seq (.block 3 (.seq (.region [1, 3, 7, 49, 50] [qI 52 (.mv (.t 50)), qI 7 (.mv (.t 52))])
  (.seq (.seq (.region [1, 3, 7, 49, 50, 73] [qI 53 (.mv (.t 7)), qI 54 (.fieldAddr 1 (.t 1)), qI 55 (.load false 1 (.t 54)), qI 56 (.mv (.t 7)), qI 57 (.indexAddr 1 (.t 55) (.t 56)), qI 58 (.load false 1 (.t 57)), eI 59 (.call 133 [(.t 1), (.t 53), (.t 58)]), qI 60 (.un .not (.t 59)), qI 61 (.mv (.t 60)), ⟨(some 62), .fieldAddr 2 (.t 1), true, (some (61, false))⟩, ⟨(some 63), .load false 1 (.t 62), true, (some (61, false))⟩, ⟨(some 64), .mv (.t 7), true, (some (61, false))⟩, ⟨(some 65), .indexAddr 1 (.t 63) (.t 64), true, (some (61, false))⟩, ⟨(some 66), .load false 1 (.t 65), true, (some (61, false))⟩, ⟨(some 67), .len (.t 66), true, (some (61, false))⟩, ⟨(some 68), .mv (.t 3), true, (some (61, false))⟩, ⟨(some 69), .bin .sub .other (.t 68) (.c (.int .i64 1)), true, (some (61, false))⟩, ⟨(some 70), .mv (.t 7), true, (some (61, false))⟩, ⟨(some 71), .bin .sub .other (.t 69) (.t 70), true, (some (61, false))⟩, ⟨(some 72), .bin .neq .other (.t 67) (.t 71), true, (some (61, false))⟩, qI 73 (.pick (.t 61) (.c (.bool true)) (.t 72))])
  (.cond (.t 73) (.seq (.region [2] [qI 2 (.mv (.c (.bool false)))])
  .ret) .skip))
  (.seq (.region [1, 3, 7, 49, 50, 78, 79, 80] [qI 74 (.fieldAddr 2 (.t 1)), qI 75 (.load false 1 (.t 74)), qI 76 (.mv (.t 7)), qI 77 (.indexAddr 1 (.t 75) (.t 76)), qI 78 (.load false 1 (.t 77)), qI 79 (.len (.t 78)), qI 80 (.mv (.c (.int .i64 0)))])
  (.block 4 (.loop [1, 3, 7, 49, 50, 78, 79, 80] (.seq (.region [1, 3, 7, 49, 50, 78, 79, 80, 81] [qI 81 (.bin .lss .other (.t 80) (.t 79))])
  (.seq (.cond (.t 81) .skip (.exit 4))
  (.seq (.block 5 (.seq (.region [1, 3, 7, 9, 49, 50, 78, 79, 80] [qI 82 (.indexAddr 1 (.t 78) (.t 80)), qI 83 (.load false 1 (.t 82)), qI 9 (.mv (.t 83))])
  (.seq (.region [1, 3, 7, 49, 50, 78, 79, 80, 87] [qI 84 (.mv (.t 7)), qI 85 (.mv (.t 9)), eI 86 (.call 133 [(.t 1), (.t 84), (.t 85)]), qI 87 (.un .not (.t 86))])
  (.cond (.t 87) (.seq (.region [2] [qI 2 (.mv (.c (.bool false)))])
  .ret) .skip))))
  (.region [1, 3, 7, 49, 50, 78, 79, 80] [qI 88 (.bin .add .other (.t 80) (.c (.int .i64 1))), qI 80 (.mv (.t 88))]))))))))))
  (.region [1, 3, 49, 50] [qI 89 (.bin .add .other (.t 50) (.c (.int .i64 1))), qI 50 (.mv (.t 89))])))))))
  (.seq (.region [2] [qI 2 (.mv (.c (.bool true)))])
  .ret)))))))⟩
theorem cf81 : cF Try.prog Try.f81 = some if81 := by kernel_rfl
/-- loop.example/g01076/impl.unitVector -/
def if98 : IFn := ⟨[0, 1], [(.tmp 4)], (.seq (.region [0, 1] [qI 4 (.mv (.c .nils))])
  (.seq (.region [1, 5] [qI 6 (.mv (.t 0)), eI 7 (.makeSl 1 8 [(.int .i64 0)] (.t 6) (.t 6)), qI 5 (.mv (.t 7))])
  (.seq (.region [5] [qI 8 (.mv (.t 5)), qI 9 (.mv (.t 1)), qI 10 (.indexAddr 1 (.t 8) (.t 9)), nI (.store 1 (.t 10) (.c (.int .i64 1)))])
  (.seq (.region [4] [qI 11 (.mv (.t 5)), qI 4 (.mv (.t 11))])
  .ret))))⟩
theorem cf98 : cF Try.prog Try.f98 = some if98 := by kernel_rfl
/-- loop.example/g01076/impl.isZero -/
def if108 : IFn := ⟨[0], [(.tmp 2)], (.seq (.region [0] [qI 2 (.mv (.c (.bool false)))])
  (.seq (.seq (.region [5, 6, 7] [qI 5 (.mv (.t 0)), qI 6 (.len (.t 5)), qI 7 (.mv (.c (.int .i64 0)))])
  (.block 0 (.loop [5, 6, 7] (.seq (.region [5, 6, 7, 8] [qI 8 (.bin .lss .other (.t 7) (.t 6))])
  (.seq (.cond (.t 8) .skip (.exit 0))
  (.seq (.block 1 (.seq (.region [4, 5, 6, 7] [qI 9 (.indexAddr 1 (.t 5) (.t 7)), qI 10 (.load false 1 (.t 9)), qI 4 (.mv (.t 10))])
  (.seq (.region [5, 6, 7, 12] [qI 11 (.mv (.t 4)), qI 12 (.bin .neq .other (.t 11) (.c (.int .i64 0)))])
  (.cond (.t 12) (.seq (.region [2] [qI 2 (.mv (.c (.bool false)))])
  .ret) .skip))))
  (.region [5, 6, 7] [qI 13 (.bin .add .other (.t 7) (.c (.int .i64 1))), qI 7 (.mv (.t 13))])))))))
  (.seq (.region [2] [qI 2 (.mv (.c (.bool true)))])
  .ret)))⟩
theorem cf108 : cF Try.prog Try.f108 = some if108 := by kernel_rfl
/-- loop.example/g01076/impl.consistentFrom -/
def if111 : IFn := ⟨[0], [(.tmp 2)], (.seq (.region [0] [qI 2 (.mv (.c (.int .i64 0)))])
  (.seq (.region [0, 3] [qI 4 (.mv (.t 0)), qI 5 (.nilCheck (.t 4)), qI 6 (.fieldAddr 0 (.t 5)), qI 7 (.load false 1 (.t 6)), qI 8 (.len (.t 7)), qI 3 (.mv (.t 8))])
  (.seq (.block 0 (.loop [0, 3] (.seq (.seq (.region [0, 3, 18] [qI 9 (.mv (.t 3)), qI 10 (.bin .gtr .other (.t 9) (.c (.int .i64 0))), qI 11 (.mv (.t 10)), ⟨(some 12), .mv (.t 0), true, (some (11, true))⟩, ⟨(some 13), .mv (.t 3), true, (some (11, true))⟩, ⟨(some 14), .bin .sub .other (.t 13) (.c (.int .i64 1)), true, (some (11, true))⟩, ⟨(some 15), .call 166 [(.t 12), (.t 14)], false, (some (11, true))⟩, ⟨(some 16), .build [(.int .i64 0), (.int .i64 0), (.int .i64 0), (.int .i64 0)] [], true, (some (11, true))⟩, ⟨(some 17), .bin .eql (.ints 4) (.t 15) (.t 16), true, (some (11, true))⟩, qI 18 (.pick (.t 11) (.t 17) (.c (.bool false)))])
  (.cond (.t 18) .skip (.exit 0)))
  (.block 1 (.region [0, 3] [qI 19 (.mv (.t 3)), qI 20 (.bin .sub .other (.t 19) (.c (.int .i64 1))), qI 3 (.mv (.t 20))])))))
  (.seq (.region [2] [qI 21 (.mv (.t 3)), qI 2 (.mv (.t 21))])
  .ret))))⟩
theorem cf111 : cF Try.prog Try.f111 = some if111 := by kernel_rfl
/-- loop.example/g01076/spec.l07Unit -/
def if112 : IFn := ⟨[0, 1], [(.tmp 4)], (.seq (.region [0, 1] [qI 4 (.mv (.c .nils))])
  (.seq (.region [1, 5] [qI 6 (.mv (.t 0)), eI 7 (.makeSl 1 8 [(.int .i64 0)] (.t 6) (.t 6)), qI 5 (.mv (.t 7))])
  (.seq (.region [5] [qI 8 (.mv (.t 5)), qI 9 (.mv (.t 1)), qI 10 (.indexAddr 1 (.t 8) (.t 9)), nI (.store 1 (.t 10) (.c (.int .i64 1)))])
  (.seq (.region [4] [qI 11 (.mv (.t 5)), qI 4 (.mv (.t 11))])
  .ret))))⟩
theorem cf112 : cF Try.prog Try.f112 = some if112 := by kernel_rfl
/-- loop.example/g01076/spec.l34Comms -/
def if113 : IFn := ⟨[0, 1], [(.tmp 4)], (.seq (.region [1, 2] [eI 2 (.box (.t 0)), qI 4 (.mv (.c .nils))])
  (.seq (.region [1, 2, 5] [qI 10 (.fieldAddr 0 (.t 2)), qI 11 (.load false 1 (.t 10)), qI 12 (.len (.t 11)), qI 5 (.mv (.t 12))])
  (.seq (.region [1, 2, 5, 6] [eI 13 (.buildSl 1 0 [.nils] []), qI 6 (.mv (.t 13))])
  (.seq (.seq (.region [1, 2, 5, 6, 7] [qI 7 (.mv (.c (.int .i64 0)))])
  (.block 0 (.loop [1, 2, 5, 6, 7] (.seq (.seq (.region [1, 2, 5, 6, 7, 17] [qI 14 (.mv (.t 7)), qI 15 (.mv (.t 1)), qI 16 (.len (.t 15)), qI 17 (.bin .lss .other (.t 14) (.t 16))])
  (.cond (.t 17) .skip (.exit 0)))
  (.seq (.block 1 (.seq (.region [1, 2, 5, 6, 7, 8] [qI 8 (.mv (.c (.int .i64 0)))])
  (.block 2 (.loop [1, 2, 5, 6, 7, 8] (.seq (.seq (.region [1, 2, 5, 6, 7, 8, 22] [qI 20 (.mv (.t 8)), qI 21 (.mv (.t 5)), qI 22 (.bin .lss .other (.t 20) (.t 21))])
  (.cond (.t 22) .skip (.exit 2)))
  (.seq (.block 3 (.seq (.draw [1, 2, 5, 6, 7, 8, 9] [] [qD 25 (.load true 3 (.t 2)) 0, qD 26 (.mv (.t 1)) 1, qD 27 (.mv (.t 7)) 2, qD 28 (.indexAddr 1 (.t 26) (.t 27)) 3, qD 29 (.load false 1 (.t 28)) 4, qD 30 (.mv (.t 5)) 5, qD 31 (.mv (.t 8)) 6, eD 32 (.call 112 [(.t 30), (.t 31)]) 7 [0, 4], eD 33 (.call 116 [(.t 25), (.t 29), (.t 32)]) 8 [], qD 9 (.mv (.t 33)) 9])
  (.seq (.region [1, 2, 5, 6, 7, 8, 9, 36] [qI 34 (.mv (.t 9)), eI 35 (.call 65 [(.t 34)]), qI 36 (.un .not (.t 35))])
  (.cond (.t 36) (.region [1, 2, 5, 6, 7, 8] [qI 37 (.mv (.t 6)), qI 38 (.mv (.t 9)), eI 39 (.buildSl 1 1 [.nils] [(0, 1, (.t 38))]), eI 40 (.append 1 24 (.t 37) (.t 39)), qI 6 (.mv (.t 40))]) .skip))))
  (.region [1, 2, 5, 6, 7, 8] [qI 23 (.mv (.t 8)), qI 24 (.bin .add .other (.t 23) (.c (.int .i64 1))), qI 8 (.mv (.t 24))])))))))
  (.region [1, 2, 5, 6, 7] [qI 18 (.mv (.t 7)), qI 19 (.bin .add .other (.t 18) (.c (.int .i64 1))), qI 7 (.mv (.t 19))]))))))
  (.seq (.region [4] [qI 41 (.mv (.t 6)), qI 4 (.mv (.t 41))])
  .ret)))))⟩
theorem cf113 : cF Try.prog Try.f113 = some if113 := by kernel_rfl
/-- loop.example/g01076/impl.lowerCentral -/
def if114 : IFn := ⟨[0], [(.tmp 2)], (.seq (.region [1] [eI 1 (.box (.t 0)), qI 2 (.mv (.c .nils))])
  (.seq (.region [2] [qI 3 (.load false 1 (.t 1)), eI 4 (.call 168 [(.t 3)]), qI 5 (.makeFunc 169 [] [(.t 1)]), eI 6 (.call 167 [(.t 4), (.t 5)]), qI 2 (.mv (.t 6))])
  .ret))⟩
theorem cf114 : cF Try.prog Try.f114 = some if114 := by kernel_rfl
/-- loop.example/g01076/spec.l07Exponents -/
def if115 : IFn := ⟨[0, 1, 2], [(.tmp 6)], (.seq (.region [0, 1, 2] [qI 6 (.mv (.c (.bool false)))])
  (.seq (.seq (.region [0, 1, 2, 12] [qI 8 (.mv (.t 1)), qI 9 (.len (.t 8)), qI 10 (.mv (.t 0)), qI 11 (.len (.t 10)), qI 12 (.bin .neq .other (.t 9) (.t 11))])
  (.cond (.t 12) (.seq (.region [6] [qI 6 (.mv (.c (.bool false)))])
  .ret) .skip))
  (.seq (.seq (.region [0, 1, 2, 7] [qI 7 (.mv (.c (.int .i64 0)))])
  (.block 0 (.loop [0, 1, 2, 7] (.seq (.seq (.region [0, 1, 2, 7, 16] [qI 13 (.mv (.t 7)), qI 14 (.mv (.t 1)), qI 15 (.len (.t 14)), qI 16 (.bin .lss .other (.t 13) (.t 15))])
  (.cond (.t 16) .skip (.exit 0)))
  (.seq (.block 1 (.seq (.draw [0, 1, 2, 7, 41] [] [qD 19 (.mv (.t 1)) 0, qD 20 (.mv (.t 7)) 1, qD 21 (.indexAddr 1 (.t 19) (.t 20)) 2, qD 22 (.load false 1 (.t 21)) 3, qD 23 (.mv (.t 0)) 4, qD 24 (.mv (.t 7)) 5, qD 25 (.indexAddr 1 (.t 23) (.t 24)) 6, qD 26 (.load false 1 (.t 25)) 7, qD 27 (.bin .sub .other (.t 26) (.c (.int .i64 1))) 8, eD 28 (.call 171 [(.t 22), (.c (.int .i64 0)), (.t 27)]) 9 [], qD 29 (.un .not (.t 28)) 10, qD 30 (.mv (.t 29)) 11, ⟨⟨(some 31), .mv (.t 7), true, (some (30, false))⟩, 12, []⟩, ⟨⟨(some 32), .mv (.t 2), true, (some (30, false))⟩, 13, []⟩, ⟨⟨(some 33), .bin .leq .other (.t 31) (.t 32), true, (some (30, false))⟩, 14, []⟩, ⟨⟨(some 34), .mv (.t 33), true, (some (30, false))⟩, 15, []⟩, ⟨⟨(some 35), .mv (.t 1), true, (some (34, true))⟩, 16, []⟩, ⟨⟨(some 36), .mv (.t 7), true, (some (34, true))⟩, 17, []⟩, ⟨⟨(some 37), .indexAddr 1 (.t 35) (.t 36), true, (some (34, true))⟩, 18, []⟩, ⟨⟨(some 38), .load false 1 (.t 37), true, (some (34, true))⟩, 19, []⟩, ⟨⟨(some 39), .bin .neq .other (.t 38) (.c (.int .i64 0)), true, (some (34, true))⟩, 20, []⟩, ⟨⟨(some 40), .pick (.t 34) (.t 39) (.c (.bool false)), true, (some (30, false))⟩, 21, []⟩, qD 41 (.pick (.t 30) (.c (.bool true)) (.t 40)) 22])
  (.cond (.t 41) (.seq (.region [6] [qI 6 (.mv (.c (.bool false)))])
  .ret) .skip)))
  (.region [0, 1, 2, 7] [qI 17 (.mv (.t 7)), qI 18 (.bin .add .other (.t 17) (.c (.int .i64 1))), qI 7 (.mv (.t 18))]))))))
  (.seq (.region [6] [qI 6 (.mv (.c (.bool true)))])
  .ret))))⟩
theorem cf115 : cF Try.prog Try.f115 = some if115 := by kernel_rfl
/-- loop.example/g01076/spec.l10Comm -/
def if116 : IFn := ⟨[0, 1, 2], [(.tmp 6)], (.seq (.region [1, 2, 3] [eI 3 (.box (.t 0)), qI 6 (.mv (.c .nils))])
  (.seq (.draw [6] [] [qD 7 (.load true 3 (.t 3)) 0, qD 8 (.load true 3 (.t 3)) 1, qD 9 (.load true 3 (.t 3)) 2, qD 10 (.mv (.t 2)) 3, qD 11 (.mv (.t 1)) 4, qD 14 (.load true 3 (.t 3)) 7, qD 15 (.mv (.t 1)) 8, qD 16 (.mv (.t 2)) 9, eD 12 (.call 130 [(.t 9), (.t 10), (.t 11)]) 5 [0, 1, 7], eD 13 (.call 118 [(.t 8), (.t 12)]) 6 [0, 7], eD 17 (.call 130 [(.t 14), (.t 15), (.t 16)]) 10 [0], eD 18 (.call 130 [(.t 7), (.t 13), (.t 17)]) 11 [], qD 6 (.mv (.t 18)) 12])
  .ret))⟩
theorem cf116 : cF Try.prog Try.f116 = some if116 := by kernel_rfl
/-- loop.example/g01076/spec.l34Product -/
def if117 : IFn := ⟨[0, 1], [(.tmp 4)], (.seq (.region [1, 2] [eI 2 (.box (.t 0)), qI 4 (.mv (.c .nils))])
  (.seq (.region [1, 2, 5] [qI 7 (.fieldAddr 0 (.t 2)), qI 8 (.load false 1 (.t 7)), qI 9 (.len (.t 8)), eI 10 (.makeSl 1 8 [(.int .i64 0)] (.t 9) (.t 9)), qI 5 (.mv (.t 10))])
  (.seq (.seq (.region [1, 2, 5, 6] [qI 6 (.mv (.c (.int .i64 0)))])
  (.block 0 (.loop [1, 2, 5, 6] (.seq (.seq (.region [1, 2, 5, 6, 14] [qI 11 (.mv (.t 6)), qI 12 (.mv (.t 1)), qI 13 (.len (.t 12)), qI 14 (.bin .lss .other (.t 11) (.t 13))])
  (.cond (.t 14) .skip (.exit 0)))
  (.seq (.block 1 (.draw [1, 2, 5, 6] [] [qD 17 (.load true 3 (.t 2)) 0, qD 18 (.mv (.t 5)) 1, qD 19 (.mv (.t 1)) 2, qD 20 (.mv (.t 6)) 3, qD 21 (.indexAddr 1 (.t 19) (.t 20)) 4, qD 22 (.load false 1 (.t 21)) 5, eD 23 (.call 130 [(.t 17), (.t 18), (.t 22)]) 6 [], qD 5 (.mv (.t 23)) 7]))
  (.region [1, 2, 5, 6] [qI 15 (.mv (.t 6)), qI 16 (.bin .add .other (.t 15) (.c (.int .i64 1))), qI 6 (.mv (.t 16))]))))))
  (.seq (.region [4] [qI 24 (.mv (.t 5)), qI 4 (.mv (.t 24))])
  .ret))))⟩
theorem cf117 : cF Try.prog Try.f117 = some if117 := by kernel_rfl
/-- loop.example/g01076/spec.l10Inv -/
def if118 : IFn := ⟨[0, 1], [(.tmp 4)], (.seq (.region [1, 2] [eI 2 (.box (.t 0)), qI 4 (.mv (.c .nils))])
  (.seq (.region [4] [qI 5 (.load true 3 (.t 2)), qI 6 (.mv (.t 1)), eI 7 (.call 172 [(.t 5), (.c (.int .i64 0)), (.t 6)]), qI 4 (.mv (.t 7))])
  .ret))⟩
theorem cf118 : cF Try.prog Try.f118 = some if118 := by kernel_rfl
/-- loop.example/g01076/spec.l34Root -/
def if119 : IFn := ⟨[0, 1, 2], [(.tmp 6)], (.seq (.region [1, 2, 3] [eI 3 (.box (.t 0)), qI 6 (.mv (.c .nils))])
  (.seq (.seq (.region [1, 2, 3, 11] [qI 10 (.mv (.t 1)), eI 11 (.call 65 [(.t 10)])])
  (.cond (.t 11) (.seq (.region [6] [qI 12 (.mv (.t 1)), qI 6 (.mv (.t 12))])
  .ret) .skip))
  (.seq (.region [1, 2, 3, 7] [qI 13 (.fieldAddr 0 (.t 3)), qI 14 (.load false 1 (.t 13)), qI 15 (.indexAddr 1 (.t 14) (.c (.int .i64 0))), qI 16 (.load false 1 (.t 15)), qI 7 (.mv (.t 16))])
  (.seq (.seq (.region [1, 2, 3, 7, 8] [qI 17 (.load true 3 (.t 3)), qI 18 (.mv (.t 1)), qI 19 (.mv (.t 7)), eI 20 (.call 173 [(.t 17), (.t 18), (.t 19)]), qI 8 (.mv (.t 20))])
  (.block 0 (.loop [1, 2, 3, 7, 8] (.seq (.seq (.region [1, 2, 3, 7, 8, 23] [qI 21 (.mv (.t 8)), eI 22 (.call 65 [(.t 21)]), qI 23 (.un .not (.t 22))])
  (.cond (.t 23) .skip (.exit 0)))
  (.seq (.block 1 (.region [1, 2, 3, 7, 8] [qI 31 (.mv (.t 7)), qI 32 (.fieldAddr 0 (.t 3)), qI 33 (.load false 1 (.t 32)), qI 34 (.indexAddr 1 (.t 33) (.c (.int .i64 0))), qI 35 (.load false 1 (.t 34)), qI 36 (.bin .mul .other (.t 31) (.t 35)), qI 7 (.mv (.t 36))]))
  (.draw [1, 2, 3, 7, 8] [] [qD 24 (.load true 3 (.t 3)) 0, qD 25 (.mv (.t 8)) 1, qD 26 (.fieldAddr 0 (.t 3)) 2, qD 27 (.load false 1 (.t 26)) 3, qD 28 (.indexAddr 1 (.t 27) (.c (.int .i64 0))) 4, qD 29 (.load false 1 (.t 28)) 5, eD 30 (.call 173 [(.t 24), (.t 25), (.t 29)]) 6 [], qD 8 (.mv (.t 30)) 7]))))))
  (.seq (.region [1, 2, 3, 7, 9] [qI 9 (.mv (.c (.int .i64 1)))])
  (.seq (.block 2 (.loop [1, 2, 3, 7, 9] (.seq (.seq (.region [1, 2, 3, 7, 9, 49] [qI 37 (.mv (.t 9)), qI 38 (.mv (.t 7)), qI 39 (.bin .lss .other (.t 37) (.t 38)), qI 40 (.mv (.t 39)), ⟨(some 41), .mv (.t 2), true, (some (40, true))⟩, ⟨(some 42), .mv (.t 7), true, (some (40, true))⟩, ⟨(some 43), .call 174 [(.t 41), (.t 42)], false, (some (40, true))⟩, ⟨(some 44), .mv (.t 9), true, (some (40, true))⟩, ⟨(some 45), .bin .mul .other (.t 43) (.t 44), true, (some (40, true))⟩, ⟨(some 46), .mv (.t 7), true, (some (40, true))⟩, ⟨(some 47), .bin .rem .other (.t 45) (.t 46), true, (some (40, true))⟩, ⟨(some 48), .bin .neq .other (.t 47) (.c (.int .i64 1)), true, (some (40, true))⟩, qI 49 (.pick (.t 40) (.t 48) (.c (.bool false)))])
  (.cond (.t 49) .skip (.exit 2)))
  (.block 3 (.region [1, 2, 3, 7, 9] [qI 50 (.mv (.t 9)), qI 51 (.bin .add .other (.t 50) (.c (.int .i64 1))), qI 9 (.mv (.t 51))])))))
  (.seq (.region [6] [qI 52 (.load true 3 (.t 3)), qI 53 (.mv (.t 1)), qI 54 (.mv (.t 9)), eI 55 (.call 173 [(.t 52), (.t 53), (.t 54)]), qI 6 (.mv (.t 55))])
  .ret)))))))⟩
theorem cf119 : cF Try.prog Try.f119 = some if119 := by kernel_rfl
/-- loop.example/g01076/impl.areElements -/
def if120 : IFn := ⟨[0, 1], [(.tmp 4)], (.seq (.region [0, 1] [qI 4 (.mv (.c (.bool false)))])
  (.seq (.seq (.region [0, 1, 11] [qI 7 (.mv (.t 0)), qI 8 (.nilCheck (.t 7)), qI 9 (.load true 3 (.t 8)), eI 10 (.call 66 [(.t 9)]), qI 11 (.un .not (.t 10))])
  (.cond (.t 11) (.seq (.region [4] [qI 4 (.mv (.c (.bool false)))])
  .ret) .skip))
  (.seq (.seq (.region [0, 12, 13, 14] [qI 12 (.mv (.t 1)), qI 13 (.len (.t 12)), qI 14 (.mv (.c (.int .i64 0)))])
  (.block 0 (.loop [0, 12, 13, 14] (.seq (.region [0, 12, 13, 14, 15] [qI 15 (.bin .lss .other (.t 14) (.t 13))])
  (.seq (.cond (.t 15) .skip (.exit 0))
  (.seq (.block 1 (.seq (.region [0, 6, 12, 13, 14] [qI 16 (.indexAddr 1 (.t 12) (.t 14)), qI 17 (.load false 1 (.t 16)), qI 6 (.mv (.t 17))])
  (.seq (.region [0, 12, 13, 14, 21] [qI 18 (.mv (.t 0)), qI 19 (.mv (.t 6)), eI 20 (.call 175 [(.t 18), (.t 19)]), qI 21 (.un .not (.t 20))])
  (.cond (.t 21) (.seq (.region [4] [qI 4 (.mv (.c (.bool false)))])
  .ret) .skip))))
  (.region [0, 12, 13, 14] [qI 22 (.bin .add .other (.t 14) (.c (.int .i64 1))), qI 14 (.mv (.t 22))])))))))
  (.seq (.region [4] [qI 4 (.mv (.c (.bool true)))])
  .ret))))⟩
theorem cf120 : cF Try.prog Try.f120 = some if120 := by kernel_rfl
/-- loop.example/g01076/impl.commutator -/
def if121 : IFn := ⟨[0, 1, 2], [(.tmp 6)], (.seq (.region [0, 1, 2] [qI 6 (.mv (.c .nils))])
  (.seq (.region [6] [qI 7 (.mv (.t 0)), qI 8 (.mv (.t 0)), qI 9 (.mv (.t 1)), eI 10 (.call 176 [(.t 8), (.t 9)]), qI 11 (.mv (.t 0)), qI 12 (.mv (.t 1)), qI 13 (.mv (.t 2)), eI 14 (.call 177 [(.t 11), (.t 12), (.t 13)]), eI 15 (.call 122 [(.t 7), (.t 10), (.t 14)]), qI 6 (.mv (.t 15))])
  .ret))⟩
theorem cf121 : cF Try.prog Try.f121 = some if121 := by kernel_rfl
/-- loop.example/g01076/impl.multiply -/
def if122 : IFn := ⟨[0, 1, 2], [(.tmp 6)], (.seq (.region [0, 1, 2] [qI 6 (.mv (.c .nils))])
  (.seq (.region [0, 2, 7] [qI 8 (.mv (.t 1)), eI 9 (.call 137 [(.t 8)]), qI 7 (.mv (.t 9))])
  (.seq (.region [7] [qI 10 (.mv (.t 0)), qI 11 (.mv (.t 7)), qI 12 (.mv (.t 2)), eI 13 (.call 178 [(.t 10), (.t 11), (.t 12)])])
  (.seq (.region [6] [qI 14 (.mv (.t 7)), qI 6 (.mv (.t 14))])
  .ret))))⟩
theorem cf122 : cF Try.prog Try.f122 = some if122 := by kernel_rfl
/-- loop.example/g01076/impl.root -/
def if123 : IFn := ⟨[0, 1, 2], [(.tmp 6)], (.seq (.region [0, 1, 2] [qI 6 (.mv (.c .nils))])
  (.seq (.seq (.region [0, 1, 2, 11] [qI 10 (.mv (.t 1)), eI 11 (.call 108 [(.t 10)])])
  (.cond (.t 11) (.seq (.region [6] [qI 12 (.mv (.t 1)), eI 13 (.call 137 [(.t 12)]), qI 6 (.mv (.t 13))])
  .ret) .skip))
  (.seq (.region [0, 1, 2, 7] [qI 14 (.mv (.t 0)), qI 15 (.mv (.t 1)), eI 16 (.call 179 [(.t 14), (.t 15)]), qI 7 (.mv (.t 16))])
  (.seq (.region [0, 1, 8] [qI 18 (.mv (.t 2)), qI 19 (.mv (.t 7)), eI 20 (.call 180 [(.t 18), (.t 19)]), qI 21 (.mv (.t 7)), eI 22 (.call 163 [(.t 20), (.t 21)]), qI 17 (.mv (.t 22)), qI 23 (.extract (.t 17) 0), qI 24 (.extract (.t 17) 1), qI 8 (.mv (.t 23)), qI 9 (.mv (.t 24))])
  (.seq (.region [6] [qI 25 (.mv (.t 0)), qI 26 (.mv (.t 1)), qI 27 (.mv (.t 8)), eI 28 (.call 181 [(.t 25), (.t 26), (.t 27)]), qI 6 (.mv (.t 28))])
  .ret)))))⟩
theorem cf123 : cF Try.prog Try.f123 = some if123 := by kernel_rfl
/-- loop.example/g01076/spec.l01Prime -/
def if124 : IFn := ⟨[0], [(.tmp 2)], (.seq (.region [0] [qI 2 (.mv (.c (.bool false)))])
  (.seq (.region [2] [qI 3 (.mv (.t 0)), qI 4 (.bin .eql .other (.t 3) (.c (.int .i64 2))), qI 5 (.mv (.t 4)), ⟨(some 6), .mv (.t 0), true, (some (5, false))⟩, ⟨(some 7), .bin .eql .other (.t 6) (.c (.int .i64 3)), true, (some (5, false))⟩, qI 8 (.pick (.t 5) (.c (.bool true)) (.t 7)), qI 9 (.mv (.t 8)), ⟨(some 10), .mv (.t 0), true, (some (9, false))⟩, ⟨(some 11), .bin .eql .other (.t 10) (.c (.int .i64 5)), true, (some (9, false))⟩, qI 12 (.pick (.t 9) (.c (.bool true)) (.t 11)), qI 13 (.mv (.t 12)), ⟨(some 14), .mv (.t 0), true, (some (13, false))⟩, ⟨(some 15), .bin .eql .other (.t 14) (.c (.int .i64 7)), true, (some (13, false))⟩, qI 16 (.pick (.t 13) (.c (.bool true)) (.t 15)), qI 2 (.mv (.t 16))])
  .ret))⟩
theorem cf124 : cF Try.prog Try.f124 = some if124 := by kernel_rfl
/-- loop.example/g01076/spec.l07Product -/
def if125 : IFn := ⟨[0], [(.tmp 2)], (.seq (.region [0] [qI 2 (.mv (.c (.int .i64 0)))])
  (.seq (.region [0, 3] [qI 3 (.mv (.c (.int .i64 1)))])
  (.seq (.seq (.region [0, 3, 4] [qI 4 (.mv (.c (.int .i64 0)))])
  (.block 0 (.loop [0, 3, 4] (.seq (.seq (.region [0, 3, 4, 8] [qI 5 (.mv (.t 4)), qI 6 (.mv (.t 0)), qI 7 (.len (.t 6)), qI 8 (.bin .lss .other (.t 5) (.t 7))])
  (.cond (.t 8) .skip (.exit 0)))
  (.seq (.block 1 (.seq (.region [0, 3, 4, 12] [qI 11 (.mv (.t 3)), qI 12 (.bin .leq .other (.t 11) (.c (.int .i64 729)))])
  (.cond (.t 12) (.region [0, 3, 4] [qI 13 (.mv (.t 3)), qI 14 (.mv (.t 0)), qI 15 (.mv (.t 4)), qI 16 (.indexAddr 1 (.t 14) (.t 15)), qI 17 (.load false 1 (.t 16)), qI 18 (.bin .mul .other (.t 13) (.t 17)), qI 3 (.mv (.t 18))]) .skip)))
  (.region [0, 3, 4] [qI 9 (.mv (.t 4)), qI 10 (.bin .add .other (.t 9) (.c (.int .i64 1))), qI 4 (.mv (.t 10))]))))))
  (.seq (.region [2] [qI 19 (.mv (.t 3)), qI 2 (.mv (.t 19))])
  .ret))))⟩
theorem cf125 : cF Try.prog Try.f125 = some if125 := by kernel_rfl
/-- loop.example/g01076/spec.l08Fault -/
def if126 : IFn := ⟨[0], [(.cell 2 true 4)], (.seq (.region [1, 2] [eI 1 (.box (.t 0)), eI 2 (.alloc [(.int .i64 0), (.int .i64 0), (.int .i64 0), (.int .i64 0)])])
  (.seq (.seq (.region [1, 2, 3] [qI 5 (.fieldAddr 0 (.t 1)), qI 6 (.load false 1 (.t 5)), qI 7 (.len (.t 6)), qI 8 (.bin .sub .other (.t 7) (.c (.int .i64 1))), qI 3 (.mv (.t 8))])
  (.block 0 (.loop [1, 2, 3] (.seq (.seq (.region [1, 2, 3, 10] [qI 9 (.mv (.t 3)), qI 10 (.bin .geq .other (.t 9) (.c (.int .i64 0)))])
  (.cond (.t 10) .skip (.exit 0)))
  (.seq (.block 1 (.seq (.region [1, 2, 3, 4] [qI 13 (.load true 3 (.t 1)), qI 14 (.mv (.t 3)), eI 15 (.call 182 [(.t 13), (.t 14)]), eI 4 (.alloc [(.int .i64 0), (.int .i64 0), (.int .i64 0), (.int .i64 0)]), nI (.store 4 (.t 4) (.t 15))])
  (.seq (.region [1, 2, 3, 4, 18] [qI 16 (.fieldAddr 0 (.t 4)), qI 17 (.load false 1 (.t 16)), qI 18 (.bin .neq .other (.t 17) (.c (.int .i64 0)))])
  (.cond (.t 18) (.seq (.region [2] [qI 19 (.load true 4 (.t 4)), nI (.store 4 (.t 2) (.t 19))])
  .ret) .skip))))
  (.region [1, 2, 3] [qI 11 (.mv (.t 3)), qI 12 (.bin .sub .other (.t 11) (.c (.int .i64 1))), qI 3 (.mv (.t 12))]))))))
  (.seq (.region [2] [qI 20 (.build [(.int .i64 0), (.int .i64 0), (.int .i64 0), (.int .i64 0)] []), nI (.store 4 (.t 2) (.t 20))])
  .ret)))⟩
theorem cf126 : cF Try.prog Try.f126 = some if126 := by kernel_rfl
/-- loop.example/g01076/spec.l01Own -/
def if127 : IFn := ⟨[0], [(.tmp 2)], (.seq (.region [0] [qI 2 (.mv (.c .nils))])
  (.seq (.region [2] [eI 3 (.buildSl 1 0 [(.int .i64 0)] []), qI 4 (.mv (.t 0)), eI 5 (.append 1 8 (.t 3) (.t 4)), qI 2 (.mv (.t 5))])
  .ret))⟩
theorem cf127 : cF Try.prog Try.f127 = some if127 := by kernel_rfl
/-- loop.example/g01076/spec.l08Mul -/
def if130 : IFn := ⟨[0, 1, 2], [(.tmp 6)], (.seq (.region [1, 2, 3] [eI 3 (.box (.t 0)), qI 6 (.mv (.c .nils))])
  (.seq (.region [6] [qI 7 (.load true 3 (.t 3)), qI 8 (.mv (.t 1)), qI 9 (.mv (.t 2)), eI 10 (.call 183 [(.t 7), (.c (.int .i64 0)), (.t 8), (.t 9)]), qI 6 (.mv (.t 10))])
  .ret))⟩
theorem cf130 : cF Try.prog Try.f130 = some if130 := by kernel_rfl
/-- loop.example/g01076/impl.IsGroupPrime -/
def if132 : IFn := ⟨[0], [(.tmp 2)], (.seq (.region [0] [qI 2 (.mv (.c (.bool false)))])
  (.seq (.region [2] [qI 3 (.mv (.t 0)), qI 4 (.bin .eql .other (.t 3) (.c (.int .i64 2))), qI 5 (.mv (.t 4)), ⟨(some 6), .mv (.t 0), true, (some (5, false))⟩, ⟨(some 7), .bin .eql .other (.t 6) (.c (.int .i64 3)), true, (some (5, false))⟩, qI 8 (.pick (.t 5) (.c (.bool true)) (.t 7)), qI 9 (.mv (.t 8)), ⟨(some 10), .mv (.t 0), true, (some (9, false))⟩, ⟨(some 11), .bin .eql .other (.t 10) (.c (.int .i64 5)), true, (some (9, false))⟩, qI 12 (.pick (.t 9) (.c (.bool true)) (.t 11)), qI 13 (.mv (.t 12)), ⟨(some 14), .mv (.t 0), true, (some (13, false))⟩, ⟨(some 15), .bin .eql .other (.t 14) (.c (.int .i64 7)), true, (some (13, false))⟩, qI 16 (.pick (.t 13) (.c (.bool true)) (.t 15)), qI 2 (.mv (.t 16))])
  .ret))⟩
theorem cf132 : cF Try.prog Try.f132 = some if132 := by kernel_rfl
/-- loop.example/g01076/impl.tailVector -/
def if133 : IFn := ⟨[0, 1, 2], [(.tmp 6)], (.seq (.region [0, 1, 2] [qI 6 (.mv (.c (.bool false)))])
  (.seq (.region [6] [qI 7 (.mv (.t 0)), qI 8 (.mv (.t 2)), eI 9 (.call 175 [(.t 7), (.t 8)]), qI 10 (.mv (.t 9)), ⟨(some 11), .mv (.t 2), true, (some (10, true))⟩, ⟨(some 12), .mv (.t 1), true, (some (10, true))⟩, ⟨(some 13), .bin .add .other (.t 12) (.c (.int .i64 1)), true, (some (10, true))⟩, ⟨(some 14), .slice 1 (.t 11) none (some (.t 13)) none, true, (some (10, true))⟩, ⟨(some 15), .call 108 [(.t 14)], false, (some (10, true))⟩, qI 16 (.pick (.t 10) (.t 15) (.c (.bool false))), qI 6 (.mv (.t 16))])
  .ret))⟩
theorem cf133 : cF Try.prog Try.f133 = some if133 := by kernel_rfl
/-- loop.example/g01076/impl.timesGenerator -/
def if135 : IFn := ⟨[0, 1, 2], [], (.seq (.region [0, 1, 2, 6] [qI 10 (.mv (.t 1)), qI 11 (.mv (.t 2)), qI 12 (.bin .add .other (.t 11) (.c (.int .i64 1))), qI 13 (.slice 1 (.t 10) (some (.t 12)) none none), eI 14 (.call 137 [(.t 13)]), qI 6 (.mv (.t 14))])
  (.seq (.seq (.region [0, 1, 2, 6, 16, 17] [qI 15 (.mv (.t 6)), qI 16 (.len (.t 15)), qI 17 (.mv (.c (.int .i64 0)))])
  (.block 0 (.loop [0, 1, 2, 6, 16, 17] (.seq (.region [0, 1, 2, 6, 16, 17, 18] [qI 18 (.bin .lss .other (.t 17) (.t 16))])
  (.seq (.cond (.t 18) .skip (.exit 0))
  (.seq (.block 1 (.seq (.region [0, 1, 2, 6, 7, 16, 17] [qI 19 (.mv (.t 17)), qI 7 (.mv (.t 19))])
  (.region [0, 1, 2, 6, 16, 17] [qI 20 (.mv (.t 1)), qI 21 (.mv (.t 2)), qI 22 (.bin .add .other (.t 21) (.c (.int .i64 1))), qI 23 (.mv (.t 7)), qI 24 (.bin .add .other (.t 22) (.t 23)), qI 25 (.indexAddr 1 (.t 20) (.t 24)), nI (.store 1 (.t 25) (.c (.int .i64 0)))])))
  (.region [0, 1, 2, 6, 16, 17] [qI 26 (.bin .add .other (.t 17) (.c (.int .i64 1))), qI 17 (.mv (.t 26))])))))))
  (.seq (.region [0, 1, 2, 6] [qI 27 (.mv (.t 1)), qI 28 (.mv (.t 2)), qI 29 (.indexAddr 1 (.t 27) (.t 28)), qI 30 (.load false 1 (.t 29)), qI 31 (.bin .add .other (.t 30) (.c (.int .i64 1))), qI 32 (.indexAddr 1 (.t 27) (.t 28)), nI (.store 1 (.t 32) (.t 31))])
  (.seq (.seq (.draw [0, 1, 2, 6, 44] [] [qD 33 (.mv (.t 1)) 0, qD 34 (.mv (.t 2)) 1, qD 35 (.indexAddr 1 (.t 33) (.t 34)) 2, qD 36 (.load false 1 (.t 35)) 3, qD 37 (.mv (.t 0)) 4, qD 38 (.nilCheck (.t 37)) 5, qD 39 (.fieldAddr 0 (.t 38)) 6, qD 40 (.load false 1 (.t 39)) 7, qD 41 (.mv (.t 2)) 8, qD 42 (.indexAddr 1 (.t 40) (.t 41)) 9, qD 43 (.load false 1 (.t 42)) 10, qD 44 (.bin .eql .other (.t 36) (.t 43)) 11])
  (.cond (.t 44) (.seq (.region [0, 1, 2, 6] [qI 45 (.mv (.t 1)), qI 46 (.mv (.t 2)), qI 47 (.indexAddr 1 (.t 45) (.t 46)), nI (.store 1 (.t 47) (.c (.int .i64 0)))])
  (.region [0, 1, 2, 6] [qI 48 (.mv (.t 0)), qI 49 (.mv (.t 1)), qI 50 (.mv (.t 0)), qI 51 (.nilCheck (.t 50)), qI 52 (.fieldAddr 1 (.t 51)), qI 53 (.load false 1 (.t 52)), qI 54 (.mv (.t 2)), qI 55 (.indexAddr 1 (.t 53) (.t 54)), qI 56 (.load false 1 (.t 55)), eI 57 (.call 178 [(.t 48), (.t 49), (.t 56)])])) .skip))
  (.seq (.region [0, 1, 2, 58, 59, 60] [qI 58 (.mv (.t 6)), qI 59 (.len (.t 58)), qI 60 (.mv (.c (.int .i64 0)))])
  (.block 2 (.loop [0, 1, 2, 58, 59, 60] (.seq (.region [0, 1, 2, 58, 59, 60, 61] [qI 61 (.bin .lss .other (.t 60) (.t 59))])
  (.seq (.cond (.t 61) .skip (.exit 2))
  (.seq (.block 3 (.seq (.region [0, 1, 2, 8, 9, 58, 59, 60] [qI 62 (.mv (.t 60)), qI 63 (.indexAddr 1 (.t 58) (.t 60)), qI 64 (.load false 1 (.t 63)), qI 8 (.mv (.t 62)), qI 9 (.mv (.t 64))])
  (.seq (.region [0, 1, 2, 8, 58, 59, 60, 65, 66] [qI 65 (.mv (.t 9)), qI 66 (.mv (.c (.int .i64 0)))])
  (.block 4 (.loop [0, 1, 2, 8, 58, 59, 60, 65, 66] (.seq (.region [0, 1, 2, 8, 58, 59, 60, 65, 66, 67] [qI 67 (.bin .lss .other (.t 66) (.t 65))])
  (.seq (.cond (.t 67) .skip (.exit 4))
  (.seq (.block 5 (.region [0, 1, 2, 8, 58, 59, 60, 65, 66] [qI 68 (.mv (.t 0)), qI 69 (.mv (.t 1)), qI 70 (.mv (.t 0)), qI 71 (.nilCheck (.t 70)), qI 72 (.fieldAddr 2 (.t 71)), qI 73 (.load false 1 (.t 72)), qI 74 (.mv (.t 2)), qI 75 (.indexAddr 1 (.t 73) (.t 74)), qI 76 (.load false 1 (.t 75)), qI 77 (.mv (.t 8)), qI 78 (.indexAddr 1 (.t 76) (.t 77)), qI 79 (.load false 1 (.t 78)), eI 80 (.call 178 [(.t 68), (.t 69), (.t 79)])]))
  (.region [0, 1, 2, 8, 58, 59, 60, 65, 66] [qI 81 (.bin .add .other (.t 66) (.c (.int .i64 1))), qI 66 (.mv (.t 81))])))))))))
  (.region [0, 1, 2, 58, 59, 60] [qI 82 (.bin .add .other (.t 60) (.c (.int .i64 1))), qI 60 (.mv (.t 82))])))))))))))⟩
theorem cf135 : cF Try.prog Try.f135 = some if135 := by kernel_rfl
/-- slices.Clone[[]int64,int64] -/
def if137 : IFn := ⟨[0], [(.tmp 2)], (.seq (.region [0] [qI 2 (.mv (.c .nils))])
  (.seq (.seq (.region [0, 4] [qI 3 (.mv (.t 0)), qI 4 (.bin .eql .slice (.t 3) (.c .nils))])
  (.cond (.t 4) (.seq (.region [2] [qI 2 (.mv (.c .nils))])
  .ret) .skip))
  (.seq (.region [2] [eI 5 (.buildSl 1 0 [(.int .i64 0)] []), qI 6 (.mv (.t 0)), eI 7 (.append 1 8 (.t 5) (.t 6)), qI 2 (.mv (.t 7))])
  .ret)))⟩
theorem cf137 : cF Try.prog Try.f137 = some if137 := by kernel_rfl
/-- loop.example/g01076/spec.l01Same -/
def if153 : IFn := ⟨[0, 1], [(.tmp 4)], (.seq (.region [0, 1] [qI 4 (.mv (.c (.bool false)))])
  (.seq (.seq (.region [0, 1, 10] [qI 6 (.mv (.t 0)), qI 7 (.len (.t 6)), qI 8 (.mv (.t 1)), qI 9 (.len (.t 8)), qI 10 (.bin .neq .other (.t 7) (.t 9))])
  (.cond (.t 10) (.seq (.region [4] [qI 4 (.mv (.c (.bool false)))])
  .ret) .skip))
  (.seq (.seq (.region [0, 1, 5] [qI 5 (.mv (.c (.int .i64 0)))])
  (.block 0 (.loop [0, 1, 5] (.seq (.seq (.region [0, 1, 5, 14] [qI 11 (.mv (.t 5)), qI 12 (.mv (.t 0)), qI 13 (.len (.t 12)), qI 14 (.bin .lss .other (.t 11) (.t 13))])
  (.cond (.t 14) .skip (.exit 0)))
  (.seq (.block 1 (.seq (.draw [0, 1, 5, 25] [] [qD 17 (.mv (.t 0)) 0, qD 18 (.mv (.t 5)) 1, qD 19 (.indexAddr 1 (.t 17) (.t 18)) 2, qD 20 (.load false 1 (.t 19)) 3, qD 21 (.mv (.t 1)) 4, qD 22 (.mv (.t 5)) 5, qD 23 (.indexAddr 1 (.t 21) (.t 22)) 6, qD 24 (.load false 1 (.t 23)) 7, qD 25 (.bin .neq .other (.t 20) (.t 24)) 8])
  (.cond (.t 25) (.seq (.region [4] [qI 4 (.mv (.c (.bool false)))])
  .ret) .skip)))
  (.region [0, 1, 5] [qI 15 (.mv (.t 5)), qI 16 (.bin .add .other (.t 15) (.c (.int .i64 1))), qI 5 (.mv (.t 16))]))))))
  (.seq (.region [4] [qI 4 (.mv (.c (.bool true)))])
  .ret))))⟩
theorem cf153 : cF Try.prog Try.f153 = some if153 := by kernel_rfl
/-- slices.Equal[[]int64,int64] -/
def if159 : IFn := ⟨[0, 1], [(.tmp 4)], (.seq (.region [0, 1] [qI 4 (.mv (.c (.bool false)))])
  (.seq (.seq (.region [0, 1, 10] [qI 6 (.mv (.t 0)), qI 7 (.len (.t 6)), qI 8 (.mv (.t 1)), qI 9 (.len (.t 8)), qI 10 (.bin .neq .other (.t 7) (.t 9))])
  (.cond (.t 10) (.seq (.region [4] [qI 4 (.mv (.c (.bool false)))])
  .ret) .skip))
  (.seq (.seq (.region [0, 1, 12, 13] [qI 11 (.mv (.t 0)), qI 12 (.len (.t 11)), qI 13 (.mv (.c (.int .i64 0)))])
  (.block 0 (.loop [0, 1, 12, 13] (.seq (.region [0, 1, 12, 13, 14] [qI 14 (.bin .lss .other (.t 13) (.t 12))])
  (.seq (.cond (.t 14) .skip (.exit 0))
  (.seq (.block 1 (.seq (.region [0, 1, 5, 12, 13] [qI 15 (.mv (.t 13)), qI 5 (.mv (.t 15))])
  (.seq (.draw [0, 1, 12, 13, 24] [] [qD 16 (.mv (.t 0)) 0, qD 17 (.mv (.t 5)) 1, qD 18 (.indexAddr 1 (.t 16) (.t 17)) 2, qD 19 (.load false 1 (.t 18)) 3, qD 20 (.mv (.t 1)) 4, qD 21 (.mv (.t 5)) 5, qD 22 (.indexAddr 1 (.t 20) (.t 21)) 6, qD 23 (.load false 1 (.t 22)) 7, qD 24 (.bin .neq .other (.t 19) (.t 23)) 8])
  (.cond (.t 24) (.seq (.region [4] [qI 4 (.mv (.c (.bool false)))])
  .ret) .skip))))
  (.region [0, 1, 12, 13] [qI 25 (.bin .add .other (.t 13) (.c (.int .i64 1))), qI 13 (.mv (.t 25))])))))))
  (.seq (.region [4] [qI 4 (.mv (.c (.bool true)))])
  .ret))))⟩
theorem cf159 : cF Try.prog Try.f159 = some if159 := by kernel_rfl
/-- slices.Clone[[][]int64,[]int64] -/
def if161 : IFn := ⟨[0], [(.tmp 2)], (.seq (.region [0] [qI 2 (.mv (.c .nils))])
  (.seq (.seq (.region [0, 4] [qI 3 (.mv (.t 0)), qI 4 (.bin .eql .slice (.t 3) (.c .nils))])
  (.cond (.t 4) (.seq (.region [2] [qI 2 (.mv (.c .nils))])
  .ret) .skip))
  (.seq (.region [2] [eI 5 (.buildSl 1 0 [.nils] []), qI 6 (.mv (.t 0)), eI 7 (.append 1 24 (.t 5) (.t 6)), qI 2 (.mv (.t 7))])
  .ret)))⟩
theorem cf161 : cF Try.prog Try.f161 = some if161 := by kernel_rfl
/-- loop.example/g01076/impl.depthOf -/
def if162 : IFn := ⟨[0], [(.tmp 2)], (.seq (.region [0] [qI 2 (.mv (.c (.int .i64 0)))])
  (.seq (.seq (.region [0, 5, 6, 7] [qI 5 (.mv (.t 0)), qI 6 (.len (.t 5)), qI 7 (.mv (.c (.int .i64 0)))])
  (.block 0 (.loop [0, 5, 6, 7] (.seq (.region [0, 5, 6, 7, 8] [qI 8 (.bin .lss .other (.t 7) (.t 6))])
  (.seq (.cond (.t 8) .skip (.exit 0))
  (.seq (.block 1 (.seq (.region [0, 3, 4, 5, 6, 7] [qI 9 (.mv (.t 7)), qI 10 (.indexAddr 1 (.t 5) (.t 7)), qI 11 (.load false 1 (.t 10)), qI 3 (.mv (.t 9)), qI 4 (.mv (.t 11))])
  (.seq (.region [0, 3, 5, 6, 7, 13] [qI 12 (.mv (.t 4)), qI 13 (.bin .neq .other (.t 12) (.c (.int .i64 0)))])
  (.cond (.t 13) (.seq (.region [2] [qI 14 (.mv (.t 3)), qI 2 (.mv (.t 14))])
  .ret) .skip))))
  (.region [0, 5, 6, 7] [qI 15 (.bin .add .other (.t 7) (.c (.int .i64 1))), qI 7 (.mv (.t 15))])))))))
  (.seq (.region [2] [qI 16 (.mv (.t 0)), qI 17 (.len (.t 16)), qI 2 (.mv (.t 17))])
  .ret)))⟩
theorem cf162 : cF Try.prog Try.f162 = some if162 := by kernel_rfl
/-- loop.example/g01076/impl.inverseMod -/
def if163 : IFn := ⟨[0, 1], [(.tmp 4), (.tmp 5)], (.seq (.region [0, 1] [qI 4 (.mv (.c (.int .i64 0))), qI 5 (.mv (.c (.bool false)))])
  (.seq (.region [1, 6, 7, 8, 9] [qI 11 (.mv (.t 1)), qI 12 (.mv (.t 0)), qI 6 (.mv (.t 11)), qI 7 (.mv (.t 12)), qI 8 (.mv (.c (.int .i64 0))), qI 9 (.mv (.c (.int .i64 1)))])
  (.seq (.block 0 (.loop [1, 6, 7, 8, 9] (.seq (.seq (.region [1, 6, 7, 8, 9, 14] [qI 13 (.mv (.t 7)), qI 14 (.bin .neq .other (.t 13) (.c (.int .i64 0)))])
  (.cond (.t 14) .skip (.exit 0)))
  (.block 1 (.seq (.region [1, 6, 7, 8, 9, 10] [qI 15 (.mv (.t 6)), qI 16 (.mv (.t 7)), qI 17 (.bin .quo .other (.t 15) (.t 16)), qI 10 (.mv (.t 17))])
  (.seq (.region [1, 6, 7, 8, 9, 10] [qI 18 (.mv (.t 7)), qI 19 (.mv (.t 6)), qI 20 (.mv (.t 10)), qI 21 (.mv (.t 7)), qI 22 (.bin .mul .other (.t 20) (.t 21)), qI 23 (.bin .sub .other (.t 19) (.t 22)), qI 6 (.mv (.t 18)), qI 7 (.mv (.t 23))])
  (.region [1, 6, 7, 8, 9] [qI 24 (.mv (.t 9)), qI 25 (.mv (.t 8)), qI 26 (.mv (.t 10)), qI 27 (.mv (.t 9)), qI 28 (.bin .mul .other (.t 26) (.t 27)), qI 29 (.bin .sub .other (.t 25) (.t 28)), qI 8 (.mv (.t 24)), qI 9 (.mv (.t 29))])))))))
  (.seq (.region [4, 5] [qI 30 (.mv (.t 8)), qI 31 (.mv (.t 1)), eI 32 (.call 180 [(.t 30), (.t 31)]), qI 33 (.mv (.t 6)), qI 34 (.bin .eql .other (.t 33) (.c (.int .i64 1))), qI 4 (.mv (.t 32)), qI 5 (.mv (.t 34))])
  .ret))))⟩
theorem cf163 : cF Try.prog Try.f163 = some if163 := by kernel_rfl
/-- loop.example/g01076/impl.pivots -/
def if164 : IFn := ⟨[0], [(.tmp 2)], (.seq (.region [0] [qI 2 (.mv (.c .nils))])
  (.seq (.region [0, 3] [qI 3 (.mv (.c .nils))])
  (.seq (.seq (.region [3, 6, 7, 8] [qI 6 (.mv (.t 0)), qI 7 (.len (.t 6)), qI 8 (.mv (.c (.int .i64 0)))])
  (.block 0 (.loop [3, 6, 7, 8] (.seq (.region [3, 6, 7, 8, 9] [qI 9 (.bin .lss .other (.t 8) (.t 7))])
  (.seq (.cond (.t 9) .skip (.exit 0))
  (.seq (.block 1 (.seq (.region [3, 5, 6, 7, 8] [qI 10 (.indexAddr 1 (.t 6) (.t 8)), qI 11 (.load false 1 (.t 10)), qI 5 (.mv (.t 11))])
  (.region [3, 6, 7, 8] [qI 12 (.mv (.t 3)), qI 13 (.mv (.t 5)), eI 14 (.call 196 [(.t 13), (.c (.clo 197 [] []))]), eI 15 (.buildSl 1 1 [(.int .i64 0)] [(0, 1, (.t 14))]), eI 16 (.append 1 8 (.t 12) (.t 15)), qI 3 (.mv (.t 16))])))
  (.region [3, 6, 7, 8] [qI 17 (.bin .add .other (.t 8) (.c (.int .i64 1))), qI 8 (.mv (.t 17))])))))))
  (.seq (.region [2] [qI 18 (.mv (.t 3)), qI 2 (.mv (.t 18))])
  .ret))))⟩
theorem cf164 : cF Try.prog Try.f164 = some if164 := by kernel_rfl
/-- loop.example/g01076/impl.levelFault -/
def if166 : IFn := ⟨[0, 1], [(.cell 4 true 4)], (.seq (.region [0, 1, 4] [eI 4 (.alloc [(.int .i64 0), (.int .i64 0), (.int .i64 0), (.int .i64 0)])])
  (.seq (.region [0, 1, 4, 5] [qI 13 (.mv (.t 0)), qI 14 (.nilCheck (.t 13)), qI 15 (.fieldAddr 0 (.t 14)), qI 16 (.load false 1 (.t 15)), qI 17 (.len (.t 16)), qI 5 (.mv (.t 17))])
  (.seq (.region [0, 1, 4, 5, 6] [qI 18 (.mv (.t 1)), qI 6 (.mv (.t 18))])
  (.seq (.seq (.region [0, 1, 4, 5, 6, 7] [qI 19 (.mv (.t 1)), qI 20 (.bin .add .other (.t 19) (.c (.int .i64 1))), qI 7 (.mv (.t 20))])
  (.block 0 (.loop [0, 1, 4, 5, 6, 7] (.seq (.seq (.region [0, 1, 4, 5, 6, 7, 23] [qI 21 (.mv (.t 7)), qI 22 (.mv (.t 5)), qI 23 (.bin .lss .other (.t 21) (.t 22))])
  (.cond (.t 23) .skip (.exit 0)))
  (.seq (.block 1 (.seq (.draw [0, 1, 4, 5, 6, 7, 59] [] [qD 26 (.mv (.t 0)) 0, qD 27 (.mv (.t 0)) 1, qD 28 (.nilCheck (.t 27)) 2, qD 29 (.fieldAddr 2 (.t 28)) 3, qD 30 (.load false 1 (.t 29)) 4, qD 31 (.mv (.t 1)) 5, qD 32 (.indexAddr 1 (.t 30) (.t 31)) 6, qD 33 (.load false 1 (.t 32)) 7, qD 34 (.mv (.t 7)) 8, qD 35 (.mv (.t 1)) 9, qD 36 (.bin .sub .other (.t 34) (.t 35)) 10, qD 37 (.bin .sub .other (.t 36) (.c (.int .i64 1))) 11, qD 38 (.indexAddr 1 (.t 33) (.t 37)) 12, qD 39 (.load false 1 (.t 38)) 13, qD 40 (.mv (.t 0)) 14, qD 41 (.nilCheck (.t 40)) 15, qD 42 (.fieldAddr 0 (.t 41)) 16, qD 43 (.load false 1 (.t 42)) 17, qD 44 (.mv (.t 7)) 18, qD 45 (.indexAddr 1 (.t 43) (.t 44)) 19, qD 46 (.load false 1 (.t 45)) 20, qD 48 (.mv (.t 0)) 22, qD 49 (.mv (.t 1)) 23, qD 50 (.mv (.t 0)) 24, qD 51 (.nilCheck (.t 50)) 25, qD 52 (.fieldAddr 1 (.t 51)) 26, qD 53 (.load false 1 (.t 52)) 27, qD 54 (.mv (.t 7)) 28, qD 55 (.indexAddr 1 (.t 53) (.t 54)) 29, qD 56 (.load false 1 (.t 55)) 30, eD 47 (.call 181 [(.t 26), (.t 39), (.t 46)]) 21 [27, 30], eD 57 (.call 198 [(.t 48), (.t 49), (.t 56)]) 31 [], eD 58 (.call 159 [(.t 47), (.t 57)]) 32 [], qD 59 (.un .not (.t 58)) 33])
  (.cond (.t 59) (.seq (.region [4] [qI 60 (.mv (.t 6)), qI 61 (.mv (.t 7)), qI 62 (.build [(.int .i64 0), (.int .i64 0), (.int .i64 0), (.int .i64 0)] [(0, 1, (.c (.int .i64 1))), (1, 1, (.t 60)), (2, 1, (.t 61)), (3, 1, (.c (.int .i64 0)))]), nI (.store 4 (.t 4) (.t 62))])
  .ret) .skip)))
  (.region [0, 1, 4, 5, 6, 7] [qI 24 (.mv (.t 7)), qI 25 (.bin .add .other (.t 24) (.c (.int .i64 1))), qI 7 (.mv (.t 25))]))))))
  (.seq (.seq (.region [0, 1, 4, 5, 6, 8] [qI 63 (.mv (.t 1)), qI 64 (.bin .add .other (.t 63) (.c (.int .i64 1))), qI 8 (.mv (.t 64))])
  (.block 2 (.loop [0, 1, 4, 5, 6, 8] (.seq (.seq (.region [0, 1, 4, 5, 6, 8, 67] [qI 65 (.mv (.t 8)), qI 66 (.mv (.t 5)), qI 67 (.bin .lss .other (.t 65) (.t 66))])
  (.cond (.t 67) .skip (.exit 2)))
  (.seq (.block 3 (.seq (.region [0, 1, 4, 5, 6, 8, 9] [qI 70 (.mv (.t 8)), qI 71 (.bin .add .other (.t 70) (.c (.int .i64 1))), qI 9 (.mv (.t 71))])
  (.block 4 (.loop [0, 1, 4, 5, 6, 8, 9] (.seq (.seq (.region [0, 1, 4, 5, 6, 8, 9, 74] [qI 72 (.mv (.t 9)), qI 73 (.mv (.t 5)), qI 74 (.bin .lss .other (.t 72) (.t 73))])
  (.cond (.t 74) .skip (.exit 4)))
  (.seq (.block 5 (.seq (.draw [0, 1, 4, 5, 6, 8, 9, 122] [] [qD 77 (.mv (.t 0)) 0, qD 78 (.mv (.t 0)) 1, qD 79 (.nilCheck (.t 78)) 2, qD 80 (.fieldAddr 2 (.t 79)) 3, qD 81 (.load false 1 (.t 80)) 4, qD 82 (.mv (.t 1)) 5, qD 83 (.indexAddr 1 (.t 81) (.t 82)) 6, qD 84 (.load false 1 (.t 83)) 7, qD 85 (.mv (.t 9)) 8, qD 86 (.mv (.t 1)) 9, qD 87 (.bin .sub .other (.t 85) (.t 86)) 10, qD 88 (.bin .sub .other (.t 87) (.c (.int .i64 1))) 11, qD 89 (.indexAddr 1 (.t 84) (.t 88)) 12, qD 90 (.load false 1 (.t 89)) 13, qD 91 (.mv (.t 0)) 14, qD 92 (.nilCheck (.t 91)) 15, qD 93 (.fieldAddr 2 (.t 92)) 16, qD 94 (.load false 1 (.t 93)) 17, qD 95 (.mv (.t 1)) 18, qD 96 (.indexAddr 1 (.t 94) (.t 95)) 19, qD 97 (.load false 1 (.t 96)) 20, qD 98 (.mv (.t 8)) 21, qD 99 (.mv (.t 1)) 22, qD 100 (.bin .sub .other (.t 98) (.t 99)) 23, qD 101 (.bin .sub .other (.t 100) (.c (.int .i64 1))) 24, qD 102 (.indexAddr 1 (.t 97) (.t 101)) 25, qD 103 (.load false 1 (.t 102)) 26, qD 105 (.mv (.t 0)) 28, qD 106 (.mv (.t 1)) 29, qD 107 (.mv (.t 0)) 30, qD 108 (.nilCheck (.t 107)) 31, qD 109 (.fieldAddr 2 (.t 108)) 32, qD 110 (.load false 1 (.t 109)) 33, qD 111 (.mv (.t 8)) 34, qD 112 (.indexAddr 1 (.t 110) (.t 111)) 35, qD 113 (.load false 1 (.t 112)) 36, qD 114 (.mv (.t 9)) 37, qD 115 (.mv (.t 8)) 38, qD 116 (.bin .sub .other (.t 114) (.t 115)) 39, qD 117 (.bin .sub .other (.t 116) (.c (.int .i64 1))) 40, qD 118 (.indexAddr 1 (.t 113) (.t 117)) 41, qD 119 (.load false 1 (.t 118)) 42, eD 104 (.call 177 [(.t 77), (.t 90), (.t 103)]) 27 [33, 36, 42], eD 120 (.call 198 [(.t 105), (.t 106), (.t 119)]) 43 [], eD 121 (.call 159 [(.t 104), (.t 120)]) 44 [], qD 122 (.un .not (.t 121)) 45])
  (.cond (.t 122) (.seq (.region [4] [qI 123 (.mv (.t 6)), qI 124 (.mv (.t 8)), qI 125 (.mv (.t 9)), qI 126 (.build [(.int .i64 0), (.int .i64 0), (.int .i64 0), (.int .i64 0)] [(0, 1, (.c (.int .i64 2))), (1, 1, (.t 123)), (2, 1, (.t 124)), (3, 1, (.t 125))]), nI (.store 4 (.t 4) (.t 126))])
  .ret) .skip)))
  (.region [0, 1, 4, 5, 6, 8, 9] [qI 75 (.mv (.t 9)), qI 76 (.bin .add .other (.t 75) (.c (.int .i64 1))), qI 9 (.mv (.t 76))])))))))
  (.region [0, 1, 4, 5, 6, 8] [qI 68 (.mv (.t 8)), qI 69 (.bin .add .other (.t 68) (.c (.int .i64 1))), qI 8 (.mv (.t 69))]))))))
  (.seq (.region [0, 1, 4, 5, 6, 10] [qI 127 (.mv (.t 0)), qI 128 (.nilCheck (.t 127)), qI 129 (.fieldAddr 1 (.t 128)), qI 130 (.load false 1 (.t 129)), qI 131 (.mv (.t 1)), qI 132 (.indexAddr 1 (.t 130) (.t 131)), qI 133 (.load false 1 (.t 132)), qI 10 (.mv (.t 133))])
  (.seq (.seq (.region [0, 1, 4, 5, 6, 10, 140] [qI 134 (.mv (.t 0)), qI 135 (.mv (.t 1)), qI 136 (.mv (.t 10)), eI 137 (.call 198 [(.t 134), (.t 135), (.t 136)]), qI 138 (.mv (.t 10)), eI 139 (.call 159 [(.t 137), (.t 138)]), qI 140 (.un .not (.t 139))])
  (.cond (.t 140) (.seq (.region [4] [qI 141 (.mv (.t 6)), qI 142 (.build [(.int .i64 0), (.int .i64 0), (.int .i64 0), (.int .i64 0)] [(0, 1, (.c (.int .i64 3))), (1, 1, (.t 141)), (2, 1, (.c (.int .i64 0))), (3, 1, (.c (.int .i64 0)))]), nI (.store 4 (.t 4) (.t 142))])
  .ret) .skip))
  (.seq (.seq (.region [0, 1, 4, 5, 6, 10, 11] [qI 143 (.mv (.t 1)), qI 144 (.bin .add .other (.t 143) (.c (.int .i64 1))), qI 11 (.mv (.t 144))])
  (.block 6 (.loop [0, 1, 4, 5, 6, 10, 11] (.seq (.seq (.region [0, 1, 4, 5, 6, 10, 11, 147] [qI 145 (.mv (.t 11)), qI 146 (.mv (.t 5)), qI 147 (.bin .lss .other (.t 145) (.t 146))])
  (.cond (.t 147) .skip (.exit 6)))
  (.seq (.block 7 (.seq (.region [0, 1, 4, 5, 6, 10, 11, 12] [qI 150 (.mv (.t 5)), qI 151 (.mv (.t 11)), eI 152 (.call 98 [(.t 150), (.t 151)]), qI 12 (.mv (.t 152))])
  (.seq (.seq (.region [0, 1, 4, 5, 6, 10, 11, 12, 159, 160] [qI 153 (.mv (.t 0)), qI 154 (.nilCheck (.t 153)), qI 155 (.fieldAddr 0 (.t 154)), qI 156 (.load false 1 (.t 155)), qI 157 (.mv (.t 1)), qI 158 (.indexAddr 1 (.t 156) (.t 157)), qI 159 (.load false 1 (.t 158)), qI 160 (.mv (.c (.int .i64 0)))])
  (.block 8 (.loop [0, 1, 4, 5, 6, 10, 11, 12, 159, 160] (.seq (.region [0, 1, 4, 5, 6, 10, 11, 12, 159, 160, 161] [qI 161 (.bin .lss .other (.t 160) (.t 159))])
  (.seq (.cond (.t 161) .skip (.exit 8))
  (.seq (.block 9 (.region [0, 1, 4, 5, 6, 10, 11, 12, 159, 160] [qI 162 (.mv (.t 0)), qI 163 (.mv (.t 1)), qI 164 (.mv (.t 12)), eI 165 (.call 198 [(.t 162), (.t 163), (.t 164)]), qI 12 (.mv (.t 165))]))
  (.region [0, 1, 4, 5, 6, 10, 11, 12, 159, 160] [qI 166 (.bin .add .other (.t 160) (.c (.int .i64 1))), qI 160 (.mv (.t 166))])))))))
  (.seq (.region [0, 1, 4, 5, 6, 10, 11, 175] [qI 167 (.mv (.t 12)), qI 168 (.mv (.t 0)), qI 169 (.mv (.t 5)), qI 170 (.mv (.t 11)), eI 171 (.call 98 [(.t 169), (.t 170)]), qI 172 (.mv (.t 10)), eI 173 (.call 177 [(.t 168), (.t 171), (.t 172)]), eI 174 (.call 159 [(.t 167), (.t 173)]), qI 175 (.un .not (.t 174))])
  (.cond (.t 175) (.seq (.region [4] [qI 176 (.mv (.t 6)), qI 177 (.mv (.t 11)), qI 178 (.build [(.int .i64 0), (.int .i64 0), (.int .i64 0), (.int .i64 0)] [(0, 1, (.c (.int .i64 4))), (1, 1, (.t 176)), (2, 1, (.t 177)), (3, 1, (.c (.int .i64 0)))]), nI (.store 4 (.t 4) (.t 178))])
  .ret) .skip)))))
  (.region [0, 1, 4, 5, 6, 10, 11] [qI 148 (.mv (.t 11)), qI 149 (.bin .add .other (.t 148) (.c (.int .i64 1))), qI 11 (.mv (.t 149))]))))))
  (.seq (.region [4] [qI 179 (.build [(.int .i64 0), (.int .i64 0), (.int .i64 0), (.int .i64 0)] []), nI (.store 4 (.t 4) (.t 179))])
  .ret)))))))))⟩
theorem cf166 : cF Try.prog Try.f166 = some if166 := by kernel_rfl
/-- loop.example/g01076/impl.series -/
def if167 : IFn := ⟨[0, 1], [(.tmp 4)], (.seq (.region [0, 1] [qI 4 (.mv (.c .nils))])
  (.seq (.region [1, 5] [qI 7 (.mv (.t 0)), eI 8 (.buildSl 1 1 [.nils] [(0, 1, (.t 7))]), qI 5 (.mv (.t 8))])
  (.block 0 (.loop [1, 5] (.block 1 (.seq (.region [1, 5, 6] [qI 9 (.mv (.t 1)), qI 10 (.mv (.t 5)), qI 11 (.mv (.t 5)), qI 12 (.len (.t 11)), qI 13 (.bin .sub .other (.t 12) (.c (.int .i64 1))), qI 14 (.indexAddr 1 (.t 10) (.t 13)), qI 15 (.load false 1 (.t 14)), eI 16 (.callV (.t 9) [(.t 15)]), qI 6 (.mv (.t 16))])
  (.seq (.seq (.region [1, 5, 6, 24] [qI 17 (.mv (.t 6)), qI 18 (.mv (.t 5)), qI 19 (.mv (.t 5)), qI 20 (.len (.t 19)), qI 21 (.bin .sub .other (.t 20) (.c (.int .i64 1))), qI 22 (.indexAddr 1 (.t 18) (.t 21)), qI 23 (.load false 1 (.t 22)), eI 24 (.call 199 [(.t 17), (.t 23)])])
  (.cond (.t 24) (.seq (.region [4] [qI 25 (.mv (.t 5)), qI 4 (.mv (.t 25))])
  .ret) .skip))
  (.region [1, 5] [qI 26 (.mv (.t 5)), qI 27 (.mv (.t 6)), eI 28 (.buildSl 1 1 [.nils] [(0, 1, (.t 27))]), eI 29 (.append 1 24 (.t 26) (.t 28)), qI 5 (.mv (.t 29))]))))))))⟩
theorem cf167 : cF Try.prog Try.f167 = some if167 := by kernel_rfl
/-- loop.example/g01076/impl.whole -/
def if168 : IFn := ⟨[0], [(.tmp 2)], (.seq (.region [0] [qI 2 (.mv (.c .nils))])
  (.seq (.region [2] [qI 3 (.mv (.t 0)), eI 4 (.call 200 [(.t 3)]), qI 2 (.mv (.t 4))])
  .ret))⟩
theorem cf168 : cF Try.prog Try.f168 = some if168 := by kernel_rfl
/-- loop.example/g01076/impl.lowerCentral$1 -/
def if169 : IFn := ⟨[0, 1], [(.tmp 3)], (.seq (.region [0, 1] [qI 3 (.mv (.c .nils))])
  (.seq (.draw [3] [] [qD 4 (.load false 1 (.t 1)) 0, qD 5 (.mv (.t 0)) 1, qD 6 (.load false 1 (.t 1)) 2, eD 7 (.call 168 [(.t 6)]) 3 [0], eD 8 (.call 170 [(.t 4), (.t 5), (.t 7)]) 4 [], qD 3 (.mv (.t 8)) 5])
  .ret))⟩
theorem cf169 : cF Try.prog Try.f169 = some if169 := by kernel_rfl
/-- loop.example/g01076/impl.commutatorSubgroup -/
def if170 : IFn := ⟨[0, 1, 2], [(.tmp 6)], (.seq (.region [0, 1, 2] [qI 6 (.mv (.c .nils))])
  (.seq (.region [0, 1, 2, 7] [qI 7 (.mv (.c .nils))])
  (.seq (.seq (.region [0, 1, 2, 7, 12, 13, 14] [qI 12 (.mv (.t 1)), qI 13 (.len (.t 12)), qI 14 (.mv (.c (.int .i64 0)))])
  (.block 0 (.loop [0, 1, 2, 7, 12, 13, 14] (.seq (.region [0, 1, 2, 7, 12, 13, 14, 15] [qI 15 (.bin .lss .other (.t 14) (.t 13))])
  (.seq (.cond (.t 15) .skip (.exit 0))
  (.seq (.block 1 (.seq (.region [0, 1, 2, 7, 9, 12, 13, 14] [qI 16 (.indexAddr 1 (.t 12) (.t 14)), qI 17 (.load false 1 (.t 16)), qI 9 (.mv (.t 17))])
  (.seq (.region [0, 1, 2, 7, 9, 12, 13, 14, 18, 19, 20] [qI 18 (.mv (.t 2)), qI 19 (.len (.t 18)), qI 20 (.mv (.c (.int .i64 0)))])
  (.block 2 (.loop [0, 1, 2, 7, 9, 12, 13, 14, 18, 19, 20] (.seq (.region [0, 1, 2, 7, 9, 12, 13, 14, 18, 19, 20, 21] [qI 21 (.bin .lss .other (.t 20) (.t 19))])
  (.seq (.cond (.t 21) .skip (.exit 2))
  (.seq (.block 3 (.seq (.region [0, 1, 2, 7, 9, 11, 12, 13, 14, 18, 19, 20] [qI 22 (.indexAddr 1 (.t 18) (.t 20)), qI 23 (.load false 1 (.t 22)), qI 11 (.mv (.t 23))])
  (.region [0, 1, 2, 7, 9, 12, 13, 14, 18, 19, 20] [qI 24 (.mv (.t 7)), qI 25 (.mv (.t 0)), qI 26 (.mv (.t 9)), qI 27 (.mv (.t 11)), eI 28 (.call 121 [(.t 25), (.t 26), (.t 27)]), eI 29 (.buildSl 1 1 [.nils] [(0, 1, (.t 28))]), eI 30 (.append 1 24 (.t 24) (.t 29)), qI 7 (.mv (.t 30))])))
  (.region [0, 1, 2, 7, 9, 12, 13, 14, 18, 19, 20] [qI 31 (.bin .add .other (.t 20) (.c (.int .i64 1))), qI 20 (.mv (.t 31))])))))))))
  (.region [0, 1, 2, 7, 12, 13, 14] [qI 32 (.bin .add .other (.t 14) (.c (.int .i64 1))), qI 14 (.mv (.t 32))])))))))
  (.seq (.region [6] [qI 33 (.mv (.t 0)), qI 34 (.mv (.t 7)), qI 35 (.mv (.t 1)), qI 36 (.mv (.t 2)), eI 37 (.buildSl 1 2 [.nils] [(0, 1, (.t 35)), (1, 1, (.t 36))]), eI 38 (.call 202 [(.t 37)]), eI 39 (.call 201 [(.t 33), (.t 34), (.t 38)]), qI 6 (.mv (.t 39))])
  .ret))))⟩
theorem cf170 : cF Try.prog Try.f170 = some if170 := by kernel_rfl
/-- loop.example/g01076/spec.l01In -/
def if171 : IFn := ⟨[0, 1, 2], [(.tmp 6)], (.seq (.region [0, 1, 2] [qI 6 (.mv (.c (.bool false)))])
  (.seq (.region [6] [qI 7 (.mv (.t 0)), qI 8 (.mv (.t 1)), qI 9 (.bin .geq .other (.t 7) (.t 8)), qI 10 (.mv (.t 9)), ⟨(some 11), .mv (.t 0), true, (some (10, true))⟩, ⟨(some 12), .mv (.t 2), true, (some (10, true))⟩, ⟨(some 13), .bin .leq .other (.t 11) (.t 12), true, (some (10, true))⟩, qI 14 (.pick (.t 10) (.t 13) (.c (.bool false))), qI 6 (.mv (.t 14))])
  .ret))⟩
theorem cf171 : cF Try.prog Try.f171 = some if171 := by kernel_rfl
/-- loop.example/g01076/spec.l10From -/
def if172 : IFn := ⟨[0, 1, 2], [(.tmp 6)], (.seq (.region [1, 2, 3] [eI 3 (.box (.t 0)), qI 6 (.mv (.c .nils))])
  (.seq (.region [1, 2, 3, 7] [qI 11 (.fieldAddr 0 (.t 3)), qI 12 (.load false 1 (.t 11)), qI 13 (.len (.t 12)), qI 7 (.mv (.t 13))])
  (.seq (.seq (.region [1, 2, 3, 7, 16] [qI 14 (.mv (.t 1)), qI 15 (.mv (.t 7)), qI 16 (.bin .geq .other (.t 14) (.t 15))])
  (.cond (.t 16) (.seq (.region [6] [qI 17 (.mv (.t 7)), eI 18 (.makeSl 1 8 [(.int .i64 0)] (.t 17) (.t 17)), qI 6 (.mv (.t 18))])
  .ret) .skip))
  (.seq (.region [1, 2, 3, 7, 8] [qI 19 (.mv (.t 2)), eI 20 (.call 127 [(.t 19)]), qI 8 (.mv (.t 20))])
  (.seq (.region [1, 2, 3, 7, 8] [qI 21 (.mv (.t 8)), qI 22 (.mv (.t 1)), qI 23 (.indexAddr 1 (.t 21) (.t 22)), nI (.store 1 (.t 23) (.c (.int .i64 0)))])
  (.seq (.region [1, 2, 3, 7, 9] [qI 24 (.load true 3 (.t 3)), qI 25 (.mv (.t 1)), qI 26 (.bin .add .other (.t 25) (.c (.int .i64 1))), qI 27 (.mv (.t 8)), eI 28 (.call 172 [(.t 24), (.t 26), (.t 27)]), qI 9 (.mv (.t 28))])
  (.seq (.seq (.region [1, 2, 3, 7, 9, 33] [qI 29 (.mv (.t 2)), qI 30 (.mv (.t 1)), qI 31 (.indexAddr 1 (.t 29) (.t 30)), qI 32 (.load false 1 (.t 31)), qI 33 (.bin .eql .other (.t 32) (.c (.int .i64 0)))])
  (.cond (.t 33) (.seq (.region [6] [qI 34 (.mv (.t 9)), qI 6 (.mv (.t 34))])
  .ret) .skip))
  (.seq (.region [1, 2, 3, 9, 10] [qI 35 (.mv (.t 7)), eI 36 (.makeSl 1 8 [(.int .i64 0)] (.t 35) (.t 35)), qI 10 (.mv (.t 36))])
  (.seq (.draw [1, 3, 9, 10] [] [qD 37 (.mv (.t 10)) 0, qD 38 (.mv (.t 1)) 1, qD 39 (.fieldAddr 0 (.t 3)) 2, qD 40 (.load false 1 (.t 39)) 3, qD 41 (.mv (.t 1)) 4, qD 42 (.indexAddr 1 (.t 40) (.t 41)) 5, qD 43 (.load false 1 (.t 42)) 6, qD 44 (.mv (.t 2)) 7, qD 45 (.mv (.t 1)) 8, qD 46 (.indexAddr 1 (.t 44) (.t 45)) 9, qD 47 (.load false 1 (.t 46)) 10, qD 48 (.bin .sub .other (.t 43) (.t 47)) 11, qD 49 (.indexAddr 1 (.t 37) (.t 38)) 12, ⟨nI (.store 1 (.t 49) (.t 48)), 13, []⟩])
  (.seq (.draw [6] [] [qD 50 (.load true 3 (.t 3)) 0, qD 51 (.mv (.t 1)) 1, qD 52 (.load true 3 (.t 3)) 2, qD 53 (.mv (.t 1)) 3, qD 54 (.mv (.t 9)) 4, qD 55 (.mv (.t 10)) 5, qD 57 (.load true 3 (.t 3)) 7, qD 58 (.mv (.t 1)) 8, qD 59 (.bin .add .other (.t 58) (.c (.int .i64 1))) 9, qD 60 (.fieldAddr 1 (.t 3)) 10, qD 61 (.load false 1 (.t 60)) 11, qD 62 (.mv (.t 1)) 12, qD 63 (.indexAddr 1 (.t 61) (.t 62)) 13, qD 64 (.load false 1 (.t 63)) 14, eD 56 (.call 183 [(.t 52), (.t 53), (.t 54), (.t 55)]) 6 [0, 7, 11, 14], eD 65 (.call 172 [(.t 57), (.t 59), (.t 64)]) 15 [0], eD 66 (.call 183 [(.t 50), (.t 51), (.t 56), (.t 65)]) 16 [], qD 6 (.mv (.t 66)) 17])
  .ret))))))))))⟩
theorem cf172 : cF Try.prog Try.f172 = some if172 := by kernel_rfl
/-- loop.example/g01076/spec.l10Pow -/
def if173 : IFn := ⟨[0, 1, 2], [(.tmp 6)], (.seq (.region [1, 2, 3] [eI 3 (.box (.t 0)), qI 6 (.mv (.c .nils))])
  (.seq (.seq (.region [1, 2, 3, 8] [qI 7 (.mv (.t 2)), qI 8 (.bin .lss .other (.t 7) (.c (.int .i64 0)))])
  (.cond (.t 8) (.seq (.draw [6] [] [qD 9 (.load true 3 (.t 3)) 0, qD 10 (.load true 3 (.t 3)) 1, qD 11 (.mv (.t 1)) 2, qD 13 (.mv (.t 2)) 4, qD 14 (.un .neg (.t 13)) 5, eD 12 (.call 118 [(.t 10), (.t 11)]) 3 [0], eD 15 (.call 203 [(.t 9), (.c (.int .i64 0)), (.t 12), (.t 14)]) 6 [], qD 6 (.mv (.t 15)) 7])
  .ret) .skip))
  (.seq (.region [6] [qI 16 (.load true 3 (.t 3)), qI 17 (.mv (.t 1)), qI 18 (.mv (.t 2)), eI 19 (.call 203 [(.t 16), (.c (.int .i64 0)), (.t 17), (.t 18)]), qI 6 (.mv (.t 19))])
  .ret)))⟩
theorem cf173 : cF Try.prog Try.f173 = some if173 := by kernel_rfl
/-- loop.example/g01076/spec.l01Mod -/
def if174 : IFn := ⟨[0, 1], [(.tmp 4)], (.seq (.region [0, 1] [qI 4 (.mv (.c (.int .i64 0)))])
  (.seq (.region [1, 5] [qI 6 (.mv (.t 0)), qI 7 (.mv (.t 1)), qI 8 (.bin .rem .other (.t 6) (.t 7)), qI 5 (.mv (.t 8))])
  (.seq (.seq (.region [1, 5, 10] [qI 9 (.mv (.t 5)), qI 10 (.bin .lss .other (.t 9) (.c (.int .i64 0)))])
  (.cond (.t 10) (.region [5] [qI 11 (.mv (.t 5)), qI 12 (.mv (.t 1)), qI 13 (.bin .add .other (.t 11) (.t 12)), qI 5 (.mv (.t 13))]) .skip))
  (.seq (.region [4] [qI 14 (.mv (.t 5)), qI 4 (.mv (.t 14))])
  .ret))))⟩
theorem cf174 : cF Try.prog Try.f174 = some if174 := by kernel_rfl
/-- loop.example/g01076/impl.isExponents -/
def if175 : IFn := ⟨[0, 1], [(.tmp 4)], (.seq (.region [0, 1] [qI 4 (.mv (.c (.bool false)))])
  (.seq (.seq (.region [0, 1, 14] [qI 7 (.mv (.t 1)), qI 8 (.len (.t 7)), qI 9 (.mv (.t 0)), qI 10 (.nilCheck (.t 9)), qI 11 (.fieldAddr 0 (.t 10)), qI 12 (.load false 1 (.t 11)), qI 13 (.len (.t 12)), qI 14 (.bin .neq .other (.t 8) (.t 13))])
  (.cond (.t 14) (.seq (.region [4] [qI 4 (.mv (.c (.bool false)))])
  .ret) .skip))
  (.seq (.seq (.region [0, 15, 16, 17] [qI 15 (.mv (.t 1)), qI 16 (.len (.t 15)), qI 17 (.mv (.c (.int .i64 0)))])
  (.block 0 (.loop [0, 15, 16, 17] (.seq (.region [0, 15, 16, 17, 18] [qI 18 (.bin .lss .other (.t 17) (.t 16))])
  (.seq (.cond (.t 18) .skip (.exit 0))
  (.seq (.block 1 (.seq (.region [0, 5, 6, 15, 16, 17] [qI 19 (.mv (.t 17)), qI 20 (.indexAddr 1 (.t 15) (.t 17)), qI 21 (.load false 1 (.t 20)), qI 5 (.mv (.t 19)), qI 6 (.mv (.t 21))])
  (.seq (.region [0, 15, 16, 17, 32] [qI 22 (.mv (.t 6)), qI 23 (.mv (.t 0)), qI 24 (.nilCheck (.t 23)), qI 25 (.fieldAddr 0 (.t 24)), qI 26 (.load false 1 (.t 25)), qI 27 (.mv (.t 5)), qI 28 (.indexAddr 1 (.t 26) (.t 27)), qI 29 (.load false 1 (.t 28)), qI 30 (.bin .sub .other (.t 29) (.c (.int .i64 1))), eI 31 (.call 204 [(.t 22), (.c (.int .i64 0)), (.t 30)]), qI 32 (.un .not (.t 31))])
  (.cond (.t 32) (.seq (.region [4] [qI 4 (.mv (.c (.bool false)))])
  .ret) .skip))))
  (.region [0, 15, 16, 17] [qI 33 (.bin .add .other (.t 17) (.c (.int .i64 1))), qI 17 (.mv (.t 33))])))))))
  (.seq (.region [4] [qI 4 (.mv (.c (.bool true)))])
  .ret))))⟩
theorem cf175 : cF Try.prog Try.f175 = some if175 := by kernel_rfl
/-- loop.example/g01076/impl.invert -/
def if176 : IFn := ⟨[0, 1], [(.tmp 4)], (.seq (.region [0, 1] [qI 4 (.mv (.c .nils))])
  (.seq (.region [0, 1, 5] [qI 8 (.mv (.t 1)), eI 9 (.call 137 [(.t 8)]), qI 5 (.mv (.t 9))])
  (.seq (.region [0, 5, 6] [qI 10 (.mv (.t 1)), qI 11 (.len (.t 10)), eI 12 (.makeSl 1 8 [(.int .i64 0)] (.t 11) (.t 11)), qI 6 (.mv (.t 12))])
  (.seq (.seq (.region [0, 5, 6, 14, 15] [qI 13 (.mv (.t 5)), qI 14 (.len (.t 13)), qI 15 (.mv (.c (.int .i64 0)))])
  (.block 0 (.loop [0, 5, 6, 14, 15] (.seq (.region [0, 5, 6, 14, 15, 16] [qI 16 (.bin .lss .other (.t 15) (.t 14))])
  (.seq (.cond (.t 16) .skip (.exit 0))
  (.seq (.block 1 (.seq (.region [0, 5, 6, 7, 14, 15] [qI 17 (.mv (.t 15)), qI 7 (.mv (.t 17))])
  (.block 2 (.loop [0, 5, 6, 7, 14, 15] (.seq (.seq (.region [0, 5, 6, 7, 14, 15, 22] [qI 18 (.mv (.t 5)), qI 19 (.mv (.t 7)), qI 20 (.indexAddr 1 (.t 18) (.t 19)), qI 21 (.load false 1 (.t 20)), qI 22 (.bin .neq .other (.t 21) (.c (.int .i64 0)))])
  (.cond (.t 22) .skip (.exit 2)))
  (.block 3 (.seq (.region [0, 5, 6, 7, 14, 15] [qI 23 (.mv (.t 0)), qI 24 (.mv (.t 5)), qI 25 (.mv (.t 7)), eI 26 (.call 135 [(.t 23), (.t 24), (.t 25)])])
  (.region [0, 5, 6, 7, 14, 15] [qI 27 (.mv (.t 0)), qI 28 (.mv (.t 6)), qI 29 (.mv (.t 7)), eI 30 (.call 135 [(.t 27), (.t 28), (.t 29)])]))))))))
  (.region [0, 5, 6, 14, 15] [qI 31 (.bin .add .other (.t 15) (.c (.int .i64 1))), qI 15 (.mv (.t 31))])))))))
  (.seq (.region [4] [qI 32 (.mv (.t 6)), qI 4 (.mv (.t 32))])
  .ret)))))⟩
theorem cf176 : cF Try.prog Try.f176 = some if176 := by kernel_rfl
/-- loop.example/g01076/impl.conjugate -/
def if177 : IFn := ⟨[0, 1, 2], [(.tmp 6)], (.seq (.region [0, 1, 2] [qI 6 (.mv (.c .nils))])
  (.seq (.region [6] [qI 7 (.mv (.t 0)), qI 8 (.mv (.t 0)), qI 9 (.mv (.t 2)), eI 10 (.call 176 [(.t 8), (.t 9)]), qI 11 (.mv (.t 0)), qI 12 (.mv (.t 1)), qI 13 (.mv (.t 2)), eI 14 (.call 122 [(.t 11), (.t 12), (.t 13)]), eI 15 (.call 122 [(.t 7), (.t 10), (.t 14)]), qI 6 (.mv (.t 15))])
  .ret))⟩
theorem cf177 : cF Try.prog Try.f177 = some if177 := by kernel_rfl
/-- loop.example/g01076/impl.timesVector -/
def if178 : IFn := ⟨[0, 1, 2], [], (.seq (.region [0, 1, 8, 9, 10] [qI 8 (.mv (.t 2)), qI 9 (.len (.t 8)), qI 10 (.mv (.c (.int .i64 0)))])
  (.block 0 (.loop [0, 1, 8, 9, 10] (.seq (.region [0, 1, 8, 9, 10, 11] [qI 11 (.bin .lss .other (.t 10) (.t 9))])
  (.seq (.cond (.t 11) .skip (.exit 0))
  (.seq (.block 1 (.seq (.region [0, 1, 6, 7, 8, 9, 10] [qI 12 (.mv (.t 10)), qI 13 (.indexAddr 1 (.t 8) (.t 10)), qI 14 (.load false 1 (.t 13)), qI 6 (.mv (.t 12)), qI 7 (.mv (.t 14))])
  (.seq (.region [0, 1, 6, 8, 9, 10, 15, 16] [qI 15 (.mv (.t 7)), qI 16 (.mv (.c (.int .i64 0)))])
  (.block 2 (.loop [0, 1, 6, 8, 9, 10, 15, 16] (.seq (.region [0, 1, 6, 8, 9, 10, 15, 16, 17] [qI 17 (.bin .lss .other (.t 16) (.t 15))])
  (.seq (.cond (.t 17) .skip (.exit 2))
  (.seq (.block 3 (.region [0, 1, 6, 8, 9, 10, 15, 16] [qI 18 (.mv (.t 0)), qI 19 (.mv (.t 1)), qI 20 (.mv (.t 6)), eI 21 (.call 135 [(.t 18), (.t 19), (.t 20)])]))
  (.region [0, 1, 6, 8, 9, 10, 15, 16] [qI 22 (.bin .add .other (.t 16) (.c (.int .i64 1))), qI 16 (.mv (.t 22))])))))))))
  (.region [0, 1, 8, 9, 10] [qI 23 (.bin .add .other (.t 10) (.c (.int .i64 1))), qI 10 (.mv (.t 23))])))))))⟩
theorem cf178 : cF Try.prog Try.f178 = some if178 := by kernel_rfl
/-- loop.example/g01076/impl.orderOfElement -/
def if179 : IFn := ⟨[0, 1], [(.tmp 4)], (.seq (.region [0, 1] [qI 4 (.mv (.c (.int .i64 0)))])
  (.seq (.region [0, 1, 5] [qI 5 (.mv (.c (.int .i64 1)))])
  (.seq (.seq (.region [0, 5, 6, 7] [qI 8 (.mv (.t 1)), qI 6 (.mv (.c (.int .i64 0))), qI 7 (.mv (.t 8))])
  (.block 0 (.loop [0, 5, 6, 7] (.seq (.seq (.region [0, 5, 6, 7, 11] [qI 9 (.mv (.t 7)), eI 10 (.call 108 [(.t 9)]), qI 11 (.un .not (.t 10))])
  (.cond (.t 11) .skip (.exit 0)))
  (.seq (.block 1 (.seq (.region [0, 5, 6, 7, 18] [qI 14 (.mv (.t 7)), qI 15 (.mv (.t 6)), qI 16 (.indexAddr 1 (.t 14) (.t 15)), qI 17 (.load false 1 (.t 16)), qI 18 (.bin .neq .other (.t 17) (.c (.int .i64 0)))])
  (.cond (.t 18) (.seq (.region [0, 5, 6, 7] [qI 19 (.mv (.t 0)), qI 20 (.mv (.t 7)), qI 21 (.mv (.t 0)), qI 22 (.nilCheck (.t 21)), qI 23 (.fieldAddr 0 (.t 22)), qI 24 (.load false 1 (.t 23)), qI 25 (.mv (.t 6)), qI 26 (.indexAddr 1 (.t 24) (.t 25)), qI 27 (.load false 1 (.t 26)), eI 28 (.call 181 [(.t 19), (.t 20), (.t 27)]), qI 7 (.mv (.t 28))])
  (.region [0, 5, 6, 7] [qI 29 (.mv (.t 5)), qI 30 (.mv (.t 0)), qI 31 (.nilCheck (.t 30)), qI 32 (.fieldAddr 0 (.t 31)), qI 33 (.load false 1 (.t 32)), qI 34 (.mv (.t 6)), qI 35 (.indexAddr 1 (.t 33) (.t 34)), qI 36 (.load false 1 (.t 35)), qI 37 (.bin .mul .other (.t 29) (.t 36)), qI 5 (.mv (.t 37))])) .skip)))
  (.region [0, 5, 6, 7] [qI 12 (.mv (.t 6)), qI 13 (.bin .add .other (.t 12) (.c (.int .i64 1))), qI 6 (.mv (.t 13))]))))))
  (.seq (.region [4] [qI 38 (.mv (.t 5)), qI 4 (.mv (.t 38))])
  .ret))))⟩
theorem cf179 : cF Try.prog Try.f179 = some if179 := by kernel_rfl
/-- loop.example/g01076/impl.residue -/
def if180 : IFn := ⟨[0, 1], [(.tmp 4)], (.seq (.region [0, 1] [qI 4 (.mv (.c (.int .i64 0)))])
  (.seq (.region [4] [qI 5 (.mv (.t 0)), qI 6 (.mv (.t 1)), qI 7 (.bin .rem .other (.t 5) (.t 6)), qI 8 (.mv (.t 1)), qI 9 (.bin .add .other (.t 7) (.t 8)), qI 10 (.mv (.t 1)), qI 11 (.bin .rem .other (.t 9) (.t 10)), qI 4 (.mv (.t 11))])
  .ret))⟩
theorem cf180 : cF Try.prog Try.f180 = some if180 := by kernel_rfl
/-- loop.example/g01076/impl.power -/
def if181 : IFn := ⟨[0, 1, 2], [(.tmp 6)], (.seq (.region [0, 1, 2] [qI 6 (.mv (.c .nils))])
  (.seq (.region [0, 1, 2, 7] [qI 8 (.mv (.t 1)), qI 9 (.len (.t 8)), eI 10 (.makeSl 1 8 [(.int .i64 0)] (.t 9) (.t 9)), qI 7 (.mv (.t 10))])
  (.seq (.seq (.region [0, 1, 7, 11, 12] [qI 11 (.mv (.t 2)), qI 12 (.mv (.c (.int .i64 0)))])
  (.block 0 (.loop [0, 1, 7, 11, 12] (.seq (.region [0, 1, 7, 11, 12, 13] [qI 13 (.bin .lss .other (.t 12) (.t 11))])
  (.seq (.cond (.t 13) .skip (.exit 0))
  (.seq (.block 1 (.region [0, 1, 7, 11, 12] [qI 14 (.mv (.t 0)), qI 15 (.mv (.t 7)), qI 16 (.mv (.t 1)), eI 17 (.call 178 [(.t 14), (.t 15), (.t 16)])]))
  (.region [0, 1, 7, 11, 12] [qI 18 (.bin .add .other (.t 12) (.c (.int .i64 1))), qI 12 (.mv (.t 18))])))))))
  (.seq (.region [6] [qI 19 (.mv (.t 7)), qI 6 (.mv (.t 19))])
  .ret))))⟩
theorem cf181 : cF Try.prog Try.f181 = some if181 := by kernel_rfl
/-- loop.example/g01076/spec.l08Level -/
def if182 : IFn := ⟨[0, 1], [(.cell 4 true 4)], (.seq (.region [1, 2, 4] [eI 2 (.box (.t 0)), eI 4 (.alloc [(.int .i64 0), (.int .i64 0), (.int .i64 0), (.int .i64 0)])])
  (.seq (.region [1, 2, 4, 5] [qI 19 (.fieldAddr 0 (.t 2)), qI 20 (.load false 1 (.t 19)), qI 21 (.len (.t 20)), qI 5 (.mv (.t 21))])
  (.seq (.region [1, 2, 4, 5, 6] [qI 22 (.mv (.t 1)), qI 6 (.mv (.t 22))])
  (.seq (.seq (.region [1, 2, 4, 5, 6, 7] [qI 23 (.mv (.t 1)), qI 24 (.bin .add .other (.t 23) (.c (.int .i64 1))), qI 7 (.mv (.t 24))])
  (.block 0 (.loop [1, 2, 4, 5, 6, 7] (.seq (.seq (.region [1, 2, 4, 5, 6, 7, 27] [qI 25 (.mv (.t 7)), qI 26 (.mv (.t 5)), qI 27 (.bin .lss .other (.t 25) (.t 26))])
  (.cond (.t 27) .skip (.exit 0)))
  (.seq (.block 1 (.seq (.draw [1, 2, 4, 5, 6, 7, 8] [] [qD 30 (.load true 3 (.t 2)) 0, qD 31 (.mv (.t 1)) 1, qD 32 (.bin .add .other (.t 31) (.c (.int .i64 1))) 2, qD 33 (.fieldAddr 2 (.t 2)) 3, qD 34 (.load false 1 (.t 33)) 4, qD 35 (.mv (.t 1)) 5, qD 36 (.indexAddr 1 (.t 34) (.t 35)) 6, qD 37 (.load false 1 (.t 36)) 7, qD 38 (.mv (.t 7)) 8, qD 39 (.mv (.t 1)) 9, qD 40 (.bin .sub .other (.t 38) (.t 39)) 10, qD 41 (.bin .sub .other (.t 40) (.c (.int .i64 1))) 11, qD 42 (.indexAddr 1 (.t 37) (.t 41)) 12, qD 43 (.load false 1 (.t 42)) 13, qD 44 (.fieldAddr 0 (.t 2)) 14, qD 45 (.load false 1 (.t 44)) 15, qD 46 (.mv (.t 7)) 16, qD 47 (.indexAddr 1 (.t 45) (.t 46)) 17, qD 48 (.load false 1 (.t 47)) 18, eD 49 (.call 203 [(.t 30), (.t 32), (.t 43), (.t 48)]) 19 [], qD 8 (.mv (.t 49)) 20])
  (.seq (.draw [1, 2, 4, 5, 6, 7, 60] [] [qD 50 (.mv (.t 8)) 0, qD 51 (.load true 3 (.t 2)) 1, qD 52 (.mv (.t 1)) 2, qD 53 (.fieldAddr 1 (.t 2)) 3, qD 54 (.load false 1 (.t 53)) 4, qD 55 (.mv (.t 7)) 5, qD 56 (.indexAddr 1 (.t 54) (.t 55)) 6, qD 57 (.load false 1 (.t 56)) 7, eD 58 (.call 205 [(.t 51), (.t 52), (.t 57)]) 8 [], eD 59 (.call 153 [(.t 50), (.t 58)]) 9 [], qD 60 (.un .not (.t 59)) 10])
  (.cond (.t 60) (.seq (.region [4] [qI 61 (.mv (.t 6)), qI 62 (.mv (.t 7)), qI 63 (.build [(.int .i64 0), (.int .i64 0), (.int .i64 0), (.int .i64 0)] [(0, 1, (.c (.int .i64 1))), (1, 1, (.t 61)), (2, 1, (.t 62))]), nI (.store 4 (.t 4) (.t 63))])
  .ret) .skip))))
  (.region [1, 2, 4, 5, 6, 7] [qI 28 (.mv (.t 7)), qI 29 (.bin .add .other (.t 28) (.c (.int .i64 1))), qI 7 (.mv (.t 29))]))))))
  (.seq (.seq (.region [1, 2, 4, 5, 6, 9] [qI 64 (.mv (.t 1)), qI 65 (.bin .add .other (.t 64) (.c (.int .i64 1))), qI 9 (.mv (.t 65))])
  (.block 2 (.loop [1, 2, 4, 5, 6, 9] (.seq (.seq (.region [1, 2, 4, 5, 6, 9, 68] [qI 66 (.mv (.t 9)), qI 67 (.mv (.t 5)), qI 68 (.bin .lss .other (.t 66) (.t 67))])
  (.cond (.t 68) .skip (.exit 2)))
  (.seq (.block 3 (.seq (.region [1, 2, 4, 5, 6, 9, 10] [qI 71 (.mv (.t 9)), qI 72 (.bin .add .other (.t 71) (.c (.int .i64 1))), qI 10 (.mv (.t 72))])
  (.block 4 (.loop [1, 2, 4, 5, 6, 9, 10] (.seq (.seq (.region [1, 2, 4, 5, 6, 9, 10, 75] [qI 73 (.mv (.t 10)), qI 74 (.mv (.t 5)), qI 75 (.bin .lss .other (.t 73) (.t 74))])
  (.cond (.t 75) .skip (.exit 4)))
  (.seq (.block 5 (.seq (.draw [1, 2, 4, 5, 6, 9, 10, 11, 12] [] [qD 78 (.fieldAddr 2 (.t 2)) 0, qD 79 (.load false 1 (.t 78)) 1, qD 80 (.mv (.t 1)) 2, qD 81 (.indexAddr 1 (.t 79) (.t 80)) 3, qD 82 (.load false 1 (.t 81)) 4, qD 83 (.mv (.t 9)) 5, qD 84 (.mv (.t 1)) 6, qD 85 (.bin .sub .other (.t 83) (.t 84)) 7, qD 86 (.bin .sub .other (.t 85) (.c (.int .i64 1))) 8, qD 87 (.indexAddr 1 (.t 82) (.t 86)) 9, qD 88 (.load false 1 (.t 87)) 10, qD 89 (.fieldAddr 2 (.t 2)) 11, qD 90 (.load false 1 (.t 89)) 12, qD 91 (.mv (.t 1)) 13, qD 92 (.indexAddr 1 (.t 90) (.t 91)) 14, qD 93 (.load false 1 (.t 92)) 15, qD 94 (.mv (.t 10)) 16, qD 95 (.mv (.t 1)) 17, qD 96 (.bin .sub .other (.t 94) (.t 95)) 18, qD 97 (.bin .sub .other (.t 96) (.c (.int .i64 1))) 19, qD 98 (.indexAddr 1 (.t 93) (.t 97)) 20, qD 99 (.load false 1 (.t 98)) 21, qD 11 (.mv (.t 88)) 22, qD 12 (.mv (.t 99)) 23])
  (.seq (.draw [1, 2, 4, 5, 6, 9, 10, 11, 12, 13] [] [qD 100 (.load true 3 (.t 2)) 0, qD 101 (.mv (.t 1)) 1, qD 102 (.fieldAddr 2 (.t 2)) 2, qD 103 (.load false 1 (.t 102)) 3, qD 104 (.mv (.t 9)) 4, qD 105 (.indexAddr 1 (.t 103) (.t 104)) 5, qD 106 (.load false 1 (.t 105)) 6, qD 107 (.mv (.t 10)) 7, qD 108 (.mv (.t 9)) 8, qD 109 (.bin .sub .other (.t 107) (.t 108)) 9, qD 110 (.bin .sub .other (.t 109) (.c (.int .i64 1))) 10, qD 111 (.indexAddr 1 (.t 106) (.t 110)) 11, qD 112 (.load false 1 (.t 111)) 12, eD 113 (.call 205 [(.t 100), (.t 101), (.t 112)]) 13 [], qD 13 (.mv (.t 113)) 14])
  (.seq (.draw [1, 2, 4, 5, 6, 9, 10, 127] [] [qD 114 (.load true 3 (.t 2)) 0, qD 115 (.mv (.t 1)) 1, qD 116 (.bin .add .other (.t 115) (.c (.int .i64 1))) 2, qD 117 (.mv (.t 12)) 3, qD 118 (.mv (.t 11)) 4, qD 120 (.load true 3 (.t 2)) 6, qD 121 (.mv (.t 1)) 7, qD 122 (.bin .add .other (.t 121) (.c (.int .i64 1))) 8, qD 123 (.mv (.t 11)) 9, qD 124 (.mv (.t 13)) 10, eD 119 (.call 183 [(.t 114), (.t 116), (.t 117), (.t 118)]) 5 [6], eD 125 (.call 183 [(.t 120), (.t 122), (.t 123), (.t 124)]) 11 [], eD 126 (.call 153 [(.t 119), (.t 125)]) 12 [], qD 127 (.un .not (.t 126)) 13])
  (.cond (.t 127) (.seq (.region [4] [qI 128 (.mv (.t 6)), qI 129 (.mv (.t 9)), qI 130 (.mv (.t 10)), qI 131 (.build [(.int .i64 0), (.int .i64 0), (.int .i64 0), (.int .i64 0)] [(0, 1, (.c (.int .i64 2))), (1, 1, (.t 128)), (2, 1, (.t 129)), (3, 1, (.t 130))]), nI (.store 4 (.t 4) (.t 131))])
  .ret) .skip)))))
  (.region [1, 2, 4, 5, 6, 9, 10] [qI 76 (.mv (.t 10)), qI 77 (.bin .add .other (.t 76) (.c (.int .i64 1))), qI 10 (.mv (.t 77))])))))))
  (.region [1, 2, 4, 5, 6, 9] [qI 69 (.mv (.t 9)), qI 70 (.bin .add .other (.t 69) (.c (.int .i64 1))), qI 9 (.mv (.t 70))]))))))
  (.seq (.region [1, 2, 4, 5, 6, 14] [qI 132 (.fieldAddr 1 (.t 2)), qI 133 (.load false 1 (.t 132)), qI 134 (.mv (.t 1)), qI 135 (.indexAddr 1 (.t 133) (.t 134)), qI 136 (.load false 1 (.t 135)), qI 14 (.mv (.t 136))])
  (.seq (.seq (.region [1, 2, 4, 5, 6, 14, 143] [qI 137 (.load true 3 (.t 2)), qI 138 (.mv (.t 1)), qI 139 (.mv (.t 14)), eI 140 (.call 205 [(.t 137), (.t 138), (.t 139)]), qI 141 (.mv (.t 14)), eI 142 (.call 153 [(.t 140), (.t 141)]), qI 143 (.un .not (.t 142))])
  (.cond (.t 143) (.seq (.region [4] [qI 144 (.mv (.t 6)), qI 145 (.build [(.int .i64 0), (.int .i64 0), (.int .i64 0), (.int .i64 0)] [(0, 1, (.c (.int .i64 3))), (1, 1, (.t 144))]), nI (.store 4 (.t 4) (.t 145))])
  .ret) .skip))
  (.seq (.seq (.region [1, 2, 4, 5, 6, 14, 15] [qI 146 (.mv (.t 1)), qI 147 (.bin .add .other (.t 146) (.c (.int .i64 1))), qI 15 (.mv (.t 147))])
  (.block 6 (.loop [1, 2, 4, 5, 6, 14, 15] (.seq (.seq (.region [1, 2, 4, 5, 6, 14, 15, 150] [qI 148 (.mv (.t 15)), qI 149 (.mv (.t 5)), qI 150 (.bin .lss .other (.t 148) (.t 149))])
  (.cond (.t 150) .skip (.exit 6)))
  (.seq (.block 7 (.seq (.region [1, 2, 4, 5, 6, 14, 15, 16] [qI 153 (.mv (.t 5)), qI 154 (.mv (.t 15)), eI 155 (.call 112 [(.t 153), (.t 154)]), qI 16 (.mv (.t 155))])
  (.seq (.region [1, 2, 4, 5, 6, 14, 15, 16, 17] [qI 156 (.mv (.t 16)), qI 17 (.mv (.t 156))])
  (.seq (.seq (.region [1, 2, 4, 5, 6, 14, 15, 16, 17, 18] [qI 18 (.mv (.c (.int .i64 0)))])
  (.block 8 (.loop [1, 2, 4, 5, 6, 14, 15, 16, 17, 18] (.seq (.seq (.region [1, 2, 4, 5, 6, 14, 15, 16, 17, 18, 163] [qI 157 (.mv (.t 18)), qI 158 (.fieldAddr 0 (.t 2)), qI 159 (.load false 1 (.t 158)), qI 160 (.mv (.t 1)), qI 161 (.indexAddr 1 (.t 159) (.t 160)), qI 162 (.load false 1 (.t 161)), qI 163 (.bin .lss .other (.t 157) (.t 162))])
  (.cond (.t 163) .skip (.exit 8)))
  (.seq (.block 9 (.region [1, 2, 4, 5, 6, 14, 15, 16, 17, 18] [qI 166 (.load true 3 (.t 2)), qI 167 (.mv (.t 1)), qI 168 (.mv (.t 17)), eI 169 (.call 205 [(.t 166), (.t 167), (.t 168)]), qI 17 (.mv (.t 169))]))
  (.region [1, 2, 4, 5, 6, 14, 15, 16, 17, 18] [qI 164 (.mv (.t 18)), qI 165 (.bin .add .other (.t 164) (.c (.int .i64 1))), qI 18 (.mv (.t 165))]))))))
  (.seq (.draw [1, 2, 4, 5, 6, 14, 15, 183] [] [qD 170 (.load true 3 (.t 2)) 0, qD 171 (.mv (.t 1)) 1, qD 172 (.bin .add .other (.t 171) (.c (.int .i64 1))) 2, qD 173 (.mv (.t 14)) 3, qD 174 (.mv (.t 17)) 4, qD 176 (.load true 3 (.t 2)) 6, qD 177 (.mv (.t 1)) 7, qD 178 (.bin .add .other (.t 177) (.c (.int .i64 1))) 8, qD 179 (.mv (.t 16)) 9, qD 180 (.mv (.t 14)) 10, eD 175 (.call 183 [(.t 170), (.t 172), (.t 173), (.t 174)]) 5 [6], eD 181 (.call 183 [(.t 176), (.t 178), (.t 179), (.t 180)]) 11 [], eD 182 (.call 153 [(.t 175), (.t 181)]) 12 [], qD 183 (.un .not (.t 182)) 13])
  (.cond (.t 183) (.seq (.region [4] [qI 184 (.mv (.t 6)), qI 185 (.mv (.t 15)), qI 186 (.build [(.int .i64 0), (.int .i64 0), (.int .i64 0), (.int .i64 0)] [(0, 1, (.c (.int .i64 4))), (1, 1, (.t 184)), (2, 1, (.t 185))]), nI (.store 4 (.t 4) (.t 186))])
  .ret) .skip))))))
  (.region [1, 2, 4, 5, 6, 14, 15] [qI 151 (.mv (.t 15)), qI 152 (.bin .add .other (.t 151) (.c (.int .i64 1))), qI 15 (.mv (.t 152))]))))))
  (.seq (.region [4] [qI 187 (.build [(.int .i64 0), (.int .i64 0), (.int .i64 0), (.int .i64 0)] []), nI (.store 4 (.t 4) (.t 187))])
  .ret)))))))))⟩
theorem cf182 : cF Try.prog Try.f182 = some if182 := by kernel_rfl
/-- loop.example/g01076/spec.l08At -/
def if183 : IFn := ⟨[0, 1, 2, 3], [(.tmp 8)], (.seq (.region [1, 2, 3, 4] [eI 4 (.box (.t 0)), qI 8 (.mv (.c .nils))])
  (.seq (.region [1, 2, 3, 4, 9] [qI 16 (.fieldAddr 0 (.t 4)), qI 17 (.load false 1 (.t 16)), qI 18 (.len (.t 17)), qI 9 (.mv (.t 18))])
  (.seq (.seq (.region [1, 2, 3, 4, 9, 21] [qI 19 (.mv (.t 1)), qI 20 (.mv (.t 9)), qI 21 (.bin .geq .other (.t 19) (.t 20))])
  (.cond (.t 21) (.seq (.region [8] [qI 22 (.mv (.t 9)), eI 23 (.makeSl 1 8 [(.int .i64 0)] (.t 22) (.t 22)), qI 8 (.mv (.t 23))])
  .ret) .skip))
  (.seq (.region [1, 2, 3, 4, 10, 11] [qI 24 (.mv (.t 2)), eI 25 (.call 127 [(.t 24)]), qI 26 (.mv (.t 3)), eI 27 (.call 127 [(.t 26)]), qI 10 (.mv (.t 25)), qI 11 (.mv (.t 27))])
  (.seq (.region [1, 2, 3, 4, 10, 11] [qI 28 (.mv (.t 10)), qI 29 (.mv (.t 1)), qI 30 (.indexAddr 1 (.t 28) (.t 29)), nI (.store 1 (.t 30) (.c (.int .i64 0)))])
  (.seq (.region [1, 2, 3, 4, 10, 11] [qI 31 (.mv (.t 11)), qI 32 (.mv (.t 1)), qI 33 (.indexAddr 1 (.t 31) (.t 32)), nI (.store 1 (.t 33) (.c (.int .i64 0)))])
  (.seq (.seq (.region [1, 2, 3, 4, 10, 11, 12] [qI 12 (.mv (.c (.int .i64 0)))])
  (.block 0 (.loop [1, 2, 3, 4, 10, 11, 12] (.seq (.seq (.region [1, 2, 3, 4, 10, 11, 12, 39] [qI 34 (.mv (.t 12)), qI 35 (.mv (.t 3)), qI 36 (.mv (.t 1)), qI 37 (.indexAddr 1 (.t 35) (.t 36)), qI 38 (.load false 1 (.t 37)), qI 39 (.bin .lss .other (.t 34) (.t 38))])
  (.cond (.t 39) .skip (.exit 0)))
  (.seq (.block 1 (.region [1, 2, 3, 4, 10, 11, 12] [qI 42 (.load true 3 (.t 4)), qI 43 (.mv (.t 1)), qI 44 (.mv (.t 10)), eI 45 (.call 205 [(.t 42), (.t 43), (.t 44)]), qI 10 (.mv (.t 45))]))
  (.region [1, 2, 3, 4, 10, 11, 12] [qI 40 (.mv (.t 12)), qI 41 (.bin .add .other (.t 40) (.c (.int .i64 1))), qI 12 (.mv (.t 41))]))))))
  (.seq (.region [1, 2, 3, 4, 13] [qI 46 (.load true 3 (.t 4)), qI 47 (.mv (.t 1)), qI 48 (.bin .add .other (.t 47) (.c (.int .i64 1))), qI 49 (.mv (.t 10)), qI 50 (.mv (.t 11)), eI 51 (.call 183 [(.t 46), (.t 48), (.t 49), (.t 50)]), qI 13 (.mv (.t 51))])
  (.seq (.draw [1, 4, 13, 14] [] [qD 52 (.mv (.t 2)) 0, qD 53 (.mv (.t 1)) 1, qD 54 (.indexAddr 1 (.t 52) (.t 53)) 2, qD 55 (.load false 1 (.t 54)) 3, qD 56 (.mv (.t 3)) 4, qD 57 (.mv (.t 1)) 5, qD 58 (.indexAddr 1 (.t 56) (.t 57)) 6, qD 59 (.load false 1 (.t 58)) 7, qD 60 (.bin .add .other (.t 55) (.t 59)) 8, qD 14 (.mv (.t 60)) 9])
  (.seq (.seq (.region [1, 4, 13, 14, 67] [qI 61 (.mv (.t 14)), qI 62 (.fieldAddr 0 (.t 4)), qI 63 (.load false 1 (.t 62)), qI 64 (.mv (.t 1)), qI 65 (.indexAddr 1 (.t 63) (.t 64)), qI 66 (.load false 1 (.t 65)), qI 67 (.bin .geq .other (.t 61) (.t 66))])
  (.cond (.t 67) (.seq (.region [1, 4, 13, 14] [qI 68 (.mv (.t 14)), qI 69 (.fieldAddr 0 (.t 4)), qI 70 (.load false 1 (.t 69)), qI 71 (.mv (.t 1)), qI 72 (.indexAddr 1 (.t 70) (.t 71)), qI 73 (.load false 1 (.t 72)), qI 74 (.bin .sub .other (.t 68) (.t 73)), qI 14 (.mv (.t 74))])
  (.draw [1, 13, 14] [] [qD 75 (.load true 3 (.t 4)) 0, qD 76 (.mv (.t 1)) 1, qD 77 (.bin .add .other (.t 76) (.c (.int .i64 1))) 2, qD 78 (.fieldAddr 1 (.t 4)) 3, qD 79 (.load false 1 (.t 78)) 4, qD 80 (.mv (.t 1)) 5, qD 81 (.indexAddr 1 (.t 79) (.t 80)) 6, qD 82 (.load false 1 (.t 81)) 7, qD 83 (.mv (.t 13)) 8, eD 84 (.call 183 [(.t 75), (.t 77), (.t 82), (.t 83)]) 9 [], qD 13 (.mv (.t 84)) 10])) .skip))
  (.seq (.region [1, 14, 15] [qI 85 (.mv (.t 13)), eI 86 (.call 127 [(.t 85)]), qI 15 (.mv (.t 86))])
  (.seq (.region [15] [qI 87 (.mv (.t 15)), qI 88 (.mv (.t 1)), qI 89 (.mv (.t 14)), qI 90 (.indexAddr 1 (.t 87) (.t 88)), nI (.store 1 (.t 90) (.t 89))])
  (.seq (.region [8] [qI 91 (.mv (.t 15)), qI 8 (.mv (.t 91))])
  .ret)))))))))))))⟩
theorem cf183 : cF Try.prog Try.f183 = some if183 := by kernel_rfl
/-- slices.IndexFunc[[]int64,int64] -/
def if196 : IFn := ⟨[0, 1], [(.tmp 4)], (.seq (.region [0, 1] [qI 4 (.mv (.c (.int .i64 0)))])
  (.seq (.seq (.region [0, 1, 7, 8] [qI 6 (.mv (.t 0)), qI 7 (.len (.t 6)), qI 8 (.mv (.c (.int .i64 0)))])
  (.block 0 (.loop [0, 1, 7, 8] (.seq (.region [0, 1, 7, 8, 9] [qI 9 (.bin .lss .other (.t 8) (.t 7))])
  (.seq (.cond (.t 9) .skip (.exit 0))
  (.seq (.block 1 (.seq (.region [0, 1, 5, 7, 8] [qI 10 (.mv (.t 8)), qI 5 (.mv (.t 10))])
  (.seq (.region [0, 1, 5, 7, 8, 16] [qI 11 (.mv (.t 1)), qI 12 (.mv (.t 0)), qI 13 (.mv (.t 5)), qI 14 (.indexAddr 1 (.t 12) (.t 13)), qI 15 (.load false 1 (.t 14)), eI 16 (.callV (.t 11) [(.t 15)])])
  (.cond (.t 16) (.seq (.region [4] [qI 17 (.mv (.t 5)), qI 4 (.mv (.t 17))])
  .ret) .skip))))
  (.region [0, 1, 7, 8] [qI 18 (.bin .add .other (.t 8) (.c (.int .i64 1))), qI 8 (.mv (.t 18))])))))))
  (.seq (.region [4] [qI 4 (.mv (.c (.int .i64 (-1))))])
  .ret)))⟩
theorem cf196 : cF Try.prog Try.f196 = some if196 := by kernel_rfl
/-- loop.example/g01076/impl.pivots$1 -/
def if197 : IFn := ⟨[0], [(.tmp 2)], (.seq (.region [0] [qI 2 (.mv (.c (.bool false)))])
  (.seq (.region [2] [qI 3 (.mv (.t 0)), qI 4 (.bin .neq .other (.t 3) (.c (.int .i64 0))), qI 2 (.mv (.t 4))])
  .ret))⟩
theorem cf197 : cF Try.prog Try.f197 = some if197 := by kernel_rfl
/-- loop.example/g01076/impl.imageBy -/
def if198 : IFn := ⟨[0, 1, 2], [(.tmp 6)], (.seq (.region [0, 1, 2] [qI 6 (.mv (.c .nils))])
  (.seq (.region [0, 1, 2, 7] [qI 10 (.mv (.t 2)), qI 11 (.len (.t 10)), eI 12 (.makeSl 1 8 [(.int .i64 0)] (.t 11) (.t 11)), qI 7 (.mv (.t 12))])
  (.seq (.seq (.region [0, 1, 2, 7, 19, 20, 21] [qI 13 (.mv (.t 0)), qI 14 (.nilCheck (.t 13)), qI 15 (.fieldAddr 2 (.t 14)), qI 16 (.load false 1 (.t 15)), qI 17 (.mv (.t 1)), qI 18 (.indexAddr 1 (.t 16) (.t 17)), qI 19 (.load false 1 (.t 18)), qI 20 (.len (.t 19)), qI 21 (.mv (.c (.int .i64 0)))])
  (.block 0 (.loop [0, 1, 2, 7, 19, 20, 21] (.seq (.region [0, 1, 2, 7, 19, 20, 21, 22] [qI 22 (.bin .lss .other (.t 21) (.t 20))])
  (.seq (.cond (.t 22) .skip (.exit 0))
  (.seq (.block 1 (.seq (.region [0, 1, 2, 7, 8, 9, 19, 20, 21] [qI 23 (.mv (.t 21)), qI 24 (.indexAddr 1 (.t 19) (.t 21)), qI 25 (.load false 1 (.t 24)), qI 8 (.mv (.t 23)), qI 9 (.mv (.t 25))])
  (.seq (.region [0, 1, 2, 7, 9, 19, 20, 21, 32, 33] [qI 26 (.mv (.t 2)), qI 27 (.mv (.t 1)), qI 28 (.bin .add .other (.t 27) (.c (.int .i64 1))), qI 29 (.mv (.t 8)), qI 30 (.bin .add .other (.t 28) (.t 29)), qI 31 (.indexAddr 1 (.t 26) (.t 30)), qI 32 (.load false 1 (.t 31)), qI 33 (.mv (.c (.int .i64 0)))])
  (.block 2 (.loop [0, 1, 2, 7, 9, 19, 20, 21, 32, 33] (.seq (.region [0, 1, 2, 7, 9, 19, 20, 21, 32, 33, 34] [qI 34 (.bin .lss .other (.t 33) (.t 32))])
  (.seq (.cond (.t 34) .skip (.exit 2))
  (.seq (.block 3 (.region [0, 1, 2, 7, 9, 19, 20, 21, 32, 33] [qI 35 (.mv (.t 0)), qI 36 (.mv (.t 7)), qI 37 (.mv (.t 9)), eI 38 (.call 178 [(.t 35), (.t 36), (.t 37)])]))
  (.region [0, 1, 2, 7, 9, 19, 20, 21, 32, 33] [qI 39 (.bin .add .other (.t 33) (.c (.int .i64 1))), qI 33 (.mv (.t 39))])))))))))
  (.region [0, 1, 2, 7, 19, 20, 21] [qI 40 (.bin .add .other (.t 21) (.c (.int .i64 1))), qI 21 (.mv (.t 40))])))))))
  (.seq (.region [6] [qI 41 (.mv (.t 7)), qI 6 (.mv (.t 41))])
  .ret))))⟩
theorem cf198 : cF Try.prog Try.f198 = some if198 := by kernel_rfl
/-- loop.example/g01076/impl.sameRows -/
def if199 : IFn := ⟨[0, 1], [(.tmp 4)], (.seq (.region [0, 1] [qI 4 (.mv (.c (.bool false)))])
  (.seq (.region [4] [qI 5 (.mv (.t 0)), qI 6 (.mv (.t 1)), eI 7 (.call 209 [(.t 5), (.t 6), (.c (.clo 159 [] []))]), qI 4 (.mv (.t 7))])
  .ret))⟩
theorem cf199 : cF Try.prog Try.f199 = some if199 := by kernel_rfl
/-- loop.example/g01076/impl.generators -/
def if200 : IFn := ⟨[0], [(.tmp 2)], (.seq (.region [0] [qI 2 (.mv (.c .nils))])
  (.seq (.region [0, 3] [qI 3 (.mv (.c .nils))])
  (.seq (.seq (.region [0, 3, 9, 10] [qI 5 (.mv (.t 0)), qI 6 (.nilCheck (.t 5)), qI 7 (.fieldAddr 0 (.t 6)), qI 8 (.load false 1 (.t 7)), qI 9 (.len (.t 8)), qI 10 (.mv (.c (.int .i64 0)))])
  (.block 0 (.loop [0, 3, 9, 10] (.seq (.region [0, 3, 9, 10, 11] [qI 11 (.bin .lss .other (.t 10) (.t 9))])
  (.seq (.cond (.t 11) .skip (.exit 0))
  (.seq (.block 1 (.seq (.region [0, 3, 4, 9, 10] [qI 12 (.mv (.t 10)), qI 4 (.mv (.t 12))])
  (.region [0, 3, 9, 10] [qI 13 (.mv (.t 3)), qI 14 (.mv (.t 0)), qI 15 (.nilCheck (.t 14)), qI 16 (.fieldAddr 0 (.t 15)), qI 17 (.load false 1 (.t 16)), qI 18 (.len (.t 17)), qI 19 (.mv (.t 4)), eI 20 (.call 98 [(.t 18), (.t 19)]), eI 21 (.buildSl 1 1 [.nils] [(0, 1, (.t 20))]), eI 22 (.append 1 24 (.t 13) (.t 21)), qI 3 (.mv (.t 22))])))
  (.region [0, 3, 9, 10] [qI 23 (.bin .add .other (.t 10) (.c (.int .i64 1))), qI 10 (.mv (.t 23))])))))))
  (.seq (.region [2] [qI 24 (.mv (.t 3)), qI 2 (.mv (.t 24))])
  .ret))))⟩
theorem cf200 : cF Try.prog Try.f200 = some if200 := by kernel_rfl
/-- loop.example/g01076/impl.closure -/
def if201 : IFn := ⟨[0, 1, 2], [(.tmp 6)], (.seq (.region [0, 1, 2] [qI 6 (.mv (.c .nils))])
  (.seq (.region [0, 1, 2, 7] [qI 12 (.mv (.t 0)), eI 13 (.call 210 [(.t 12)]), qI 7 (.mv (.t 13))])
  (.seq (.region [0, 2, 7] [qI 14 (.mv (.t 7)), qI 15 (.mv (.t 1)), eI 16 (.call 211 [(.t 14), (.t 15)])])
  (.seq (.seq (.region [0, 2, 7, 8] [qI 8 (.mv (.c (.bool true)))])
  (.block 0 (.loop [0, 2, 7, 8] (.seq (.seq (.region [0, 2, 7, 17] [qI 17 (.mv (.t 8))])
  (.cond (.t 17) .skip (.exit 0)))
  (.block 1 (.seq (.region [0, 2, 7, 8] [qI 8 (.mv (.c (.bool false)))])
  (.seq (.region [0, 2, 7, 8, 9] [qI 18 (.mv (.t 7)), eI 19 (.call 212 [(.t 18)]), qI 9 (.mv (.t 19))])
  (.seq (.region [0, 2, 7, 8, 9, 20, 21, 22] [qI 20 (.mv (.t 2)), qI 21 (.len (.t 20)), qI 22 (.mv (.c (.int .i64 0)))])
  (.block 2 (.loop [0, 2, 7, 8, 9, 20, 21, 22] (.seq (.region [0, 2, 7, 8, 9, 20, 21, 22, 23] [qI 23 (.bin .lss .other (.t 22) (.t 21))])
  (.seq (.cond (.t 23) .skip (.exit 2))
  (.seq (.block 3 (.seq (.region [0, 2, 7, 8, 9, 11, 20, 21, 22] [qI 24 (.indexAddr 1 (.t 20) (.t 22)), qI 25 (.load false 1 (.t 24)), qI 11 (.mv (.t 25))])
  (.seq (.region [0, 2, 7, 8, 9, 20, 21, 22, 31] [qI 26 (.mv (.t 7)), qI 27 (.mv (.t 0)), qI 28 (.mv (.t 9)), qI 29 (.mv (.t 11)), eI 30 (.call 213 [(.t 27), (.t 28), (.t 29)]), eI 31 (.call 211 [(.t 26), (.t 30)])])
  (.cond (.t 31) (.region [0, 2, 7, 8, 9, 20, 21, 22] [qI 8 (.mv (.c (.bool true)))]) .skip))))
  (.region [0, 2, 7, 8, 9, 20, 21, 22] [qI 32 (.bin .add .other (.t 22) (.c (.int .i64 1))), qI 22 (.mv (.t 32))]))))))))))))))
  (.seq (.region [6] [qI 33 (.mv (.t 7)), eI 34 (.call 212 [(.t 33)]), qI 6 (.mv (.t 34))])
  .ret)))))⟩
theorem cf201 : cF Try.prog Try.f201 = some if201 := by kernel_rfl
/-- slices.Concat[[][]int64,[]int64] -/
def if202 : IFn := ⟨[0], [(.tmp 2)], (.seq (.region [0] [qI 2 (.mv (.c .nils))])
  (.seq (.region [0, 3] [qI 3 (.mv (.c (.int .i64 0)))])
  (.seq (.seq (.region [0, 3, 9, 10, 11] [qI 9 (.mv (.t 0)), qI 10 (.len (.t 9)), qI 11 (.mv (.c (.int .i64 0)))])
  (.block 0 (.loop [0, 3, 9, 10, 11] (.seq (.region [0, 3, 9, 10, 11, 12] [qI 12 (.bin .lss .other (.t 11) (.t 10))])
  (.seq (.cond (.t 12) .skip (.exit 0))
  (.seq (.block 1 (.seq (.region [0, 3, 5, 9, 10, 11] [qI 13 (.indexAddr 1 (.t 9) (.t 11)), qI 14 (.load false 1 (.t 13)), qI 5 (.mv (.t 14))])
  (.seq (.region [0, 3, 9, 10, 11] [qI 15 (.mv (.t 3)), qI 16 (.mv (.t 5)), qI 17 (.len (.t 16)), qI 18 (.bin .add .other (.t 15) (.t 17)), qI 3 (.mv (.t 18))])
  (.seq (.region [0, 3, 9, 10, 11, 20] [qI 19 (.mv (.t 3)), qI 20 (.bin .lss .other (.t 19) (.c (.int .i64 0)))])
  (.cond (.t 20) (.region [] [⟨none, .extract (.c (.bool false)) 0, true, none⟩]) .skip)))))
  (.region [0, 3, 9, 10, 11] [qI 22 (.bin .add .other (.t 11) (.c (.int .i64 1))), qI 11 (.mv (.t 22))])))))))
  (.seq (.region [0, 6] [qI 23 (.mv (.t 3)), eI 24 (.call 214 [(.c .nils), (.t 23)]), qI 6 (.mv (.t 24))])
  (.seq (.seq (.region [6, 25, 26, 27] [qI 25 (.mv (.t 0)), qI 26 (.len (.t 25)), qI 27 (.mv (.c (.int .i64 0)))])
  (.block 2 (.loop [6, 25, 26, 27] (.seq (.region [6, 25, 26, 27, 28] [qI 28 (.bin .lss .other (.t 27) (.t 26))])
  (.seq (.cond (.t 28) .skip (.exit 2))
  (.seq (.block 3 (.seq (.region [6, 8, 25, 26, 27] [qI 29 (.indexAddr 1 (.t 25) (.t 27)), qI 30 (.load false 1 (.t 29)), qI 8 (.mv (.t 30))])
  (.region [6, 25, 26, 27] [qI 31 (.mv (.t 6)), qI 32 (.mv (.t 8)), eI 33 (.append 1 24 (.t 31) (.t 32)), qI 6 (.mv (.t 33))])))
  (.region [6, 25, 26, 27] [qI 34 (.bin .add .other (.t 27) (.c (.int .i64 1))), qI 27 (.mv (.t 34))])))))))
  (.seq (.region [2] [qI 35 (.mv (.t 6)), qI 2 (.mv (.t 35))])
  .ret))))))⟩
theorem cf202 : cF Try.prog Try.f202 = some if202 := by kernel_rfl
/-- loop.example/g01076/spec.l08Repeat -/
def if203 : IFn := ⟨[0, 1, 2, 3], [(.tmp 8)], (.seq (.region [1, 2, 3, 4] [eI 4 (.box (.t 0)), qI 8 (.mv (.c .nils))])
  (.seq (.region [1, 2, 3, 4, 9] [qI 11 (.fieldAddr 0 (.t 4)), qI 12 (.load false 1 (.t 11)), qI 13 (.len (.t 12)), eI 14 (.makeSl 1 8 [(.int .i64 0)] (.t 13) (.t 13)), qI 9 (.mv (.t 14))])
  (.seq (.region [1, 3, 4, 9, 10] [qI 15 (.mv (.t 2)), qI 10 (.mv (.t 15))])
  (.seq (.block 0 (.loop [1, 3, 4, 9, 10] (.seq (.seq (.region [1, 3, 4, 9, 10, 17] [qI 16 (.mv (.t 3)), qI 17 (.bin .gtr .other (.t 16) (.c (.int .i64 0)))])
  (.cond (.t 17) .skip (.exit 0)))
  (.block 1 (.seq (.seq (.region [1, 3, 4, 9, 10, 20] [qI 18 (.mv (.t 3)), qI 19 (.bin .rem .other (.t 18) (.c (.int .i64 2))), qI 20 (.bin .eql .other (.t 19) (.c (.int .i64 1)))])
  (.cond (.t 20) (.region [1, 3, 4, 9, 10] [qI 21 (.load true 3 (.t 4)), qI 22 (.mv (.t 1)), qI 23 (.mv (.t 9)), qI 24 (.mv (.t 10)), eI 25 (.call 183 [(.t 21), (.t 22), (.t 23), (.t 24)]), qI 9 (.mv (.t 25))]) .skip))
  (.seq (.region [1, 3, 4, 9, 10] [qI 26 (.load true 3 (.t 4)), qI 27 (.mv (.t 1)), qI 28 (.mv (.t 10)), qI 29 (.mv (.t 10)), eI 30 (.call 183 [(.t 26), (.t 27), (.t 28), (.t 29)]), qI 10 (.mv (.t 30))])
  (.region [1, 3, 4, 9, 10] [qI 31 (.mv (.t 3)), qI 32 (.bin .quo .other (.t 31) (.c (.int .i64 2))), qI 3 (.mv (.t 32))])))))))
  (.seq (.region [8] [qI 33 (.mv (.t 9)), qI 8 (.mv (.t 33))])
  .ret)))))⟩
theorem cf203 : cF Try.prog Try.f203 = some if203 := by kernel_rfl
/-- loop.example/g01076/impl.inside -/
def if204 : IFn := ⟨[0, 1, 2], [(.tmp 6)], (.seq (.region [0, 1, 2] [qI 6 (.mv (.c (.bool false)))])
  (.seq (.region [6] [qI 7 (.mv (.t 0)), qI 8 (.mv (.t 1)), qI 9 (.bin .geq .other (.t 7) (.t 8)), qI 10 (.mv (.t 9)), ⟨(some 11), .mv (.t 0), true, (some (10, true))⟩, ⟨(some 12), .mv (.t 2), true, (some (10, true))⟩, ⟨(some 13), .bin .leq .other (.t 11) (.t 12), true, (some (10, true))⟩, qI 14 (.pick (.t 10) (.t 13) (.c (.bool false))), qI 6 (.mv (.t 14))])
  .ret))⟩
theorem cf204 : cF Try.prog Try.f204 = some if204 := by kernel_rfl
/-- loop.example/g01076/spec.l08Image -/
def if205 : IFn := ⟨[0, 1, 2], [(.tmp 6)], (.seq (.region [1, 2, 3] [eI 3 (.box (.t 0)), qI 6 (.mv (.c .nils))])
  (.seq (.region [1, 2, 3, 7] [qI 11 (.fieldAddr 0 (.t 3)), qI 12 (.load false 1 (.t 11)), qI 13 (.len (.t 12)), qI 7 (.mv (.t 13))])
  (.seq (.region [1, 2, 3, 7, 8] [qI 14 (.mv (.t 7)), eI 15 (.makeSl 1 8 [(.int .i64 0)] (.t 14) (.t 14)), qI 8 (.mv (.t 15))])
  (.seq (.seq (.region [1, 2, 3, 7, 8, 9] [qI 16 (.mv (.t 1)), qI 17 (.bin .add .other (.t 16) (.c (.int .i64 1))), qI 9 (.mv (.t 17))])
  (.block 0 (.loop [1, 2, 3, 7, 8, 9] (.seq (.seq (.region [1, 2, 3, 7, 8, 9, 20] [qI 18 (.mv (.t 9)), qI 19 (.mv (.t 7)), qI 20 (.bin .lss .other (.t 18) (.t 19))])
  (.cond (.t 20) .skip (.exit 0)))
  (.seq (.block 1 (.seq (.region [1, 2, 3, 7, 8, 9, 10] [qI 10 (.mv (.c (.int .i64 0)))])
  (.block 2 (.loop [1, 2, 3, 7, 8, 9, 10] (.seq (.seq (.region [1, 2, 3, 7, 8, 9, 10, 28] [qI 23 (.mv (.t 10)), qI 24 (.mv (.t 2)), qI 25 (.mv (.t 9)), qI 26 (.indexAddr 1 (.t 24) (.t 25)), qI 27 (.load false 1 (.t 26)), qI 28 (.bin .lss .other (.t 23) (.t 27))])
  (.cond (.t 28) .skip (.exit 2)))
  (.seq (.block 3 (.draw [1, 2, 3, 7, 8, 9, 10] [] [qD 31 (.load true 3 (.t 3)) 0, qD 32 (.mv (.t 1)) 1, qD 33 (.bin .add .other (.t 32) (.c (.int .i64 1))) 2, qD 34 (.mv (.t 8)) 3, qD 35 (.fieldAddr 2 (.t 3)) 4, qD 36 (.load false 1 (.t 35)) 5, qD 37 (.mv (.t 1)) 6, qD 38 (.indexAddr 1 (.t 36) (.t 37)) 7, qD 39 (.load false 1 (.t 38)) 8, qD 40 (.mv (.t 9)) 9, qD 41 (.mv (.t 1)) 10, qD 42 (.bin .sub .other (.t 40) (.t 41)) 11, qD 43 (.bin .sub .other (.t 42) (.c (.int .i64 1))) 12, qD 44 (.indexAddr 1 (.t 39) (.t 43)) 13, qD 45 (.load false 1 (.t 44)) 14, eD 46 (.call 183 [(.t 31), (.t 33), (.t 34), (.t 45)]) 15 [], qD 8 (.mv (.t 46)) 16]))
  (.region [1, 2, 3, 7, 8, 9, 10] [qI 29 (.mv (.t 10)), qI 30 (.bin .add .other (.t 29) (.c (.int .i64 1))), qI 10 (.mv (.t 30))])))))))
  (.region [1, 2, 3, 7, 8, 9] [qI 21 (.mv (.t 9)), qI 22 (.bin .add .other (.t 21) (.c (.int .i64 1))), qI 9 (.mv (.t 22))]))))))
  (.seq (.region [6] [qI 47 (.mv (.t 8)), qI 6 (.mv (.t 47))])
  .ret)))))⟩
theorem cf205 : cF Try.prog Try.f205 = some if205 := by kernel_rfl
/-- slices.EqualFunc[[][]int64,[][]int64,[]int64,[]int64] -/
def if209 : IFn := ⟨[0, 1, 2], [(.tmp 6)], (.seq (.region [0, 1, 2] [qI 6 (.mv (.c (.bool false)))])
  (.seq (.seq (.region [0, 1, 2, 14] [qI 10 (.mv (.t 0)), qI 11 (.len (.t 10)), qI 12 (.mv (.t 1)), qI 13 (.len (.t 12)), qI 14 (.bin .neq .other (.t 11) (.t 13))])
  (.cond (.t 14) (.seq (.region [6] [qI 6 (.mv (.c (.bool false)))])
  .ret) .skip))
  (.seq (.seq (.region [1, 2, 15, 16, 17] [qI 15 (.mv (.t 0)), qI 16 (.len (.t 15)), qI 17 (.mv (.c (.int .i64 0)))])
  (.block 0 (.loop [1, 2, 15, 16, 17] (.seq (.region [1, 2, 15, 16, 17, 18] [qI 18 (.bin .lss .other (.t 17) (.t 16))])
  (.seq (.cond (.t 18) .skip (.exit 0))
  (.seq (.block 1 (.seq (.region [1, 2, 7, 8, 15, 16, 17] [qI 19 (.mv (.t 17)), qI 20 (.indexAddr 1 (.t 15) (.t 17)), qI 21 (.load false 1 (.t 20)), qI 7 (.mv (.t 19)), qI 8 (.mv (.t 21))])
  (.seq (.region [1, 2, 8, 9, 15, 16, 17] [qI 22 (.mv (.t 1)), qI 23 (.mv (.t 7)), qI 24 (.indexAddr 1 (.t 22) (.t 23)), qI 25 (.load false 1 (.t 24)), qI 9 (.mv (.t 25))])
  (.seq (.region [1, 2, 15, 16, 17, 30] [qI 26 (.mv (.t 2)), qI 27 (.mv (.t 8)), qI 28 (.mv (.t 9)), eI 29 (.callV (.t 26) [(.t 27), (.t 28)]), qI 30 (.un .not (.t 29))])
  (.cond (.t 30) (.seq (.region [6] [qI 6 (.mv (.c (.bool false)))])
  .ret) .skip)))))
  (.region [1, 2, 15, 16, 17] [qI 31 (.bin .add .other (.t 17) (.c (.int .i64 1))), qI 17 (.mv (.t 31))])))))))
  (.seq (.region [6] [qI 6 (.mv (.c (.bool true)))])
  .ret))))⟩
theorem cf209 : cF Try.prog Try.f209 = some if209 := by kernel_rfl
/-- loop.example/g01076/impl.newSequence -/
def if210 : IFn := ⟨[0], [(.tmp 2)], (.seq (.region [0] [qI 2 (.mv (.c .nilp))])
  (.seq (.region [2] [qI 3 (.mv (.t 0)), qI 4 (.mv (.t 0)), qI 5 (.nilCheck (.t 4)), qI 6 (.fieldAddr 0 (.t 5)), qI 7 (.load false 1 (.t 6)), qI 8 (.len (.t 7)), eI 9 (.makeSl 1 24 [.nils] (.t 8) (.t 8)), qI 10 (.build [.nilp, .nils] [(0, 1, (.t 3)), (1, 1, (.t 9))]), eI 11 (.box (.t 10)), qI 2 (.mv (.t 11))])
  .ret))⟩
theorem cf210 : cF Try.prog Try.f210 = some if210 := by kernel_rfl
/-- (*loop.example/g01076/impl.sequence).add -/
def if211 : IFn := ⟨[0, 1], [(.tmp 4)], (.seq (.region [0, 1] [qI 4 (.mv (.c (.bool false)))])
  (.seq (.region [0, 1, 5] [qI 5 (.mv (.c (.bool false)))])
  (.seq (.region [0, 5, 6] [qI 13 (.mv (.t 1)), eI 14 (.call 161 [(.t 13)]), qI 6 (.mv (.t 14))])
  (.seq (.block 0 (.loop [0, 5, 6] (.seq (.seq (.region [0, 5, 6, 17] [qI 15 (.mv (.t 6)), qI 16 (.len (.t 15)), qI 17 (.bin .gtr .other (.t 16) (.c (.int .i64 0)))])
  (.cond (.t 17) .skip (.exit 0)))
  (.block 1 (.seq (.region [0, 5, 6, 7] [qI 18 (.mv (.t 0)), qI 19 (.mv (.t 6)), qI 20 (.indexAddr 1 (.t 19) (.c (.int .i64 0))), qI 21 (.load false 1 (.t 20)), eI 22 (.call 215 [(.t 18), (.t 21)]), qI 7 (.mv (.t 22))])
  (.seq (.region [0, 5, 6, 7] [qI 23 (.mv (.t 6)), qI 24 (.slice 1 (.t 23) (some (.c (.int .i64 1))) none none), qI 6 (.mv (.t 24))])
  (.seq (.region [0, 5, 6, 7, 8] [qI 25 (.mv (.t 7)), eI 26 (.call 162 [(.t 25)]), qI 8 (.mv (.t 26))])
  (.seq (.seq (.region [0, 5, 6, 7, 8, 30] [qI 27 (.mv (.t 8)), qI 28 (.mv (.t 7)), qI 29 (.len (.t 28)), qI 30 (.bin .eql .other (.t 27) (.t 29))])
  (.cond (.t 30) (.exit 1) .skip))
  (.seq (.region [0, 5, 6, 7, 8] [qI 5 (.mv (.c (.bool true)))])
  (.seq (.draw [0, 5, 6, 7, 8, 9] [] [qD 32 (.mv (.t 7)) 0, qD 33 (.mv (.t 8)) 1, qD 34 (.indexAddr 1 (.t 32) (.t 33)) 2, qD 35 (.load false 1 (.t 34)) 3, qD 36 (.mv (.t 0)) 4, qD 37 (.nilCheck (.t 36)) 5, qD 38 (.fieldAddr 0 (.t 37)) 6, qD 39 (.load false 1 (.t 38)) 7, qD 40 (.nilCheck (.t 39)) 8, qD 41 (.fieldAddr 0 (.t 40)) 9, qD 42 (.load false 1 (.t 41)) 10, qD 43 (.mv (.t 8)) 11, qD 44 (.indexAddr 1 (.t 42) (.t 43)) 12, qD 45 (.load false 1 (.t 44)) 13, eD 46 (.call 163 [(.t 35), (.t 45)]) 14 [], qD 31 (.mv (.t 46)) 15, qD 47 (.extract (.t 31) 0) 16, qD 48 (.extract (.t 31) 1) 17, qD 9 (.mv (.t 47)) 18, qD 10 (.mv (.t 48)) 19])
  (.seq (.region [0, 5, 6, 7, 8, 9] [qI 49 (.mv (.t 6)), qI 50 (.mv (.t 7)), eI 51 (.buildSl 1 1 [.nils] [(0, 1, (.t 50))]), eI 52 (.append 1 24 (.t 49) (.t 51)), qI 6 (.mv (.t 52))])
  (.seq (.region [0, 5, 6, 7, 8] [qI 53 (.mv (.t 0)), qI 54 (.nilCheck (.t 53)), qI 55 (.fieldAddr 0 (.t 54)), qI 56 (.load false 1 (.t 55)), qI 57 (.mv (.t 7)), qI 58 (.mv (.t 9)), eI 59 (.call 181 [(.t 56), (.t 57), (.t 58)]), qI 7 (.mv (.t 59))])
  (.seq (.draw [0, 5, 6, 7, 8] [] [qD 60 (.mv (.t 6)) 0, qD 61 (.mv (.t 0)) 1, qD 62 (.nilCheck (.t 61)) 2, qD 63 (.fieldAddr 0 (.t 62)) 3, qD 64 (.load false 1 (.t 63)) 4, qD 65 (.mv (.t 7)) 5, qD 66 (.mv (.t 0)) 6, qD 67 (.nilCheck (.t 66)) 7, qD 68 (.fieldAddr 0 (.t 67)) 8, qD 69 (.load false 1 (.t 68)) 9, qD 70 (.nilCheck (.t 69)) 10, qD 71 (.fieldAddr 0 (.t 70)) 11, qD 72 (.load false 1 (.t 71)) 12, qD 73 (.mv (.t 8)) 13, qD 74 (.indexAddr 1 (.t 72) (.t 73)) 14, qD 75 (.load false 1 (.t 74)) 15, eD 76 (.call 181 [(.t 64), (.t 65), (.t 75)]) 16 [], eD 77 (.buildSl 1 1 [.nils] [(0, 1, (.t 76))]) 17 [], eD 78 (.append 1 24 (.t 60) (.t 77)) 18 [], qD 6 (.mv (.t 78)) 19])
  (.seq (.seq (.region [0, 5, 6, 7, 8, 82, 83, 84] [qI 79 (.mv (.t 0)), qI 80 (.nilCheck (.t 79)), qI 81 (.fieldAddr 1 (.t 80)), qI 82 (.load false 1 (.t 81)), qI 83 (.len (.t 82)), qI 84 (.mv (.c (.int .i64 0)))])
  (.block 2 (.loop [0, 5, 6, 7, 8, 82, 83, 84] (.seq (.region [0, 5, 6, 7, 8, 82, 83, 84, 85] [qI 85 (.bin .lss .other (.t 84) (.t 83))])
  (.seq (.cond (.t 85) .skip (.exit 2))
  (.seq (.block 3 (.seq (.region [0, 5, 6, 7, 8, 12, 82, 83, 84] [qI 86 (.indexAddr 1 (.t 82) (.t 84)), qI 87 (.load false 1 (.t 86)), qI 12 (.mv (.t 87))])
  (.seq (.region [0, 5, 6, 7, 8, 12, 82, 83, 84, 89] [qI 88 (.mv (.t 12)), qI 89 (.bin .neq .slice (.t 88) (.c .nils))])
  (.cond (.t 89) (.region [0, 5, 6, 7, 8, 82, 83, 84] [qI 90 (.mv (.t 6)), qI 91 (.mv (.t 0)), qI 92 (.nilCheck (.t 91)), qI 93 (.fieldAddr 0 (.t 92)), qI 94 (.load false 1 (.t 93)), qI 95 (.mv (.t 12)), qI 96 (.mv (.t 7)), eI 97 (.call 121 [(.t 94), (.t 95), (.t 96)]), eI 98 (.buildSl 1 1 [.nils] [(0, 1, (.t 97))]), eI 99 (.append 1 24 (.t 90) (.t 98)), qI 6 (.mv (.t 99))]) .skip))))
  (.region [0, 5, 6, 7, 8, 82, 83, 84] [qI 100 (.bin .add .other (.t 84) (.c (.int .i64 1))), qI 84 (.mv (.t 100))])))))))
  (.region [0, 5, 6] [qI 101 (.mv (.t 0)), qI 102 (.nilCheck (.t 101)), qI 103 (.fieldAddr 1 (.t 102)), qI 104 (.load false 1 (.t 103)), qI 105 (.mv (.t 8)), qI 106 (.mv (.t 7)), qI 107 (.indexAddr 1 (.t 104) (.t 105)), nI (.store 1 (.t 107) (.t 106))])))))))))))))))
  (.seq (.region [4] [qI 108 (.mv (.t 5)), qI 4 (.mv (.t 108))])
  .ret)))))⟩
theorem cf211 : cF Try.prog Try.f211 = some if211 := by kernel_rfl
/-- (*loop.example/g01076/impl.sequence).canonical -/
def if212 : IFn := ⟨[0], [(.tmp 2)], (.seq (.region [0] [qI 2 (.mv (.c .nils))])
  (.seq (.region [0, 3] [qI 3 (.mv (.c .nils))])
  (.seq (.seq (.region [0, 3, 4] [qI 6 (.mv (.t 0)), qI 7 (.nilCheck (.t 6)), qI 8 (.fieldAddr 1 (.t 7)), qI 9 (.load false 1 (.t 8)), qI 10 (.len (.t 9)), qI 11 (.bin .sub .other (.t 10) (.c (.int .i64 1))), qI 4 (.mv (.t 11))])
  (.block 0 (.loop [0, 3, 4] (.seq (.seq (.region [0, 3, 4, 13] [qI 12 (.mv (.t 4)), qI 13 (.bin .geq .other (.t 12) (.c (.int .i64 0)))])
  (.cond (.t 13) .skip (.exit 0)))
  (.seq (.block 1 (.seq (.region [0, 3, 4, 23] [qI 16 (.mv (.t 0)), qI 17 (.nilCheck (.t 16)), qI 18 (.fieldAddr 1 (.t 17)), qI 19 (.load false 1 (.t 18)), qI 20 (.mv (.t 4)), qI 21 (.indexAddr 1 (.t 19) (.t 20)), qI 22 (.load false 1 (.t 21)), qI 23 (.bin .neq .slice (.t 22) (.c .nils))])
  (.cond (.t 23) (.seq (.draw [0, 3, 4, 5] [] [qD 24 (.mv (.t 0)) 0, qD 25 (.nilCheck (.t 24)) 1, qD 26 (.fieldAddr 0 (.t 25)) 2, qD 27 (.load false 1 (.t 26)) 3, qD 28 (.mv (.t 3)) 4, qD 29 (.mv (.t 0)) 5, qD 30 (.nilCheck (.t 29)) 6, qD 31 (.fieldAddr 1 (.t 30)) 7, qD 32 (.load false 1 (.t 31)) 8, qD 33 (.mv (.t 4)) 9, qD 34 (.indexAddr 1 (.t 32) (.t 33)) 10, qD 35 (.load false 1 (.t 34)) 11, eD 36 (.call 216 [(.t 27), (.t 28), (.t 35)]) 12 [], qD 5 (.mv (.t 36)) 13])
  (.region [0, 3, 4] [qI 37 (.mv (.t 5)), eI 38 (.buildSl 1 1 [.nils] [(0, 1, (.t 37))]), qI 39 (.mv (.t 3)), eI 40 (.append 1 24 (.t 38) (.t 39)), qI 3 (.mv (.t 40))])) .skip)))
  (.region [0, 3, 4] [qI 14 (.mv (.t 4)), qI 15 (.bin .sub .other (.t 14) (.c (.int .i64 1))), qI 4 (.mv (.t 15))]))))))
  (.seq (.region [2] [qI 41 (.mv (.t 3)), qI 2 (.mv (.t 41))])
  .ret))))⟩
theorem cf212 : cF Try.prog Try.f212 = some if212 := by kernel_rfl
/-- loop.example/g01076/impl.conjugates -/
def if213 : IFn := ⟨[0, 1, 2], [(.tmp 6)], (.seq (.region [0, 1, 2] [qI 6 (.mv (.c .nils))])
  (.seq (.region [0, 1, 2, 7] [qI 7 (.mv (.c .nils))])
  (.seq (.seq (.region [0, 2, 7, 10, 11, 12] [qI 10 (.mv (.t 1)), qI 11 (.len (.t 10)), qI 12 (.mv (.c (.int .i64 0)))])
  (.block 0 (.loop [0, 2, 7, 10, 11, 12] (.seq (.region [0, 2, 7, 10, 11, 12, 13] [qI 13 (.bin .lss .other (.t 12) (.t 11))])
  (.seq (.cond (.t 13) .skip (.exit 0))
  (.seq (.block 1 (.seq (.region [0, 2, 7, 9, 10, 11, 12] [qI 14 (.indexAddr 1 (.t 10) (.t 12)), qI 15 (.load false 1 (.t 14)), qI 9 (.mv (.t 15))])
  (.region [0, 2, 7, 10, 11, 12] [qI 16 (.mv (.t 7)), qI 17 (.mv (.t 0)), qI 18 (.mv (.t 9)), qI 19 (.mv (.t 2)), eI 20 (.call 177 [(.t 17), (.t 18), (.t 19)]), eI 21 (.buildSl 1 1 [.nils] [(0, 1, (.t 20))]), eI 22 (.append 1 24 (.t 16) (.t 21)), qI 7 (.mv (.t 22))])))
  (.region [0, 2, 7, 10, 11, 12] [qI 23 (.bin .add .other (.t 12) (.c (.int .i64 1))), qI 12 (.mv (.t 23))])))))))
  (.seq (.region [6] [qI 24 (.mv (.t 7)), qI 6 (.mv (.t 24))])
  .ret))))⟩
theorem cf213 : cF Try.prog Try.f213 = some if213 := by kernel_rfl
/-- slices.Grow[[][]int64,[]int64] -/
def if214 : IFn := ⟨[0, 1], [(.tmp 4)], (.seq (.region [0, 1] [qI 4 (.mv (.c .nils))])
  (.seq (.seq (.region [0, 1, 6] [qI 5 (.mv (.t 1)), qI 6 (.bin .lss .other (.t 5) (.c (.int .i64 0)))])
  (.cond (.t 6) (.region [] [⟨none, .extract (.c (.bool false)) 0, true, none⟩]) .skip))
  (.seq (.seq (.region [0, 1] [qI 8 (.mv (.t 1)), qI 9 (.mv (.t 0)), qI 10 (.cap (.t 9)), qI 11 (.mv (.t 0)), qI 12 (.len (.t 11)), qI 13 (.bin .sub .other (.t 10) (.t 12)), qI 14 (.bin .sub .other (.t 8) (.t 13)), qI 1 (.mv (.t 14))])
  (.seq (.region [0, 1, 16] [qI 15 (.mv (.t 1)), qI 16 (.bin .gtr .other (.t 15) (.c (.int .i64 0)))])
  (.cond (.t 16) (.region [0] [qI 17 (.mv (.t 0)), qI 18 (.mv (.t 0)), qI 19 (.cap (.t 18)), qI 20 (.slice 1 (.t 17) none (some (.t 19)) none), qI 21 (.mv (.t 1)), eI 22 (.appendMk 1 24 [.nils] (.t 20) (.t 21)), qI 23 (.mv (.t 0)), qI 24 (.len (.t 23)), qI 25 (.slice 1 (.t 22) none (some (.t 24)) none), qI 0 (.mv (.t 25))]) .skip)))
  (.seq (.region [4] [qI 26 (.mv (.t 0)), qI 4 (.mv (.t 26))])
  .ret))))⟩
theorem cf214 : cF Try.prog Try.f214 = some if214 := by kernel_rfl
/-- (*loop.example/g01076/impl.sequence).sift -/
def if215 : IFn := ⟨[0, 1], [(.tmp 4)], (.seq (.region [0, 1] [qI 4 (.mv (.c .nils))])
  (.seq (.seq (.region [0, 1, 5] [qI 6 (.mv (.t 1)), eI 7 (.call 162 [(.t 6)]), qI 5 (.mv (.t 7))])
  (.block 0 (.loop [0, 1, 5] (.seq (.seq (.region [0, 1, 5, 21] [qI 8 (.mv (.t 5)), qI 9 (.mv (.t 1)), qI 10 (.len (.t 9)), qI 11 (.bin .lss .other (.t 8) (.t 10)), qI 12 (.mv (.t 11)), ⟨(some 13), .mv (.t 0), true, (some (12, true))⟩, ⟨(some 14), .nilCheck (.t 13), true, (some (12, true))⟩, ⟨(some 15), .fieldAddr 1 (.t 14), true, (some (12, true))⟩, ⟨(some 16), .load false 1 (.t 15), true, (some (12, true))⟩, ⟨(some 17), .mv (.t 5), true, (some (12, true))⟩, ⟨(some 18), .indexAddr 1 (.t 16) (.t 17), true, (some (12, true))⟩, ⟨(some 19), .load false 1 (.t 18), true, (some (12, true))⟩, ⟨(some 20), .bin .neq .slice (.t 19) (.c .nils), true, (some (12, true))⟩, qI 21 (.pick (.t 12) (.t 20) (.c (.bool false)))])
  (.cond (.t 21) .skip (.exit 0)))
  (.seq (.block 1 (.seq (.draw [0, 1, 5] [] [qD 24 (.mv (.t 0)) 0, qD 25 (.nilCheck (.t 24)) 1, qD 26 (.fieldAddr 0 (.t 25)) 2, qD 27 (.load false 1 (.t 26)) 3, qD 28 (.mv (.t 0)) 4, qD 29 (.nilCheck (.t 28)) 5, qD 30 (.fieldAddr 0 (.t 29)) 6, qD 31 (.load false 1 (.t 30)) 7, qD 32 (.mv (.t 0)) 8, qD 33 (.nilCheck (.t 32)) 9, qD 34 (.fieldAddr 1 (.t 33)) 10, qD 35 (.load false 1 (.t 34)) 11, qD 36 (.mv (.t 5)) 12, qD 37 (.indexAddr 1 (.t 35) (.t 36)) 13, qD 38 (.load false 1 (.t 37)) 14, qD 39 (.mv (.t 0)) 15, qD 40 (.nilCheck (.t 39)) 16, qD 41 (.fieldAddr 0 (.t 40)) 17, qD 42 (.load false 1 (.t 41)) 18, qD 43 (.nilCheck (.t 42)) 19, qD 44 (.fieldAddr 0 (.t 43)) 20, qD 45 (.load false 1 (.t 44)) 21, qD 46 (.mv (.t 5)) 22, qD 47 (.indexAddr 1 (.t 45) (.t 46)) 23, qD 48 (.load false 1 (.t 47)) 24, qD 49 (.mv (.t 1)) 25, qD 50 (.mv (.t 5)) 26, qD 51 (.indexAddr 1 (.t 49) (.t 50)) 27, qD 52 (.load false 1 (.t 51)) 28, qD 53 (.bin .sub .other (.t 48) (.t 52)) 29, qD 55 (.mv (.t 1)) 31, eD 54 (.call 181 [(.t 31), (.t 38), (.t 53)]) 30 [3], eD 56 (.call 122 [(.t 27), (.t 54), (.t 55)]) 32 [], qD 1 (.mv (.t 56)) 33])
  (.seq (.region [0, 1, 5, 61] [qI 57 (.mv (.t 1)), qI 58 (.mv (.t 5)), qI 59 (.indexAddr 1 (.t 57) (.t 58)), qI 60 (.load false 1 (.t 59)), qI 61 (.bin .neq .other (.t 60) (.c (.int .i64 0)))])
  (.cond (.t 61) (.draw [0, 1] [] [qD 62 (.mv (.t 0)) 0, qD 63 (.nilCheck (.t 62)) 1, qD 64 (.fieldAddr 0 (.t 63)) 2, qD 65 (.load false 1 (.t 64)) 3, qD 66 (.mv (.t 0)) 4, qD 67 (.nilCheck (.t 66)) 5, qD 68 (.fieldAddr 0 (.t 67)) 6, qD 69 (.load false 1 (.t 68)) 7, qD 70 (.mv (.t 0)) 8, qD 71 (.nilCheck (.t 70)) 9, qD 72 (.fieldAddr 1 (.t 71)) 10, qD 73 (.load false 1 (.t 72)) 11, qD 74 (.mv (.t 5)) 12, qD 75 (.indexAddr 1 (.t 73) (.t 74)) 13, qD 76 (.load false 1 (.t 75)) 14, qD 77 (.mv (.t 0)) 15, qD 78 (.nilCheck (.t 77)) 16, qD 79 (.fieldAddr 0 (.t 78)) 17, qD 80 (.load false 1 (.t 79)) 18, qD 81 (.nilCheck (.t 80)) 19, qD 82 (.fieldAddr 0 (.t 81)) 20, qD 83 (.load false 1 (.t 82)) 21, qD 84 (.mv (.t 5)) 22, qD 85 (.indexAddr 1 (.t 83) (.t 84)) 23, qD 86 (.load false 1 (.t 85)) 24, qD 87 (.mv (.t 1)) 25, qD 88 (.mv (.t 5)) 26, qD 89 (.indexAddr 1 (.t 87) (.t 88)) 27, qD 90 (.load false 1 (.t 89)) 28, qD 91 (.bin .sub .other (.t 86) (.t 90)) 29, qD 93 (.mv (.t 1)) 31, eD 92 (.call 181 [(.t 69), (.t 76), (.t 91)]) 30 [3], eD 94 (.call 122 [(.t 65), (.t 92), (.t 93)]) 32 [], qD 1 (.mv (.t 94)) 33]) .skip))))
  (.region [0, 1, 5] [qI 22 (.mv (.t 1)), eI 23 (.call 162 [(.t 22)]), qI 5 (.mv (.t 23))]))))))
  (.seq (.region [4] [qI 95 (.mv (.t 1)), qI 4 (.mv (.t 95))])
  .ret)))⟩
theorem cf215 : cF Try.prog Try.f215 = some if215 := by kernel_rfl
/-- loop.example/g01076/impl.representative -/
def if216 : IFn := ⟨[0, 1, 2], [(.tmp 6)], (.seq (.region [0, 1, 2] [qI 6 (.mv (.c .nils))])
  (.seq (.region [0, 1, 7] [qI 10 (.mv (.t 2)), eI 11 (.call 137 [(.t 10)]), qI 7 (.mv (.t 11))])
  (.seq (.seq (.region [0, 1, 7, 13, 14, 15] [qI 12 (.mv (.t 1)), eI 13 (.call 164 [(.t 12)]), qI 14 (.len (.t 13)), qI 15 (.mv (.c (.int .i64 0)))])
  (.block 0 (.loop [0, 1, 7, 13, 14, 15] (.seq (.region [0, 1, 7, 13, 14, 15, 16] [qI 16 (.bin .lss .other (.t 15) (.t 14))])
  (.seq (.cond (.t 16) .skip (.exit 0))
  (.seq (.block 1 (.seq (.region [0, 1, 7, 8, 9, 13, 14, 15] [qI 17 (.mv (.t 15)), qI 18 (.indexAddr 1 (.t 13) (.t 15)), qI 19 (.load false 1 (.t 18)), qI 8 (.mv (.t 17)), qI 9 (.mv (.t 19))])
  (.block 2 (.loop [0, 1, 7, 8, 9, 13, 14, 15] (.seq (.seq (.region [0, 1, 7, 8, 9, 13, 14, 15, 24] [qI 20 (.mv (.t 7)), qI 21 (.mv (.t 9)), qI 22 (.indexAddr 1 (.t 20) (.t 21)), qI 23 (.load false 1 (.t 22)), qI 24 (.bin .neq .other (.t 23) (.c (.int .i64 0)))])
  (.cond (.t 24) .skip (.exit 2)))
  (.block 3 (.region [0, 1, 7, 8, 9, 13, 14, 15] [qI 25 (.mv (.t 0)), qI 26 (.mv (.t 7)), qI 27 (.mv (.t 1)), qI 28 (.mv (.t 8)), qI 29 (.indexAddr 1 (.t 27) (.t 28)), qI 30 (.load false 1 (.t 29)), eI 31 (.call 178 [(.t 25), (.t 26), (.t 30)])])))))))
  (.region [0, 1, 7, 13, 14, 15] [qI 32 (.bin .add .other (.t 15) (.c (.int .i64 1))), qI 15 (.mv (.t 32))])))))))
  (.seq (.region [6] [qI 33 (.mv (.t 7)), qI 6 (.mv (.t 33))])
  .ret))))⟩
theorem cf216 : cF Try.prog Try.f216 = some if216 := by kernel_rfl
end Go.Proofs
