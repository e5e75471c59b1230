/- The compiled forms of the functions, each held against the program by the kernel. Written by program. -/
import Derived.Test.YtpkibanhkjboeaaHAbPy
import Derived.Test.YtpkibanhkjboeaaChecked
namespace Go.Proofs
open Go.Ab
theorem mix : Try.prog.follows .mixedOrders = true := by kernel_rfl
/-- loop.example/g01076/laws.szPresentation -/
def if12 : IFn := ⟨[0, 1], [(.tmp 4)], (.seq (.region [1, 2] [eI 2 (.box (.t 0)), qI 4 (.mv (.c (.int .i64 0)))])
  (.seq (.region [1, 2] [qI 5 (.fieldAddr 0 (.t 2)), qI 6 (.load false 1 (.t 5)), qI 7 (.mv (.t 1)), eI 8 (.call 56 [(.t 6), (.t 7)]), qI 1 (.mv (.t 8))])
  (.seq (.seq (.region [1, 2, 10] [qI 9 (.mv (.t 1)), qI 10 (.bin .lss .other (.t 9) (.c (.int .i64 0)))])
  (.cond (.t 10) (.seq (.region [4] [qI 4 (.mv (.c (.int .i64 (-1))))])
  .ret) .skip))
  (.seq (.region [1, 2] [qI 11 (.fieldAddr 1 (.t 2)), qI 12 (.load false 1 (.t 11)), qI 13 (.mv (.t 1)), eI 14 (.call 45 [(.t 12), (.t 13)]), qI 1 (.mv (.t 14))])
  (.seq (.seq (.region [1, 2, 16] [qI 15 (.mv (.t 1)), qI 16 (.bin .lss .other (.t 15) (.c (.int .i64 0)))])
  (.cond (.t 16) (.seq (.region [4] [qI 4 (.mv (.c (.int .i64 (-1))))])
  .ret) .skip))
  (.seq (.region [1] [qI 17 (.fieldAddr 2 (.t 2)), qI 18 (.load false 1 (.t 17)), qI 19 (.mv (.t 1)), eI 20 (.call 57 [(.t 18), (.t 19)]), qI 1 (.mv (.t 20))])
  (.seq (.seq (.region [1, 22] [qI 21 (.mv (.t 1)), qI 22 (.bin .lss .other (.t 21) (.c (.int .i64 0)))])
  (.cond (.t 22) (.seq (.region [4] [qI 4 (.mv (.c (.int .i64 (-1))))])
  .ret) .skip))
  (.seq (.region [4] [qI 23 (.mv (.t 1)), qI 4 (.mv (.t 23))])
  .ret))))))))⟩
theorem cf12 : cF Try.prog Try.f12 = some if12 := by kernel_rfl
/-- loop.example/g01076/laws.szModule -/
def if13 : IFn := ⟨[0, 1], [(.tmp 4)], (.seq (.region [1, 2] [eI 2 (.box (.t 0)), qI 4 (.mv (.c (.int .i64 0)))])
  (.seq (.region [1] [qI 5 (.fieldAddr 2 (.t 2)), qI 6 (.load false 1 (.t 5)), qI 7 (.mv (.t 1)), eI 8 (.call 57 [(.t 6), (.t 7)]), qI 1 (.mv (.t 8))])
  (.seq (.seq (.region [1, 10] [qI 9 (.mv (.t 1)), qI 10 (.bin .lss .other (.t 9) (.c (.int .i64 0)))])
  (.cond (.t 10) (.seq (.region [4] [qI 4 (.mv (.c (.int .i64 (-1))))])
  .ret) .skip))
  (.seq (.region [4] [qI 11 (.mv (.t 1)), qI 4 (.mv (.t 11))])
  .ret))))⟩
theorem cf13 : cF Try.prog Try.f13 = some if13 := by kernel_rfl
/-- loop.example/g01076/spec.IsModule -/
def if14 : IFn := ⟨[0, 1], [(.tmp 4)], (.seq (.region [2, 3] [eI 2 (.box (.t 0)), eI 3 (.box (.t 1)), qI 4 (.mv (.c (.bool false)))])
  (.seq (.region [4] [qI 5 (.load true 3 (.t 2)), eI 6 (.call 58 [(.t 5)]), qI 7 (.mv (.t 6)), ⟨(some 8), .load true 3 (.t 2), true, (some (7, true))⟩, ⟨(some 9), .load true 3 (.t 3), true, (some (7, true))⟩, ⟨(some 10), .call 59 [(.t 8), (.t 9)], false, (some (7, true))⟩, qI 11 (.pick (.t 7) (.t 10) (.c (.bool false))), qI 4 (.mv (.t 11))])
  .ret))⟩
theorem cf14 : cF Try.prog Try.f14 = some if14 := by kernel_rfl
/-- loop.example/g01076/laws.toPresentation -/
def if15 : IFn := ⟨[0], [(.cell 2 true 3)], (.seq (.region [1, 2] [eI 1 (.box (.t 0)), eI 2 (.alloc [.nils, .nils, .nils])])
  (.seq (.region [1, 2, 3] [eI 3 (.alloc [.nils, .nils, .nils])])
  (.seq (.region [1, 2, 3] [qI 4 (.fieldAddr 0 (.t 1)), qI 5 (.load false 1 (.t 4)), eI 6 (.call 21 [(.t 5)]), qI 7 (.fieldAddr 0 (.t 3)), nI (.store 1 (.t 7) (.t 6))])
  (.seq (.region [1, 2, 3] [qI 8 (.fieldAddr 1 (.t 1)), qI 9 (.load false 1 (.t 8)), eI 10 (.call 47 [(.t 9)]), qI 11 (.fieldAddr 1 (.t 3)), nI (.store 1 (.t 11) (.t 10))])
  (.seq (.region [2, 3] [qI 12 (.fieldAddr 2 (.t 1)), qI 13 (.load false 1 (.t 12)), eI 14 (.call 60 [(.t 13)]), qI 15 (.fieldAddr 2 (.t 3)), nI (.store 1 (.t 15) (.t 14))])
  (.seq (.region [2] [qI 16 (.load true 3 (.t 3)), nI (.store 3 (.t 2) (.t 16))])
  .ret))))))⟩
theorem cf15 : cF Try.prog Try.f15 = some if15 := by kernel_rfl
/-- loop.example/g01076/laws.toModule -/
def if16 : IFn := ⟨[0], [(.cell 2 true 3)], (.seq (.region [1, 2] [eI 1 (.box (.t 0)), eI 2 (.alloc [(.int .i64 0), (.int .i64 0), .nils])])
  (.seq (.region [1, 2, 3] [eI 3 (.alloc [(.int .i64 0), (.int .i64 0), .nils])])
  (.seq (.region [1, 2, 3] [qI 4 (.fieldAddr 0 (.t 1)), qI 5 (.load false 1 (.t 4)), qI 6 (.fieldAddr 0 (.t 3)), nI (.store 1 (.t 6) (.t 5))])
  (.seq (.region [1, 2, 3] [qI 7 (.fieldAddr 1 (.t 1)), qI 8 (.load false 1 (.t 7)), qI 9 (.fieldAddr 1 (.t 3)), nI (.store 1 (.t 9) (.t 8))])
  (.seq (.region [2, 3] [qI 10 (.fieldAddr 2 (.t 1)), qI 11 (.load false 1 (.t 10)), eI 12 (.call 60 [(.t 11)]), qI 13 (.fieldAddr 2 (.t 3)), nI (.store 1 (.t 13) (.t 12))])
  (.seq (.region [2] [qI 14 (.load true 3 (.t 3)), nI (.store 3 (.t 2) (.t 14))])
  .ret))))))⟩
theorem cf16 : cF Try.prog Try.f16 = some if16 := by kernel_rfl
/-- loop.example/g01076/laws.eqPresentation -/
def if18 : IFn := ⟨[0, 1], [(.tmp 4)], (.seq (.region [2, 3] [eI 2 (.box (.t 0)), eI 3 (.box (.t 1)), qI 4 (.mv (.c (.bool false)))])
  (.seq (.seq (.region [2, 3, 10] [qI 5 (.fieldAddr 0 (.t 2)), qI 6 (.load false 1 (.t 5)), qI 7 (.fieldAddr 0 (.t 3)), qI 8 (.load false 1 (.t 7)), eI 9 (.call 23 [(.t 6), (.t 8)]), qI 10 (.un .not (.t 9))])
  (.cond (.t 10) (.seq (.region [4] [qI 4 (.mv (.c (.bool false)))])
  .ret) .skip))
  (.seq (.seq (.region [2, 3, 16] [qI 11 (.fieldAddr 1 (.t 2)), qI 12 (.load false 1 (.t 11)), qI 13 (.fieldAddr 1 (.t 3)), qI 14 (.load false 1 (.t 13)), eI 15 (.call 42 [(.t 12), (.t 14)]), qI 16 (.un .not (.t 15))])
  (.cond (.t 16) (.seq (.region [4] [qI 4 (.mv (.c (.bool false)))])
  .ret) .skip))
  (.seq (.seq (.region [22] [qI 17 (.fieldAddr 2 (.t 2)), qI 18 (.load false 1 (.t 17)), qI 19 (.fieldAddr 2 (.t 3)), qI 20 (.load false 1 (.t 19)), eI 21 (.call 62 [(.t 18), (.t 20)]), qI 22 (.un .not (.t 21))])
  (.cond (.t 22) (.seq (.region [4] [qI 4 (.mv (.c (.bool false)))])
  .ret) .skip))
  (.seq (.region [4] [qI 4 (.mv (.c (.bool true)))])
  .ret)))))⟩
theorem cf18 : cF Try.prog Try.f18 = some if18 := by kernel_rfl
/-- loop.example/g01076/laws.eqModule -/
def if19 : IFn := ⟨[0, 1], [(.tmp 4)], (.seq (.region [2, 3] [eI 2 (.box (.t 0)), eI 3 (.box (.t 1)), qI 4 (.mv (.c (.bool false)))])
  (.seq (.seq (.region [2, 3, 9] [qI 5 (.fieldAddr 0 (.t 2)), qI 6 (.load false 1 (.t 5)), qI 7 (.fieldAddr 0 (.t 3)), qI 8 (.load false 1 (.t 7)), qI 9 (.bin .neq .other (.t 6) (.t 8))])
  (.cond (.t 9) (.seq (.region [4] [qI 4 (.mv (.c (.bool false)))])
  .ret) .skip))
  (.seq (.seq (.region [2, 3, 14] [qI 10 (.fieldAddr 1 (.t 2)), qI 11 (.load false 1 (.t 10)), qI 12 (.fieldAddr 1 (.t 3)), qI 13 (.load false 1 (.t 12)), qI 14 (.bin .neq .other (.t 11) (.t 13))])
  (.cond (.t 14) (.seq (.region [4] [qI 4 (.mv (.c (.bool false)))])
  .ret) .skip))
  (.seq (.seq (.region [20] [qI 15 (.fieldAddr 2 (.t 2)), qI 16 (.load false 1 (.t 15)), qI 17 (.fieldAddr 2 (.t 3)), qI 18 (.load false 1 (.t 17)), eI 19 (.call 62 [(.t 16), (.t 18)]), qI 20 (.un .not (.t 19))])
  (.cond (.t 20) (.seq (.region [4] [qI 4 (.mv (.c (.bool false)))])
  .ret) .skip))
  (.seq (.region [4] [qI 4 (.mv (.c (.bool true)))])
  .ret)))))⟩
theorem cf19 : cF Try.prog Try.f19 = some if19 := by kernel_rfl
/-- loop.example/g01076/laws.toInt64S -/
def if21 : IFn := ⟨[0], [(.tmp 2)], (.seq (.region [0] [qI 2 (.mv (.c .nils))])
  (.seq (.region [0, 3] [qI 5 (.mv (.t 0)), qI 6 (.len (.t 5)), eI 7 (.makeSl 1 8 [(.int .i64 0)] (.t 6) (.t 6)), qI 3 (.mv (.t 7))])
  (.seq (.seq (.region [0, 3, 4] [qI 4 (.mv (.c (.int .i64 0)))])
  (.block 0 (.loop [0, 3, 4] (.seq (.seq (.region [0, 3, 4, 11] [qI 8 (.mv (.t 4)), qI 9 (.mv (.t 0)), qI 10 (.len (.t 9)), qI 11 (.bin .lss .other (.t 8) (.t 10))])
  (.cond (.t 11) .skip (.exit 0)))
  (.seq (.block 1 (.region [0, 3, 4] [qI 14 (.mv (.t 3)), qI 15 (.mv (.t 4)), qI 16 (.mv (.t 0)), qI 17 (.mv (.t 4)), qI 18 (.indexAddr 1 (.t 16) (.t 17)), qI 19 (.load false 1 (.t 18)), qI 20 (.indexAddr 1 (.t 14) (.t 15)), nI (.store 1 (.t 20) (.t 19))]))
  (.region [0, 3, 4] [qI 12 (.mv (.t 4)), qI 13 (.bin .add .other (.t 12) (.c (.int .i64 1))), qI 4 (.mv (.t 13))]))))))
  (.seq (.region [2] [qI 21 (.mv (.t 3)), qI 2 (.mv (.t 21))])
  .ret))))⟩
theorem cf21 : cF Try.prog Try.f21 = some if21 := by kernel_rfl
/-- loop.example/g01076/laws.eqInt64S -/
def if23 : IFn := ⟨[0, 1], [(.tmp 4)], (.seq (.region [0, 1] [qI 4 (.mv (.c (.bool false)))])
  (.seq (.seq (.region [0, 1, 10] [qI 6 (.mv (.t 0)), qI 7 (.len (.t 6)), qI 8 (.mv (.t 1)), qI 9 (.len (.t 8)), qI 10 (.bin .neq .other (.t 7) (.t 9))])
  (.cond (.t 10) (.seq (.region [4] [qI 4 (.mv (.c (.bool false)))])
  .ret) .skip))
  (.seq (.seq (.region [0, 1, 5] [qI 5 (.mv (.c (.int .i64 0)))])
  (.block 0 (.loop [0, 1, 5] (.seq (.seq (.region [0, 1, 5, 14] [qI 11 (.mv (.t 5)), qI 12 (.mv (.t 0)), qI 13 (.len (.t 12)), qI 14 (.bin .lss .other (.t 11) (.t 13))])
  (.cond (.t 14) .skip (.exit 0)))
  (.seq (.block 1 (.seq (.draw [0, 1, 5, 25] [] [qD 17 (.mv (.t 0)) 0, qD 18 (.mv (.t 5)) 1, qD 19 (.indexAddr 1 (.t 17) (.t 18)) 2, qD 20 (.load false 1 (.t 19)) 3, qD 21 (.mv (.t 1)) 4, qD 22 (.mv (.t 5)) 5, qD 23 (.indexAddr 1 (.t 21) (.t 22)) 6, qD 24 (.load false 1 (.t 23)) 7, qD 25 (.bin .neq .other (.t 20) (.t 24)) 8])
  (.cond (.t 25) (.seq (.region [4] [qI 4 (.mv (.c (.bool false)))])
  .ret) .skip)))
  (.region [0, 1, 5] [qI 15 (.mv (.t 5)), qI 16 (.bin .add .other (.t 15) (.c (.int .i64 1))), qI 5 (.mv (.t 16))]))))))
  (.seq (.region [4] [qI 4 (.mv (.c (.bool true)))])
  .ret))))⟩
theorem cf23 : cF Try.prog Try.f23 = some if23 := by kernel_rfl
/-- loop.example/g01076/laws.markPresentation -/
def if24 : IFn := ⟨[0, 1], [(.tmp 4)], (.seq (.region [1, 2] [eI 2 (.box (.t 0)), qI 4 (.mv (.c (.int .i64 0)))])
  (.seq (.region [1, 2] [qI 5 (.fieldAddr 0 (.t 2)), qI 6 (.load false 1 (.t 5)), qI 7 (.mv (.t 1)), eI 8 (.call 26 [(.t 6), (.t 7)]), qI 1 (.mv (.t 8))])
  (.seq (.region [1, 2] [qI 9 (.fieldAddr 1 (.t 2)), qI 10 (.load false 1 (.t 9)), qI 11 (.mv (.t 1)), eI 12 (.call 43 [(.t 10), (.t 11)]), qI 1 (.mv (.t 12))])
  (.seq (.region [1] [qI 13 (.fieldAddr 2 (.t 2)), qI 14 (.load false 1 (.t 13)), qI 15 (.mv (.t 1)), eI 16 (.call 72 [(.t 14), (.t 15)]), qI 1 (.mv (.t 16))])
  (.seq (.region [4] [qI 17 (.mv (.t 1)), qI 4 (.mv (.t 17))])
  .ret)))))⟩
theorem cf24 : cF Try.prog Try.f24 = some if24 := by kernel_rfl
/-- loop.example/g01076/laws.markModule -/
def if25 : IFn := ⟨[0, 1], [(.tmp 4)], (.seq (.region [1, 2] [eI 2 (.box (.t 0)), qI 4 (.mv (.c (.int .i64 0)))])
  (.seq (.region [1] [qI 5 (.fieldAddr 2 (.t 2)), qI 6 (.load false 1 (.t 5)), qI 7 (.mv (.t 1)), eI 8 (.call 72 [(.t 6), (.t 7)]), qI 1 (.mv (.t 8))])
  (.seq (.region [4] [qI 9 (.mv (.t 1)), qI 4 (.mv (.t 9))])
  .ret)))⟩
theorem cf25 : cF Try.prog Try.f25 = some if25 := by kernel_rfl
/-- loop.example/g01076/laws.markInt64S -/
def if26 : IFn := ⟨[0, 1], [(.tmp 4)], (.seq (.region [0, 1] [qI 4 (.mv (.c (.int .i64 0)))])
  (.seq (.seq (.region [0, 1, 5] [qI 5 (.mv (.c (.int .i64 0)))])
  (.block 0 (.loop [0, 1, 5] (.seq (.seq (.region [0, 1, 5, 9] [qI 6 (.mv (.t 5)), qI 7 (.mv (.t 0)), qI 8 (.len (.t 7)), qI 9 (.bin .lss .other (.t 6) (.t 8))])
  (.cond (.t 9) .skip (.exit 0)))
  (.seq (.block 1 (.seq (.region [0, 1, 5] [qI 12 (.mv (.t 0)), qI 13 (.mv (.t 5)), qI 14 (.mv (.t 1)), qI 15 (.indexAddr 1 (.t 12) (.t 13)), nI (.store 1 (.t 15) (.t 14))])
  (.region [0, 1, 5] [qI 16 (.mv (.t 1)), qI 17 (.bin .add .other (.t 16) (.c (.int .i64 1))), qI 1 (.mv (.t 17))])))
  (.region [0, 1, 5] [qI 10 (.mv (.t 5)), qI 11 (.bin .add .other (.t 10) (.c (.int .i64 1))), qI 5 (.mv (.t 11))]))))))
  (.seq (.region [4] [qI 18 (.mv (.t 1)), qI 4 (.mv (.t 18))])
  .ret)))⟩
theorem cf26 : cF Try.prog Try.f26 = some if26 := by kernel_rfl
/-- loop.example/g01076/laws.heldInt64S -/
def if27 : IFn := ⟨[0, 1], [(.tmp 4)], (.seq (.region [0, 1] [qI 4 (.mv (.c (.int .i64 0)))])
  (.seq (.seq (.region [0, 1, 5] [qI 5 (.mv (.c (.int .i64 0)))])
  (.block 0 (.loop [0, 1, 5] (.seq (.seq (.region [0, 1, 5, 9] [qI 6 (.mv (.t 5)), qI 7 (.mv (.t 0)), qI 8 (.len (.t 7)), qI 9 (.bin .lss .other (.t 6) (.t 8))])
  (.cond (.t 9) .skip (.exit 0)))
  (.seq (.block 1 (.seq (.seq (.region [0, 1, 5, 17] [qI 12 (.mv (.t 0)), qI 13 (.mv (.t 5)), qI 14 (.indexAddr 1 (.t 12) (.t 13)), qI 15 (.load false 1 (.t 14)), qI 16 (.mv (.t 1)), qI 17 (.bin .neq .other (.t 15) (.t 16))])
  (.cond (.t 17) (.seq (.region [4] [qI 4 (.mv (.c (.int .i64 (-1))))])
  .ret) .skip))
  (.region [0, 1, 5] [qI 18 (.mv (.t 1)), qI 19 (.bin .add .other (.t 18) (.c (.int .i64 1))), qI 1 (.mv (.t 19))])))
  (.region [0, 1, 5] [qI 10 (.mv (.t 5)), qI 11 (.bin .add .other (.t 10) (.c (.int .i64 1))), qI 5 (.mv (.t 11))]))))))
  (.seq (.region [4] [qI 20 (.mv (.t 1)), qI 4 (.mv (.t 20))])
  .ret)))⟩
theorem cf27 : cF Try.prog Try.f27 = some if27 := by kernel_rfl
/-- loop.example/g01076/spec.TensorModule -/
def if37 : IFn := ⟨[0, 1, 2], [(.cell 6 true 3), (.tmp 7)], (.seq (.region [3, 4, 5, 6] [eI 3 (.box (.t 0)), eI 4 (.box (.t 1)), eI 5 (.box (.t 2)), eI 6 (.alloc [(.int .i64 0), (.int .i64 0), .nils]), qI 7 (.mv (.c (.int .i64 0)))])
  (.seq (.seq (.region [4, 5, 6, 8] [qI 17 (.load true 3 (.t 3)), qI 18 (.load true 3 (.t 4)), qI 19 (.load true 3 (.t 5)), eI 20 (.call 78 [(.t 17), (.t 18), (.t 19)]), qI 8 (.mv (.t 20))])
  (.seq (.region [4, 5, 6, 8, 22] [qI 21 (.mv (.t 8)), qI 22 (.bin .neq .other (.t 21) (.c (.int .i64 0)))])
  (.cond (.t 22) (.seq (.region [6, 7] [qI 23 (.build [(.int .i64 0), (.int .i64 0), .nils] []), qI 24 (.mv (.t 8)), nI (.store 3 (.t 6) (.t 23)), qI 7 (.mv (.t 24))])
  .ret) .skip)))
  (.seq (.seq (.region [4, 5, 6, 30] [qI 25 (.fieldAddr 1 (.t 4)), qI 26 (.load false 1 (.t 25)), qI 27 (.fieldAddr 1 (.t 5)), qI 28 (.load false 1 (.t 27)), qI 29 (.bin .mul .other (.t 26) (.t 28)), qI 30 (.bin .gtr .other (.t 29) (.c (.int .i64 3)))])
  (.cond (.t 30) (.seq (.region [6, 7] [qI 31 (.build [(.int .i64 0), (.int .i64 0), .nils] []), nI (.store 3 (.t 6) (.t 31)), qI 7 (.mv (.c (.int .i64 3)))])
  .ret) .skip))
  (.seq (.region [4, 5, 6, 9] [qI 32 (.fieldAddr 0 (.t 4)), qI 33 (.load false 1 (.t 32)), qI 34 (.fieldAddr 1 (.t 4)), qI 35 (.load false 1 (.t 34)), qI 36 (.fieldAddr 1 (.t 5)), qI 37 (.load false 1 (.t 36)), qI 38 (.bin .mul .other (.t 35) (.t 37)), eI 39 (.buildSl 1 0 [.nils] []), qI 40 (.build [(.int .i64 0), (.int .i64 0), .nils] [(0, 1, (.t 33)), (1, 1, (.t 38)), (2, 1, (.t 39))]), eI 9 (.alloc [(.int .i64 0), (.int .i64 0), .nils]), nI (.store 3 (.t 9) (.t 40))])
  (.seq (.seq (.region [4, 5, 6, 9, 10] [qI 10 (.mv (.c (.int .i64 0)))])
  (.block 0 (.loop [4, 5, 6, 9, 10] (.seq (.seq (.region [4, 5, 6, 9, 10, 45] [qI 41 (.mv (.t 10)), qI 42 (.fieldAddr 2 (.t 4)), qI 43 (.load false 1 (.t 42)), qI 44 (.len (.t 43)), qI 45 (.bin .lss .other (.t 41) (.t 44))])
  (.cond (.t 45) .skip (.exit 0)))
  (.seq (.block 1 (.seq (.region [4, 5, 6, 9, 10, 11] [eI 48 (.buildSl 1 0 [.nils] []), qI 11 (.mv (.t 48))])
  (.seq (.seq (.region [4, 5, 6, 9, 10, 11, 12] [qI 12 (.mv (.c (.int .i64 0)))])
  (.block 2 (.loop [4, 5, 6, 9, 10, 11, 12] (.seq (.seq (.region [4, 5, 6, 9, 10, 11, 12, 52] [qI 49 (.mv (.t 12)), qI 50 (.fieldAddr 1 (.t 4)), qI 51 (.load false 1 (.t 50)), qI 52 (.bin .lss .other (.t 49) (.t 51))])
  (.cond (.t 52) .skip (.exit 2)))
  (.seq (.block 3 (.seq (.region [4, 5, 6, 9, 10, 11, 12, 13] [qI 13 (.mv (.c (.int .i64 0)))])
  (.block 4 (.loop [4, 5, 6, 9, 10, 11, 12, 13] (.seq (.seq (.region [4, 5, 6, 9, 10, 11, 12, 13, 58] [qI 55 (.mv (.t 13)), qI 56 (.fieldAddr 1 (.t 5)), qI 57 (.load false 1 (.t 56)), qI 58 (.bin .lss .other (.t 55) (.t 57))])
  (.cond (.t 58) .skip (.exit 4)))
  (.seq (.block 5 (.seq (.region [4, 5, 6, 9, 10, 11, 12, 13, 14] [eI 61 (.buildSl 1 0 [(.int .i64 0)] []), qI 14 (.mv (.t 61))])
  (.seq (.seq (.region [4, 5, 6, 9, 10, 11, 12, 13, 14, 15] [qI 15 (.mv (.c (.int .i64 0)))])
  (.block 6 (.loop [4, 5, 6, 9, 10, 11, 12, 13, 14, 15] (.seq (.seq (.region [4, 5, 6, 9, 10, 11, 12, 13, 14, 15, 65] [qI 62 (.mv (.t 15)), qI 63 (.fieldAddr 1 (.t 4)), qI 64 (.load false 1 (.t 63)), qI 65 (.bin .lss .other (.t 62) (.t 64))])
  (.cond (.t 65) .skip (.exit 6)))
  (.seq (.block 7 (.seq (.region [4, 5, 6, 9, 10, 11, 12, 13, 14, 15, 16] [qI 16 (.mv (.c (.int .i64 0)))])
  (.block 8 (.loop [4, 5, 6, 9, 10, 11, 12, 13, 14, 15, 16] (.seq (.seq (.region [4, 5, 6, 9, 10, 11, 12, 13, 14, 15, 16, 71] [qI 68 (.mv (.t 16)), qI 69 (.fieldAddr 1 (.t 5)), qI 70 (.load false 1 (.t 69)), qI 71 (.bin .lss .other (.t 68) (.t 70))])
  (.cond (.t 71) .skip (.exit 8)))
  (.seq (.block 9 (.draw [4, 5, 6, 9, 10, 11, 12, 13, 14, 15, 16] [] [qD 74 (.mv (.t 14)) 0, qD 75 (.fieldAddr 2 (.t 4)) 1, qD 76 (.load false 1 (.t 75)) 2, qD 77 (.mv (.t 10)) 3, qD 78 (.indexAddr 1 (.t 76) (.t 77)) 4, qD 79 (.load false 1 (.t 78)) 5, qD 80 (.mv (.t 12)) 6, qD 81 (.indexAddr 1 (.t 79) (.t 80)) 7, qD 82 (.load false 1 (.t 81)) 8, qD 83 (.mv (.t 15)) 9, qD 84 (.indexAddr 1 (.t 82) (.t 83)) 10, qD 85 (.load false 1 (.t 84)) 11, qD 86 (.fieldAddr 2 (.t 5)) 12, qD 87 (.load false 1 (.t 86)) 13, qD 88 (.mv (.t 10)) 14, qD 89 (.indexAddr 1 (.t 87) (.t 88)) 15, qD 90 (.load false 1 (.t 89)) 16, qD 91 (.mv (.t 13)) 17, qD 92 (.indexAddr 1 (.t 90) (.t 91)) 18, qD 93 (.load false 1 (.t 92)) 19, qD 94 (.mv (.t 16)) 20, qD 95 (.indexAddr 1 (.t 93) (.t 94)) 21, qD 96 (.load false 1 (.t 95)) 22, qD 97 (.bin .mul .other (.t 85) (.t 96)) 23, qD 98 (.fieldAddr 0 (.t 4)) 24, qD 99 (.load false 1 (.t 98)) 25, qD 100 (.bin .rem .other (.t 97) (.t 99)) 26, eD 101 (.buildSl 1 1 [(.int .i64 0)] [(0, 1, (.t 100))]) 27 [], eD 102 (.append 1 8 (.t 74) (.t 101)) 28 [], qD 14 (.mv (.t 102)) 29]))
  (.region [4, 5, 6, 9, 10, 11, 12, 13, 14, 15, 16] [qI 72 (.mv (.t 16)), qI 73 (.bin .add .other (.t 72) (.c (.int .i64 1))), qI 16 (.mv (.t 73))])))))))
  (.region [4, 5, 6, 9, 10, 11, 12, 13, 14, 15] [qI 66 (.mv (.t 15)), qI 67 (.bin .add .other (.t 66) (.c (.int .i64 1))), qI 15 (.mv (.t 67))]))))))
  (.region [4, 5, 6, 9, 10, 11, 12, 13] [qI 103 (.mv (.t 11)), qI 104 (.mv (.t 14)), eI 105 (.buildSl 1 1 [.nils] [(0, 1, (.t 104))]), eI 106 (.append 1 24 (.t 103) (.t 105)), qI 11 (.mv (.t 106))]))))
  (.region [4, 5, 6, 9, 10, 11, 12, 13] [qI 59 (.mv (.t 13)), qI 60 (.bin .add .other (.t 59) (.c (.int .i64 1))), qI 13 (.mv (.t 60))])))))))
  (.region [4, 5, 6, 9, 10, 11, 12] [qI 53 (.mv (.t 12)), qI 54 (.bin .add .other (.t 53) (.c (.int .i64 1))), qI 12 (.mv (.t 54))]))))))
  (.region [4, 5, 6, 9, 10] [qI 107 (.fieldAddr 2 (.t 9)), qI 108 (.load false 1 (.t 107)), qI 109 (.mv (.t 11)), eI 110 (.buildSl 1 1 [.nils] [(0, 1, (.t 109))]), eI 111 (.append 1 24 (.t 108) (.t 110)), qI 112 (.fieldAddr 2 (.t 9)), nI (.store 1 (.t 112) (.t 111))]))))
  (.region [4, 5, 6, 9, 10] [qI 46 (.mv (.t 10)), qI 47 (.bin .add .other (.t 46) (.c (.int .i64 1))), qI 10 (.mv (.t 47))]))))))
  (.seq (.region [6, 7] [qI 113 (.load true 3 (.t 9)), nI (.store 3 (.t 6) (.t 113)), qI 7 (.mv (.c (.int .i64 0)))])
  .ret))))))⟩
theorem cf37 : cF Try.prog Try.f37 = some if37 := by kernel_rfl
/-- loop.example/g01076/impl.TensorModule -/
def if38 : IFn := ⟨[0, 1, 2], [(.cell 6 true 3), (.tmp 7)], (.seq (.region [3, 4, 5, 6] [eI 3 (.box (.t 0)), eI 4 (.box (.t 1)), eI 5 (.box (.t 2)), eI 6 (.alloc [(.int .i64 0), (.int .i64 0), .nils]), qI 7 (.mv (.c (.int .i64 0)))])
  (.seq (.seq (.region [3, 4, 5, 6, 8] [eI 21 (.call 79 [(.t 3), (.t 4), (.t 5)]), qI 8 (.mv (.t 21))])
  (.seq (.region [3, 4, 5, 6, 8, 23] [qI 22 (.mv (.t 8)), qI 23 (.bin .neq .other (.t 22) (.c (.int .i64 0)))])
  (.cond (.t 23) (.seq (.region [6, 7] [qI 24 (.build [(.int .i64 0), (.int .i64 0), .nils] []), qI 25 (.mv (.t 8)), nI (.store 3 (.t 6) (.t 24)), qI 7 (.mv (.t 25))])
  .ret) .skip)))
  (.seq (.seq (.region [3, 4, 5, 6, 31] [qI 26 (.fieldAddr 1 (.t 4)), qI 27 (.load false 1 (.t 26)), qI 28 (.fieldAddr 1 (.t 5)), qI 29 (.load false 1 (.t 28)), qI 30 (.bin .mul .other (.t 27) (.t 29)), qI 31 (.bin .gtr .other (.t 30) (.c (.int .i64 3)))])
  (.cond (.t 31) (.seq (.region [6, 7] [qI 32 (.build [(.int .i64 0), (.int .i64 0), .nils] []), nI (.store 3 (.t 6) (.t 32)), qI 7 (.mv (.c (.int .i64 3)))])
  .ret) .skip))
  (.seq (.region [3, 4, 5, 6, 9] [qI 33 (.fieldAddr 0 (.t 4)), qI 34 (.load false 1 (.t 33)), qI 35 (.fieldAddr 1 (.t 4)), qI 36 (.load false 1 (.t 35)), qI 37 (.fieldAddr 1 (.t 5)), qI 38 (.load false 1 (.t 37)), qI 39 (.bin .mul .other (.t 36) (.t 38)), qI 40 (.build [(.int .i64 0), (.int .i64 0), .nils] [(0, 1, (.t 34)), (1, 1, (.t 39))]), eI 9 (.alloc [(.int .i64 0), (.int .i64 0), .nils]), nI (.store 3 (.t 9) (.t 40))])
  (.seq (.seq (.region [4, 5, 6, 9, 43, 44] [qI 41 (.fieldAddr 0 (.t 3)), qI 42 (.load false 1 (.t 41)), qI 43 (.len (.t 42)), qI 44 (.mv (.c (.int .i64 0)))])
  (.block 0 (.loop [4, 5, 6, 9, 43, 44] (.seq (.region [4, 5, 6, 9, 43, 44, 45] [qI 45 (.bin .lss .other (.t 44) (.t 43))])
  (.seq (.cond (.t 45) .skip (.exit 0))
  (.seq (.block 1 (.seq (.region [4, 5, 6, 9, 10, 43, 44] [qI 46 (.mv (.t 44)), qI 10 (.mv (.t 46))])
  (.seq (.region [4, 5, 6, 9, 10, 11, 43, 44] [qI 11 (.mv (.c .nils))])
  (.seq (.seq (.region [4, 5, 6, 9, 10, 11, 43, 44, 51, 52, 53] [qI 47 (.fieldAddr 2 (.t 4)), qI 48 (.load false 1 (.t 47)), qI 49 (.mv (.t 10)), qI 50 (.indexAddr 1 (.t 48) (.t 49)), qI 51 (.load false 1 (.t 50)), qI 52 (.len (.t 51)), qI 53 (.mv (.c (.int .i64 0)))])
  (.block 2 (.loop [4, 5, 6, 9, 10, 11, 43, 44, 51, 52, 53] (.seq (.region [4, 5, 6, 9, 10, 11, 43, 44, 51, 52, 53, 54] [qI 54 (.bin .lss .other (.t 53) (.t 52))])
  (.seq (.cond (.t 54) .skip (.exit 2))
  (.seq (.block 3 (.seq (.region [4, 5, 6, 9, 10, 11, 13, 43, 44, 51, 52, 53] [qI 55 (.indexAddr 1 (.t 51) (.t 53)), qI 56 (.load false 1 (.t 55)), qI 13 (.mv (.t 56))])
  (.seq (.region [4, 5, 6, 9, 10, 11, 13, 43, 44, 51, 52, 53, 61, 62, 63] [qI 57 (.fieldAddr 2 (.t 5)), qI 58 (.load false 1 (.t 57)), qI 59 (.mv (.t 10)), qI 60 (.indexAddr 1 (.t 58) (.t 59)), qI 61 (.load false 1 (.t 60)), qI 62 (.len (.t 61)), qI 63 (.mv (.c (.int .i64 0)))])
  (.block 4 (.loop [4, 5, 6, 9, 10, 11, 13, 43, 44, 51, 52, 53, 61, 62, 63] (.seq (.region [4, 5, 6, 9, 10, 11, 13, 43, 44, 51, 52, 53, 61, 62, 63, 64] [qI 64 (.bin .lss .other (.t 63) (.t 62))])
  (.seq (.cond (.t 64) .skip (.exit 4))
  (.seq (.block 5 (.seq (.region [4, 5, 6, 9, 10, 11, 13, 15, 43, 44, 51, 52, 53, 61, 62, 63] [qI 65 (.indexAddr 1 (.t 61) (.t 63)), qI 66 (.load false 1 (.t 65)), qI 15 (.mv (.t 66))])
  (.seq (.region [4, 5, 6, 9, 10, 11, 13, 15, 16, 43, 44, 51, 52, 53, 61, 62, 63] [qI 16 (.mv (.c .nils))])
  (.seq (.seq (.region [4, 5, 6, 9, 10, 11, 13, 15, 16, 43, 44, 51, 52, 53, 61, 62, 63, 67, 68, 69] [qI 67 (.mv (.t 13)), qI 68 (.len (.t 67)), qI 69 (.mv (.c (.int .i64 0)))])
  (.block 6 (.loop [4, 5, 6, 9, 10, 11, 13, 15, 16, 43, 44, 51, 52, 53, 61, 62, 63, 67, 68, 69] (.seq (.region [4, 5, 6, 9, 10, 11, 13, 15, 16, 43, 44, 51, 52, 53, 61, 62, 63, 67, 68, 69, 70] [qI 70 (.bin .lss .other (.t 69) (.t 68))])
  (.seq (.cond (.t 70) .skip (.exit 6))
  (.seq (.block 7 (.seq (.region [4, 5, 6, 9, 10, 11, 13, 15, 16, 18, 43, 44, 51, 52, 53, 61, 62, 63, 67, 68, 69] [qI 71 (.indexAddr 1 (.t 67) (.t 69)), qI 72 (.load false 1 (.t 71)), qI 18 (.mv (.t 72))])
  (.seq (.region [4, 5, 6, 9, 10, 11, 13, 15, 16, 18, 43, 44, 51, 52, 53, 61, 62, 63, 67, 68, 69, 73, 74, 75] [qI 73 (.mv (.t 15)), qI 74 (.len (.t 73)), qI 75 (.mv (.c (.int .i64 0)))])
  (.block 8 (.loop [4, 5, 6, 9, 10, 11, 13, 15, 16, 18, 43, 44, 51, 52, 53, 61, 62, 63, 67, 68, 69, 73, 74, 75] (.seq (.region [4, 5, 6, 9, 10, 11, 13, 15, 16, 18, 43, 44, 51, 52, 53, 61, 62, 63, 67, 68, 69, 73, 74, 75, 76] [qI 76 (.bin .lss .other (.t 75) (.t 74))])
  (.seq (.cond (.t 76) .skip (.exit 8))
  (.seq (.block 9 (.seq (.region [4, 5, 6, 9, 10, 11, 13, 15, 16, 18, 20, 43, 44, 51, 52, 53, 61, 62, 63, 67, 68, 69, 73, 74, 75] [qI 77 (.indexAddr 1 (.t 73) (.t 75)), qI 78 (.load false 1 (.t 77)), qI 20 (.mv (.t 78))])
  (.region [4, 5, 6, 9, 10, 11, 13, 15, 16, 18, 43, 44, 51, 52, 53, 61, 62, 63, 67, 68, 69, 73, 74, 75] [qI 79 (.mv (.t 16)), qI 80 (.mv (.t 18)), qI 81 (.mv (.t 20)), qI 82 (.bin .mul .other (.t 80) (.t 81)), qI 83 (.fieldAddr 0 (.t 4)), qI 84 (.load false 1 (.t 83)), qI 85 (.bin .rem .other (.t 82) (.t 84)), eI 86 (.buildSl 1 1 [(.int .i64 0)] [(0, 1, (.t 85))]), eI 87 (.append 1 8 (.t 79) (.t 86)), qI 16 (.mv (.t 87))])))
  (.region [4, 5, 6, 9, 10, 11, 13, 15, 16, 18, 43, 44, 51, 52, 53, 61, 62, 63, 67, 68, 69, 73, 74, 75] [qI 88 (.bin .add .other (.t 75) (.c (.int .i64 1))), qI 75 (.mv (.t 88))])))))))))
  (.region [4, 5, 6, 9, 10, 11, 13, 15, 16, 43, 44, 51, 52, 53, 61, 62, 63, 67, 68, 69] [qI 89 (.bin .add .other (.t 69) (.c (.int .i64 1))), qI 69 (.mv (.t 89))])))))))
  (.region [4, 5, 6, 9, 10, 11, 13, 43, 44, 51, 52, 53, 61, 62, 63] [qI 90 (.mv (.t 11)), qI 91 (.mv (.t 16)), eI 92 (.buildSl 1 1 [.nils] [(0, 1, (.t 91))]), eI 93 (.append 1 24 (.t 90) (.t 92)), qI 11 (.mv (.t 93))])))))
  (.region [4, 5, 6, 9, 10, 11, 13, 43, 44, 51, 52, 53, 61, 62, 63] [qI 94 (.bin .add .other (.t 63) (.c (.int .i64 1))), qI 63 (.mv (.t 94))])))))))))
  (.region [4, 5, 6, 9, 10, 11, 43, 44, 51, 52, 53] [qI 95 (.bin .add .other (.t 53) (.c (.int .i64 1))), qI 53 (.mv (.t 95))])))))))
  (.region [4, 5, 6, 9, 43, 44] [qI 96 (.fieldAddr 2 (.t 9)), qI 97 (.load false 1 (.t 96)), qI 98 (.mv (.t 11)), eI 99 (.buildSl 1 1 [.nils] [(0, 1, (.t 98))]), eI 100 (.append 1 24 (.t 97) (.t 99)), qI 101 (.fieldAddr 2 (.t 9)), nI (.store 1 (.t 101) (.t 100))])))))
  (.region [4, 5, 6, 9, 43, 44] [qI 102 (.bin .add .other (.t 44) (.c (.int .i64 1))), qI 44 (.mv (.t 102))])))))))
  (.seq (.region [6, 7] [qI 103 (.load true 3 (.t 9)), nI (.store 3 (.t 6) (.t 103)), qI 7 (.mv (.c (.int .i64 0)))])
  .ret))))))⟩
theorem cf38 : cF Try.prog Try.f38 = some if38 := by kernel_rfl
/-- loop.example/g01076/laws.heldModule -/
def if39 : IFn := ⟨[0, 1], [(.tmp 4)], (.seq (.region [1, 2] [eI 2 (.box (.t 0)), qI 4 (.mv (.c (.int .i64 0)))])
  (.seq (.region [1] [qI 5 (.fieldAddr 2 (.t 2)), qI 6 (.load false 1 (.t 5)), qI 7 (.mv (.t 1)), eI 8 (.call 80 [(.t 6), (.t 7)]), qI 1 (.mv (.t 8))])
  (.seq (.seq (.region [1, 10] [qI 9 (.mv (.t 1)), qI 10 (.bin .lss .other (.t 9) (.c (.int .i64 0)))])
  (.cond (.t 10) (.seq (.region [4] [qI 4 (.mv (.c (.int .i64 (-1))))])
  .ret) .skip))
  (.seq (.region [4] [qI 11 (.mv (.t 1)), qI 4 (.mv (.t 11))])
  .ret))))⟩
theorem cf39 : cF Try.prog Try.f39 = some if39 := by kernel_rfl
/-- loop.example/g01076/laws.eqInt64SS -/
def if42 : IFn := ⟨[0, 1], [(.tmp 4)], (.seq (.region [0, 1] [qI 4 (.mv (.c (.bool false)))])
  (.seq (.seq (.region [0, 1, 10] [qI 6 (.mv (.t 0)), qI 7 (.len (.t 6)), qI 8 (.mv (.t 1)), qI 9 (.len (.t 8)), qI 10 (.bin .neq .other (.t 7) (.t 9))])
  (.cond (.t 10) (.seq (.region [4] [qI 4 (.mv (.c (.bool false)))])
  .ret) .skip))
  (.seq (.seq (.region [0, 1, 5] [qI 5 (.mv (.c (.int .i64 0)))])
  (.block 0 (.loop [0, 1, 5] (.seq (.seq (.region [0, 1, 5, 14] [qI 11 (.mv (.t 5)), qI 12 (.mv (.t 0)), qI 13 (.len (.t 12)), qI 14 (.bin .lss .other (.t 11) (.t 13))])
  (.cond (.t 14) .skip (.exit 0)))
  (.seq (.block 1 (.seq (.draw [0, 1, 5, 26] [] [qD 17 (.mv (.t 0)) 0, qD 18 (.mv (.t 5)) 1, qD 19 (.indexAddr 1 (.t 17) (.t 18)) 2, qD 20 (.load false 1 (.t 19)) 3, qD 21 (.mv (.t 1)) 4, qD 22 (.mv (.t 5)) 5, qD 23 (.indexAddr 1 (.t 21) (.t 22)) 6, qD 24 (.load false 1 (.t 23)) 7, eD 25 (.call 23 [(.t 20), (.t 24)]) 8 [], qD 26 (.un .not (.t 25)) 9])
  (.cond (.t 26) (.seq (.region [4] [qI 4 (.mv (.c (.bool false)))])
  .ret) .skip)))
  (.region [0, 1, 5] [qI 15 (.mv (.t 5)), qI 16 (.bin .add .other (.t 15) (.c (.int .i64 1))), qI 5 (.mv (.t 16))]))))))
  (.seq (.region [4] [qI 4 (.mv (.c (.bool true)))])
  .ret))))⟩
theorem cf42 : cF Try.prog Try.f42 = some if42 := by kernel_rfl
/-- loop.example/g01076/laws.markInt64SS -/
def if43 : IFn := ⟨[0, 1], [(.tmp 4)], (.seq (.region [0, 1] [qI 4 (.mv (.c (.int .i64 0)))])
  (.seq (.seq (.region [0, 1, 5] [qI 5 (.mv (.c (.int .i64 0)))])
  (.block 0 (.loop [0, 1, 5] (.seq (.seq (.region [0, 1, 5, 9] [qI 6 (.mv (.t 5)), qI 7 (.mv (.t 0)), qI 8 (.len (.t 7)), qI 9 (.bin .lss .other (.t 6) (.t 8))])
  (.cond (.t 9) .skip (.exit 0)))
  (.seq (.block 1 (.region [0, 1, 5] [qI 12 (.mv (.t 0)), qI 13 (.mv (.t 5)), qI 14 (.indexAddr 1 (.t 12) (.t 13)), qI 15 (.load false 1 (.t 14)), qI 16 (.mv (.t 1)), eI 17 (.call 26 [(.t 15), (.t 16)]), qI 1 (.mv (.t 17))]))
  (.region [0, 1, 5] [qI 10 (.mv (.t 5)), qI 11 (.bin .add .other (.t 10) (.c (.int .i64 1))), qI 5 (.mv (.t 11))]))))))
  (.seq (.region [4] [qI 18 (.mv (.t 1)), qI 4 (.mv (.t 18))])
  .ret)))⟩
theorem cf43 : cF Try.prog Try.f43 = some if43 := by kernel_rfl
/-- loop.example/g01076/laws.heldInt64SS -/
def if44 : IFn := ⟨[0, 1], [(.tmp 4)], (.seq (.region [0, 1] [qI 4 (.mv (.c (.int .i64 0)))])
  (.seq (.seq (.region [0, 1, 5] [qI 5 (.mv (.c (.int .i64 0)))])
  (.block 0 (.loop [0, 1, 5] (.seq (.seq (.region [0, 1, 5, 9] [qI 6 (.mv (.t 5)), qI 7 (.mv (.t 0)), qI 8 (.len (.t 7)), qI 9 (.bin .lss .other (.t 6) (.t 8))])
  (.cond (.t 9) .skip (.exit 0)))
  (.seq (.block 1 (.seq (.region [0, 1, 5] [qI 12 (.mv (.t 0)), qI 13 (.mv (.t 5)), qI 14 (.indexAddr 1 (.t 12) (.t 13)), qI 15 (.load false 1 (.t 14)), qI 16 (.mv (.t 1)), eI 17 (.call 27 [(.t 15), (.t 16)]), qI 1 (.mv (.t 17))])
  (.seq (.region [0, 1, 5, 19] [qI 18 (.mv (.t 1)), qI 19 (.bin .lss .other (.t 18) (.c (.int .i64 0)))])
  (.cond (.t 19) (.seq (.region [4] [qI 4 (.mv (.c (.int .i64 (-1))))])
  .ret) .skip))))
  (.region [0, 1, 5] [qI 10 (.mv (.t 5)), qI 11 (.bin .add .other (.t 10) (.c (.int .i64 1))), qI 5 (.mv (.t 11))]))))))
  (.seq (.region [4] [qI 20 (.mv (.t 1)), qI 4 (.mv (.t 20))])
  .ret)))⟩
theorem cf44 : cF Try.prog Try.f44 = some if44 := by kernel_rfl
/-- loop.example/g01076/laws.szInt64SS -/
def if45 : IFn := ⟨[0, 1], [(.tmp 4)], (.seq (.region [0, 1] [qI 4 (.mv (.c (.int .i64 0)))])
  (.seq (.region [0, 1] [qI 6 (.mv (.t 1)), qI 7 (.mv (.t 0)), qI 8 (.len (.t 7)), qI 9 (.bin .sub .other (.t 6) (.t 8)), qI 1 (.mv (.t 9))])
  (.seq (.seq (.region [0, 1, 11] [qI 10 (.mv (.t 1)), qI 11 (.bin .lss .other (.t 10) (.c (.int .i64 0)))])
  (.cond (.t 11) (.seq (.region [4] [qI 4 (.mv (.c (.int .i64 (-1))))])
  .ret) .skip))
  (.seq (.seq (.region [0, 1, 5] [qI 5 (.mv (.c (.int .i64 0)))])
  (.block 0 (.loop [0, 1, 5] (.seq (.seq (.region [0, 1, 5, 15] [qI 12 (.mv (.t 5)), qI 13 (.mv (.t 0)), qI 14 (.len (.t 13)), qI 15 (.bin .lss .other (.t 12) (.t 14))])
  (.cond (.t 15) .skip (.exit 0)))
  (.seq (.block 1 (.seq (.region [0, 1, 5] [qI 18 (.mv (.t 0)), qI 19 (.mv (.t 5)), qI 20 (.indexAddr 1 (.t 18) (.t 19)), qI 21 (.load false 1 (.t 20)), qI 22 (.mv (.t 1)), eI 23 (.call 56 [(.t 21), (.t 22)]), qI 1 (.mv (.t 23))])
  (.seq (.region [0, 1, 5, 25] [qI 24 (.mv (.t 1)), qI 25 (.bin .lss .other (.t 24) (.c (.int .i64 0)))])
  (.cond (.t 25) (.seq (.region [4] [qI 4 (.mv (.c (.int .i64 (-1))))])
  .ret) .skip))))
  (.region [0, 1, 5] [qI 16 (.mv (.t 5)), qI 17 (.bin .add .other (.t 16) (.c (.int .i64 1))), qI 5 (.mv (.t 17))]))))))
  (.seq (.region [4] [qI 26 (.mv (.t 1)), qI 4 (.mv (.t 26))])
  .ret)))))⟩
theorem cf45 : cF Try.prog Try.f45 = some if45 := by kernel_rfl
/-- loop.example/g01076/laws.toInt64SS -/
def if47 : IFn := ⟨[0], [(.tmp 2)], (.seq (.region [0] [qI 2 (.mv (.c .nils))])
  (.seq (.region [0, 3] [qI 5 (.mv (.t 0)), qI 6 (.len (.t 5)), eI 7 (.makeSl 1 24 [.nils] (.t 6) (.t 6)), qI 3 (.mv (.t 7))])
  (.seq (.seq (.region [0, 3, 4] [qI 4 (.mv (.c (.int .i64 0)))])
  (.block 0 (.loop [0, 3, 4] (.seq (.seq (.region [0, 3, 4, 11] [qI 8 (.mv (.t 4)), qI 9 (.mv (.t 0)), qI 10 (.len (.t 9)), qI 11 (.bin .lss .other (.t 8) (.t 10))])
  (.cond (.t 11) .skip (.exit 0)))
  (.seq (.block 1 (.region [0, 3, 4] [qI 14 (.mv (.t 3)), qI 15 (.mv (.t 4)), qI 16 (.mv (.t 0)), qI 17 (.mv (.t 4)), qI 18 (.indexAddr 1 (.t 16) (.t 17)), qI 19 (.load false 1 (.t 18)), eI 20 (.call 21 [(.t 19)]), qI 21 (.indexAddr 1 (.t 14) (.t 15)), nI (.store 1 (.t 21) (.t 20))]))
  (.region [0, 3, 4] [qI 12 (.mv (.t 4)), qI 13 (.bin .add .other (.t 12) (.c (.int .i64 1))), qI 4 (.mv (.t 13))]))))))
  (.seq (.region [2] [qI 22 (.mv (.t 3)), qI 2 (.mv (.t 22))])
  .ret))))⟩
theorem cf47 : cF Try.prog Try.f47 = some if47 := by kernel_rfl
/-- loop.example/g01076/laws.szInt64S -/
def if56 : IFn := ⟨[0, 1], [(.tmp 4)], (.seq (.region [0, 1] [qI 4 (.mv (.c (.int .i64 0)))])
  (.seq (.region [1] [qI 5 (.mv (.t 1)), qI 6 (.mv (.t 0)), qI 7 (.len (.t 6)), qI 8 (.bin .sub .other (.t 5) (.t 7)), qI 1 (.mv (.t 8))])
  (.seq (.seq (.region [1, 10] [qI 9 (.mv (.t 1)), qI 10 (.bin .lss .other (.t 9) (.c (.int .i64 0)))])
  (.cond (.t 10) (.seq (.region [4] [qI 4 (.mv (.c (.int .i64 (-1))))])
  .ret) .skip))
  (.seq (.region [4] [qI 11 (.mv (.t 1)), qI 4 (.mv (.t 11))])
  .ret))))⟩
theorem cf56 : cF Try.prog Try.f56 = some if56 := by kernel_rfl
/-- loop.example/g01076/laws.szInt64SSS -/
def if57 : IFn := ⟨[0, 1], [(.tmp 4)], (.seq (.region [0, 1] [qI 4 (.mv (.c (.int .i64 0)))])
  (.seq (.region [0, 1] [qI 6 (.mv (.t 1)), qI 7 (.mv (.t 0)), qI 8 (.len (.t 7)), qI 9 (.bin .sub .other (.t 6) (.t 8)), qI 1 (.mv (.t 9))])
  (.seq (.seq (.region [0, 1, 11] [qI 10 (.mv (.t 1)), qI 11 (.bin .lss .other (.t 10) (.c (.int .i64 0)))])
  (.cond (.t 11) (.seq (.region [4] [qI 4 (.mv (.c (.int .i64 (-1))))])
  .ret) .skip))
  (.seq (.seq (.region [0, 1, 5] [qI 5 (.mv (.c (.int .i64 0)))])
  (.block 0 (.loop [0, 1, 5] (.seq (.seq (.region [0, 1, 5, 15] [qI 12 (.mv (.t 5)), qI 13 (.mv (.t 0)), qI 14 (.len (.t 13)), qI 15 (.bin .lss .other (.t 12) (.t 14))])
  (.cond (.t 15) .skip (.exit 0)))
  (.seq (.block 1 (.seq (.region [0, 1, 5] [qI 18 (.mv (.t 0)), qI 19 (.mv (.t 5)), qI 20 (.indexAddr 1 (.t 18) (.t 19)), qI 21 (.load false 1 (.t 20)), qI 22 (.mv (.t 1)), eI 23 (.call 45 [(.t 21), (.t 22)]), qI 1 (.mv (.t 23))])
  (.seq (.region [0, 1, 5, 25] [qI 24 (.mv (.t 1)), qI 25 (.bin .lss .other (.t 24) (.c (.int .i64 0)))])
  (.cond (.t 25) (.seq (.region [4] [qI 4 (.mv (.c (.int .i64 (-1))))])
  .ret) .skip))))
  (.region [0, 1, 5] [qI 16 (.mv (.t 5)), qI 17 (.bin .add .other (.t 16) (.c (.int .i64 1))), qI 5 (.mv (.t 17))]))))))
  (.seq (.region [4] [qI 26 (.mv (.t 1)), qI 4 (.mv (.t 26))])
  .ret)))))⟩
theorem cf57 : cF Try.prog Try.f57 = some if57 := by kernel_rfl
/-- loop.example/g01076/spec.l08Group -/
def if58 : IFn := ⟨[0], [(.tmp 2)], (.seq (.region [1] [eI 1 (.box (.t 0)), qI 2 (.mv (.c (.bool false)))])
  (.seq (.region [2] [qI 3 (.load true 3 (.t 1)), eI 4 (.call 92 [(.t 3)]), qI 5 (.mv (.t 4)), ⟨(some 6), .load true 3 (.t 1), true, (some (5, true))⟩, ⟨(some 7), .call 97 [(.t 6)], false, (some (5, true))⟩, qI 8 (.pick (.t 5) (.t 7) (.c (.bool false))), qI 2 (.mv (.t 8))])
  .ret))⟩
theorem cf58 : cF Try.prog Try.f58 = some if58 := by kernel_rfl
/-- loop.example/g01076/spec.l21Is -/
def if59 : IFn := ⟨[0, 1], [(.tmp 4)], (.seq (.region [2, 3] [eI 2 (.box (.t 0)), eI 3 (.box (.t 1)), qI 4 (.mv (.c (.bool false)))])
  (.seq (.region [2, 3, 5] [qI 13 (.fieldAddr 0 (.t 2)), qI 14 (.load false 1 (.t 13)), qI 15 (.len (.t 14)), qI 5 (.mv (.t 15))])
  (.seq (.seq (.region [2, 3, 5, 32] [qI 16 (.fieldAddr 0 (.t 3)), qI 17 (.load false 1 (.t 16)), eI 18 (.call 98 [(.t 17)]), qI 19 (.un .not (.t 18)), qI 20 (.mv (.t 19)), ⟨(some 21), .fieldAddr 1 (.t 3), true, (some (20, false))⟩, ⟨(some 22), .load false 1 (.t 21), true, (some (20, false))⟩, ⟨(some 23), .call 93 [(.t 22), (.c (.int .i64 1)), (.c (.int .i64 3))], false, (some (20, false))⟩, ⟨(some 24), .un .not (.t 23), true, (some (20, false))⟩, qI 25 (.pick (.t 20) (.c (.bool true)) (.t 24)), qI 26 (.mv (.t 25)), ⟨(some 27), .fieldAddr 2 (.t 3), true, (some (26, false))⟩, ⟨(some 28), .load false 1 (.t 27), true, (some (26, false))⟩, ⟨(some 29), .len (.t 28), true, (some (26, false))⟩, ⟨(some 30), .mv (.t 5), true, (some (26, false))⟩, ⟨(some 31), .bin .neq .other (.t 29) (.t 30), true, (some (26, false))⟩, qI 32 (.pick (.t 26) (.c (.bool true)) (.t 31))])
  (.cond (.t 32) (.seq (.region [4] [qI 4 (.mv (.c (.bool false)))])
  .ret) .skip))
  (.seq (.seq (.region [2, 3, 5, 6] [qI 6 (.mv (.c (.int .i64 0)))])
  (.block 0 (.loop [2, 3, 5, 6] (.seq (.seq (.region [2, 3, 5, 6, 35] [qI 33 (.mv (.t 6)), qI 34 (.mv (.t 5)), qI 35 (.bin .lss .other (.t 33) (.t 34))])
  (.cond (.t 35) .skip (.exit 0)))
  (.seq (.block 1 (.seq (.draw [2, 3, 5, 6, 48] [] [qD 38 (.fieldAddr 0 (.t 3)) 0, qD 39 (.load false 1 (.t 38)) 1, qD 40 (.fieldAddr 1 (.t 3)) 2, qD 41 (.load false 1 (.t 40)) 3, qD 42 (.fieldAddr 2 (.t 3)) 4, qD 43 (.load false 1 (.t 42)) 5, qD 44 (.mv (.t 6)) 6, qD 45 (.indexAddr 1 (.t 43) (.t 44)) 7, qD 46 (.load false 1 (.t 45)) 8, eD 47 (.call 99 [(.t 39), (.t 41), (.t 46)]) 9 [], qD 48 (.un .not (.t 47)) 10])
  (.cond (.t 48) (.seq (.region [4] [qI 4 (.mv (.c (.bool false)))])
  .ret) .skip)))
  (.region [2, 3, 5, 6] [qI 36 (.mv (.t 6)), qI 37 (.bin .add .other (.t 36) (.c (.int .i64 1))), qI 6 (.mv (.t 37))]))))))
  (.seq (.seq (.region [2, 3, 5, 7] [qI 7 (.mv (.c (.int .i64 0)))])
  (.block 2 (.loop [2, 3, 5, 7] (.seq (.seq (.region [2, 3, 5, 7, 51] [qI 49 (.mv (.t 7)), qI 50 (.mv (.t 5)), qI 51 (.bin .lss .other (.t 49) (.t 50))])
  (.cond (.t 51) .skip (.exit 2)))
  (.seq (.block 3 (.seq (.region [2, 3, 5, 7, 8] [qI 54 (.fieldAddr 1 (.t 3)), qI 55 (.load false 1 (.t 54)), eI 56 (.call 100 [(.t 55)]), qI 8 (.mv (.t 56))])
  (.seq (.seq (.region [2, 3, 5, 7, 8, 9] [qI 9 (.mv (.c (.int .i64 0)))])
  (.block 4 (.loop [2, 3, 5, 7, 8, 9] (.seq (.seq (.region [2, 3, 5, 7, 8, 9, 63] [qI 57 (.mv (.t 9)), qI 58 (.fieldAddr 0 (.t 2)), qI 59 (.load false 1 (.t 58)), qI 60 (.mv (.t 7)), qI 61 (.indexAddr 1 (.t 59) (.t 60)), qI 62 (.load false 1 (.t 61)), qI 63 (.bin .lss .other (.t 57) (.t 62))])
  (.cond (.t 63) .skip (.exit 4)))
  (.seq (.block 5 (.draw [2, 3, 5, 7, 8, 9] [] [qD 66 (.fieldAddr 0 (.t 3)) 0, qD 67 (.load false 1 (.t 66)) 1, qD 68 (.mv (.t 8)) 2, qD 69 (.fieldAddr 2 (.t 3)) 3, qD 70 (.load false 1 (.t 69)) 4, qD 71 (.mv (.t 7)) 5, qD 72 (.indexAddr 1 (.t 70) (.t 71)) 6, qD 73 (.load false 1 (.t 72)) 7, qD 74 (.fieldAddr 1 (.t 3)) 8, qD 75 (.load false 1 (.t 74)) 9, eD 76 (.call 101 [(.t 67), (.t 68), (.t 73), (.t 75)]) 10 [], qD 8 (.mv (.t 76)) 11]))
  (.region [2, 3, 5, 7, 8, 9] [qI 64 (.mv (.t 9)), qI 65 (.bin .add .other (.t 64) (.c (.int .i64 1))), qI 9 (.mv (.t 65))]))))))
  (.seq (.seq (.draw [2, 3, 5, 7, 86] [] [qD 77 (.mv (.t 8)) 0, qD 78 (.load true 3 (.t 3)) 1, qD 79 (.fieldAddr 1 (.t 2)) 2, qD 80 (.load false 1 (.t 79)) 3, qD 81 (.mv (.t 7)) 4, qD 82 (.indexAddr 1 (.t 80) (.t 81)) 5, qD 83 (.load false 1 (.t 82)) 6, eD 84 (.call 66 [(.t 78), (.t 83)]) 7 [], eD 85 (.call 102 [(.t 77), (.t 84)]) 8 [], qD 86 (.un .not (.t 85)) 9])
  (.cond (.t 86) (.seq (.region [4] [qI 4 (.mv (.c (.bool false)))])
  .ret) .skip))
  (.seq (.region [2, 3, 5, 7, 10] [qI 87 (.mv (.t 7)), qI 88 (.bin .add .other (.t 87) (.c (.int .i64 1))), qI 10 (.mv (.t 88))])
  (.block 6 (.loop [2, 3, 5, 7, 10] (.seq (.seq (.region [2, 3, 5, 7, 10, 91] [qI 89 (.mv (.t 10)), qI 90 (.mv (.t 5)), qI 91 (.bin .lss .other (.t 89) (.t 90))])
  (.cond (.t 91) .skip (.exit 6)))
  (.seq (.block 7 (.seq (.draw [2, 3, 5, 7, 10, 11] [] [qD 94 (.fieldAddr 0 (.t 3)) 0, qD 95 (.load false 1 (.t 94)) 1, qD 96 (.fieldAddr 2 (.t 3)) 2, qD 97 (.load false 1 (.t 96)) 3, qD 98 (.mv (.t 10)) 4, qD 99 (.indexAddr 1 (.t 97) (.t 98)) 5, qD 100 (.load false 1 (.t 99)) 6, qD 101 (.fieldAddr 2 (.t 3)) 7, qD 102 (.load false 1 (.t 101)) 8, qD 103 (.mv (.t 7)) 9, qD 104 (.indexAddr 1 (.t 102) (.t 103)) 10, qD 105 (.load false 1 (.t 104)) 11, qD 106 (.fieldAddr 1 (.t 3)) 12, qD 107 (.load false 1 (.t 106)) 13, eD 108 (.call 101 [(.t 95), (.t 100), (.t 105), (.t 107)]) 14 [], qD 11 (.mv (.t 108)) 15])
  (.seq (.draw [2, 3, 5, 7, 10, 11, 12] [] [qD 109 (.fieldAddr 0 (.t 3)) 0, qD 110 (.load false 1 (.t 109)) 1, qD 111 (.fieldAddr 2 (.t 3)) 2, qD 112 (.load false 1 (.t 111)) 3, qD 113 (.mv (.t 7)) 4, qD 114 (.indexAddr 1 (.t 112) (.t 113)) 5, qD 115 (.load false 1 (.t 114)) 6, qD 116 (.load true 3 (.t 3)) 7, qD 117 (.fieldAddr 2 (.t 2)) 8, qD 118 (.load false 1 (.t 117)) 9, qD 119 (.mv (.t 7)) 10, qD 120 (.indexAddr 1 (.t 118) (.t 119)) 11, qD 121 (.load false 1 (.t 120)) 12, qD 122 (.mv (.t 10)) 13, qD 123 (.mv (.t 7)) 14, qD 124 (.bin .sub .other (.t 122) (.t 123)) 15, qD 125 (.bin .sub .other (.t 124) (.c (.int .i64 1))) 16, qD 126 (.indexAddr 1 (.t 121) (.t 125)) 17, qD 127 (.load false 1 (.t 126)) 18, qD 129 (.fieldAddr 1 (.t 3)) 20, qD 130 (.load false 1 (.t 129)) 21, eD 128 (.call 66 [(.t 116), (.t 127)]) 19 [1, 3, 6, 21], eD 131 (.call 101 [(.t 110), (.t 115), (.t 128), (.t 130)]) 22 [], qD 12 (.mv (.t 131)) 23])
  (.seq (.region [2, 3, 5, 7, 10, 135] [qI 132 (.mv (.t 11)), qI 133 (.mv (.t 12)), eI 134 (.call 102 [(.t 132), (.t 133)]), qI 135 (.un .not (.t 134))])
  (.cond (.t 135) (.seq (.region [4] [qI 4 (.mv (.c (.bool false)))])
  .ret) .skip)))))
  (.region [2, 3, 5, 7, 10] [qI 92 (.mv (.t 10)), qI 93 (.bin .add .other (.t 92) (.c (.int .i64 1))), qI 10 (.mv (.t 93))]))))))))))
  (.region [2, 3, 5, 7] [qI 52 (.mv (.t 7)), qI 53 (.bin .add .other (.t 52) (.c (.int .i64 1))), qI 7 (.mv (.t 53))]))))))
  (.seq (.region [4] [qI 4 (.mv (.c (.bool true)))])
  .ret))))))⟩
theorem cf59 : cF Try.prog Try.f59 = some if59 := by kernel_rfl
/-- loop.example/g01076/laws.toInt64SSS -/
def if60 : IFn := ⟨[0], [(.tmp 2)], (.seq (.region [0] [qI 2 (.mv (.c .nils))])
  (.seq (.region [0, 3] [qI 5 (.mv (.t 0)), qI 6 (.len (.t 5)), eI 7 (.makeSl 1 24 [.nils] (.t 6) (.t 6)), qI 3 (.mv (.t 7))])
  (.seq (.seq (.region [0, 3, 4] [qI 4 (.mv (.c (.int .i64 0)))])
  (.block 0 (.loop [0, 3, 4] (.seq (.seq (.region [0, 3, 4, 11] [qI 8 (.mv (.t 4)), qI 9 (.mv (.t 0)), qI 10 (.len (.t 9)), qI 11 (.bin .lss .other (.t 8) (.t 10))])
  (.cond (.t 11) .skip (.exit 0)))
  (.seq (.block 1 (.region [0, 3, 4] [qI 14 (.mv (.t 3)), qI 15 (.mv (.t 4)), qI 16 (.mv (.t 0)), qI 17 (.mv (.t 4)), qI 18 (.indexAddr 1 (.t 16) (.t 17)), qI 19 (.load false 1 (.t 18)), eI 20 (.call 47 [(.t 19)]), qI 21 (.indexAddr 1 (.t 14) (.t 15)), nI (.store 1 (.t 21) (.t 20))]))
  (.region [0, 3, 4] [qI 12 (.mv (.t 4)), qI 13 (.bin .add .other (.t 12) (.c (.int .i64 1))), qI 4 (.mv (.t 13))]))))))
  (.seq (.region [2] [qI 22 (.mv (.t 3)), qI 2 (.mv (.t 22))])
  .ret))))⟩
theorem cf60 : cF Try.prog Try.f60 = some if60 := by kernel_rfl
/-- loop.example/g01076/impl.isModule -/
def if61 : IFn := ⟨[0, 1], [(.tmp 4)], (.seq (.region [0, 1] [qI 4 (.mv (.c (.bool false)))])
  (.seq (.seq (.draw [0, 1, 42] [] [qD 9 (.mv (.t 0)) 0, qD 10 (.nilCheck (.t 9)) 1, qD 11 (.load true 3 (.t 10)) 2, eD 12 (.call 103 [(.t 11)]) 3 [], qD 13 (.un .not (.t 12)) 4, qD 14 (.mv (.t 13)) 5, ⟨⟨(some 15), .mv (.t 1), true, (some (14, false))⟩, 6, []⟩, ⟨⟨(some 16), .nilCheck (.t 15), true, (some (14, false))⟩, 7, []⟩, ⟨⟨(some 17), .fieldAddr 0 (.t 16), true, (some (14, false))⟩, 8, []⟩, ⟨⟨(some 18), .load false 1 (.t 17), true, (some (14, false))⟩, 9, []⟩, ⟨⟨(some 19), .call 104 [(.t 18)], false, (some (14, false))⟩, 10, []⟩, ⟨⟨(some 20), .un .not (.t 19), true, (some (14, false))⟩, 11, []⟩, qD 21 (.pick (.t 14) (.c (.bool true)) (.t 20)) 12, qD 22 (.mv (.t 21)) 13, ⟨⟨(some 23), .mv (.t 1), true, (some (22, false))⟩, 14, []⟩, ⟨⟨(some 24), .nilCheck (.t 23), true, (some (22, false))⟩, 15, []⟩, ⟨⟨(some 25), .fieldAddr 1 (.t 24), true, (some (22, false))⟩, 16, []⟩, ⟨⟨(some 26), .load false 1 (.t 25), true, (some (22, false))⟩, 17, []⟩, ⟨⟨(some 27), .call 105 [(.t 26), (.c (.int .i64 1)), (.c (.int .i64 3))], false, (some (22, false))⟩, 18, []⟩, ⟨⟨(some 28), .un .not (.t 27), true, (some (22, false))⟩, 19, []⟩, qD 29 (.pick (.t 22) (.c (.bool true)) (.t 28)) 20, qD 30 (.mv (.t 29)) 21, ⟨⟨(some 31), .mv (.t 1), true, (some (30, false))⟩, 22, []⟩, ⟨⟨(some 32), .nilCheck (.t 31), true, (some (30, false))⟩, 23, []⟩, ⟨⟨(some 33), .fieldAddr 2 (.t 32), true, (some (30, false))⟩, 24, []⟩, ⟨⟨(some 34), .load false 1 (.t 33), true, (some (30, false))⟩, 25, []⟩, ⟨⟨(some 35), .len (.t 34), true, (some (30, false))⟩, 26, []⟩, ⟨⟨(some 36), .mv (.t 0), true, (some (30, false))⟩, 27, []⟩, ⟨⟨(some 37), .nilCheck (.t 36), true, (some (30, false))⟩, 28, []⟩, ⟨⟨(some 38), .fieldAddr 0 (.t 37), true, (some (30, false))⟩, 29, []⟩, ⟨⟨(some 39), .load false 1 (.t 38), true, (some (30, false))⟩, 30, []⟩, ⟨⟨(some 40), .len (.t 39), true, (some (30, false))⟩, 31, []⟩, ⟨⟨(some 41), .bin .neq .other (.t 35) (.t 40), true, (some (30, false))⟩, 32, []⟩, qD 42 (.pick (.t 30) (.c (.bool true)) (.t 41)) 33])
  (.cond (.t 42) (.seq (.region [4] [qI 4 (.mv (.c (.bool false)))])
  .ret) .skip))
  (.seq (.seq (.region [0, 1, 46, 47, 48] [qI 43 (.mv (.t 1)), qI 44 (.nilCheck (.t 43)), qI 45 (.fieldAddr 2 (.t 44)), qI 46 (.load false 1 (.t 45)), qI 47 (.len (.t 46)), qI 48 (.mv (.c (.int .i64 0)))])
  (.block 0 (.loop [0, 1, 46, 47, 48] (.seq (.region [0, 1, 46, 47, 48, 49] [qI 49 (.bin .lss .other (.t 48) (.t 47))])
  (.seq (.cond (.t 49) .skip (.exit 0))
  (.seq (.block 1 (.seq (.region [0, 1, 5, 6, 46, 47, 48] [qI 50 (.mv (.t 48)), qI 51 (.indexAddr 1 (.t 46) (.t 48)), qI 52 (.load false 1 (.t 51)), qI 5 (.mv (.t 50)), qI 6 (.mv (.t 52))])
  (.seq (.region [0, 1, 46, 47, 48, 66] [qI 53 (.mv (.t 6)), qI 54 (.len (.t 53)), qI 55 (.mv (.t 1)), qI 56 (.nilCheck (.t 55)), qI 57 (.fieldAddr 1 (.t 56)), qI 58 (.load false 1 (.t 57)), qI 59 (.bin .neq .other (.t 54) (.t 58)), qI 60 (.mv (.t 59)), ⟨(some 61), .mv (.t 1), true, (some (60, false))⟩, ⟨(some 62), .mv (.t 5), true, (some (60, false))⟩, ⟨(some 63), .call 106 [(.t 61), (.t 62)], false, (some (60, false))⟩, ⟨(some 64), .call 76 [(.t 63)], false, (some (60, false))⟩, ⟨(some 65), .un .not (.t 64), true, (some (60, false))⟩, qI 66 (.pick (.t 60) (.c (.bool true)) (.t 65))])
  (.cond (.t 66) (.seq (.region [4] [qI 4 (.mv (.c (.bool false)))])
  .ret) .skip))))
  (.region [0, 1, 46, 47, 48] [qI 67 (.bin .add .other (.t 48) (.c (.int .i64 1))), qI 48 (.mv (.t 67))])))))))
  (.seq (.seq (.region [1, 69, 70, 71] [qI 68 (.mv (.t 0)), eI 69 (.call 107 [(.t 68)]), qI 70 (.len (.t 69)), qI 71 (.mv (.c (.int .i64 0)))])
  (.block 2 (.loop [1, 69, 70, 71] (.seq (.region [1, 69, 70, 71, 72] [qI 72 (.bin .lss .other (.t 71) (.t 70))])
  (.seq (.cond (.t 72) .skip (.exit 2))
  (.seq (.block 3 (.seq (.region [1, 8, 69, 70, 71] [qI 73 (.indexAddr 2 (.t 69) (.t 71)), qI 74 (.load true 2 (.t 73)), eI 8 (.alloc [.nils, .nils]), nI (.store 2 (.t 8) (.t 74))])
  (.seq (.draw [1, 69, 70, 71, 86] [] [qD 75 (.mv (.t 1)) 0, qD 76 (.fieldAddr 0 (.t 8)) 1, qD 77 (.load false 1 (.t 76)) 2, qD 80 (.mv (.t 1)) 5, qD 81 (.fieldAddr 1 (.t 8)) 6, qD 82 (.load false 1 (.t 81)) 7, eD 78 (.call 70 [(.t 75), (.t 77)]) 3 [7], qD 79 (.field false 1 2 (.t 78)) 4, eD 83 (.call 70 [(.t 80), (.t 82)]) 8 [], qD 84 (.field false 1 2 (.t 83)) 9, eD 85 (.call 108 [(.t 79), (.t 84)]) 10 [], qD 86 (.un .not (.t 85)) 11])
  (.cond (.t 86) (.seq (.region [4] [qI 4 (.mv (.c (.bool false)))])
  .ret) .skip))))
  (.region [1, 69, 70, 71] [qI 87 (.bin .add .other (.t 71) (.c (.int .i64 1))), qI 71 (.mv (.t 87))])))))))
  (.seq (.region [4] [qI 4 (.mv (.c (.bool true)))])
  .ret)))))⟩
theorem cf61 : cF Try.prog Try.f61 = some if61 := by kernel_rfl
/-- loop.example/g01076/laws.eqInt64SSS -/
def if62 : IFn := ⟨[0, 1], [(.tmp 4)], (.seq (.region [0, 1] [qI 4 (.mv (.c (.bool false)))])
  (.seq (.seq (.region [0, 1, 10] [qI 6 (.mv (.t 0)), qI 7 (.len (.t 6)), qI 8 (.mv (.t 1)), qI 9 (.len (.t 8)), qI 10 (.bin .neq .other (.t 7) (.t 9))])
  (.cond (.t 10) (.seq (.region [4] [qI 4 (.mv (.c (.bool false)))])
  .ret) .skip))
  (.seq (.seq (.region [0, 1, 5] [qI 5 (.mv (.c (.int .i64 0)))])
  (.block 0 (.loop [0, 1, 5] (.seq (.seq (.region [0, 1, 5, 14] [qI 11 (.mv (.t 5)), qI 12 (.mv (.t 0)), qI 13 (.len (.t 12)), qI 14 (.bin .lss .other (.t 11) (.t 13))])
  (.cond (.t 14) .skip (.exit 0)))
  (.seq (.block 1 (.seq (.draw [0, 1, 5, 26] [] [qD 17 (.mv (.t 0)) 0, qD 18 (.mv (.t 5)) 1, qD 19 (.indexAddr 1 (.t 17) (.t 18)) 2, qD 20 (.load false 1 (.t 19)) 3, qD 21 (.mv (.t 1)) 4, qD 22 (.mv (.t 5)) 5, qD 23 (.indexAddr 1 (.t 21) (.t 22)) 6, qD 24 (.load false 1 (.t 23)) 7, eD 25 (.call 42 [(.t 20), (.t 24)]) 8 [], qD 26 (.un .not (.t 25)) 9])
  (.cond (.t 26) (.seq (.region [4] [qI 4 (.mv (.c (.bool false)))])
  .ret) .skip)))
  (.region [0, 1, 5] [qI 15 (.mv (.t 5)), qI 16 (.bin .add .other (.t 15) (.c (.int .i64 1))), qI 5 (.mv (.t 16))]))))))
  (.seq (.region [4] [qI 4 (.mv (.c (.bool true)))])
  .ret))))⟩
theorem cf62 : cF Try.prog Try.f62 = some if62 := by kernel_rfl
/-- loop.example/g01076/spec.l02Vector -/
def if63 : IFn := ⟨[0, 1, 2], [(.tmp 6)], (.seq (.region [0, 1, 2] [qI 6 (.mv (.c (.bool false)))])
  (.seq (.seq (.region [0, 2, 11] [qI 8 (.mv (.t 2)), qI 9 (.len (.t 8)), qI 10 (.mv (.t 1)), qI 11 (.bin .neq .other (.t 9) (.t 10))])
  (.cond (.t 11) (.seq (.region [6] [qI 6 (.mv (.c (.bool false)))])
  .ret) .skip))
  (.seq (.seq (.region [0, 2, 7] [qI 7 (.mv (.c (.int .i64 0)))])
  (.block 0 (.loop [0, 2, 7] (.seq (.seq (.region [0, 2, 7, 15] [qI 12 (.mv (.t 7)), qI 13 (.mv (.t 2)), qI 14 (.len (.t 13)), qI 15 (.bin .lss .other (.t 12) (.t 14))])
  (.cond (.t 15) .skip (.exit 0)))
  (.seq (.block 1 (.seq (.region [0, 2, 7, 25] [qI 18 (.mv (.t 2)), qI 19 (.mv (.t 7)), qI 20 (.indexAddr 1 (.t 18) (.t 19)), qI 21 (.load false 1 (.t 20)), qI 22 (.mv (.t 0)), qI 23 (.bin .sub .other (.t 22) (.c (.int .i64 1))), eI 24 (.call 93 [(.t 21), (.c (.int .i64 0)), (.t 23)]), qI 25 (.un .not (.t 24))])
  (.cond (.t 25) (.seq (.region [6] [qI 6 (.mv (.c (.bool false)))])
  .ret) .skip)))
  (.region [0, 2, 7] [qI 16 (.mv (.t 7)), qI 17 (.bin .add .other (.t 16) (.c (.int .i64 1))), qI 7 (.mv (.t 17))]))))))
  (.seq (.region [6] [qI 6 (.mv (.c (.bool true)))])
  .ret))))⟩
theorem cf63 : cF Try.prog Try.f63 = some if63 := by kernel_rfl
/-- loop.example/g01076/spec.l02Times -/
def if65 : IFn := ⟨[0, 1, 2, 3], [(.tmp 8)], (.seq (.region [0, 1, 2, 3] [qI 8 (.mv (.c .nils))])
  (.seq (.region [0, 1, 2, 9] [qI 12 (.mv (.t 3)), eI 13 (.makeSl 1 8 [(.int .i64 0)] (.t 12) (.t 12)), qI 9 (.mv (.t 13))])
  (.seq (.seq (.region [0, 1, 2, 9, 10] [qI 10 (.mv (.c (.int .i64 0)))])
  (.block 0 (.loop [0, 1, 2, 9, 10] (.seq (.seq (.region [0, 1, 2, 9, 10, 23] [qI 14 (.mv (.t 10)), qI 15 (.mv (.t 1)), qI 16 (.len (.t 15)), qI 17 (.bin .lss .other (.t 14) (.t 16)), qI 18 (.mv (.t 17)), ⟨(some 19), .mv (.t 10), true, (some (18, true))⟩, ⟨(some 20), .mv (.t 2), true, (some (18, true))⟩, ⟨(some 21), .len (.t 20), true, (some (18, true))⟩, ⟨(some 22), .bin .lss .other (.t 19) (.t 21), true, (some (18, true))⟩, qI 23 (.pick (.t 18) (.t 22) (.c (.bool false)))])
  (.cond (.t 23) .skip (.exit 0)))
  (.seq (.block 1 (.seq (.region [0, 1, 2, 9, 10, 11] [qI 11 (.mv (.c (.int .i64 0)))])
  (.block 2 (.loop [0, 1, 2, 9, 10, 11] (.seq (.seq (.region [0, 1, 2, 9, 10, 11, 38] [qI 26 (.mv (.t 11)), qI 27 (.mv (.t 9)), qI 28 (.len (.t 27)), qI 29 (.bin .lss .other (.t 26) (.t 28)), qI 30 (.mv (.t 29)), ⟨(some 31), .mv (.t 11), true, (some (30, true))⟩, ⟨(some 32), .mv (.t 2), true, (some (30, true))⟩, ⟨(some 33), .mv (.t 10), true, (some (30, true))⟩, ⟨(some 34), .indexAddr 1 (.t 32) (.t 33), true, (some (30, true))⟩, ⟨(some 35), .load false 1 (.t 34), true, (some (30, true))⟩, ⟨(some 36), .len (.t 35), true, (some (30, true))⟩, ⟨(some 37), .bin .lss .other (.t 31) (.t 36), true, (some (30, true))⟩, qI 38 (.pick (.t 30) (.t 37) (.c (.bool false)))])
  (.cond (.t 38) .skip (.exit 2)))
  (.seq (.block 3 (.draw [0, 1, 2, 9, 10, 11] [] [qD 41 (.mv (.t 9)) 0, qD 42 (.mv (.t 11)) 1, qD 43 (.mv (.t 9)) 2, qD 44 (.mv (.t 11)) 3, qD 45 (.indexAddr 1 (.t 43) (.t 44)) 4, qD 46 (.load false 1 (.t 45)) 5, qD 47 (.mv (.t 1)) 6, qD 48 (.mv (.t 10)) 7, qD 49 (.indexAddr 1 (.t 47) (.t 48)) 8, qD 50 (.load false 1 (.t 49)) 9, qD 51 (.mv (.t 2)) 10, qD 52 (.mv (.t 10)) 11, qD 53 (.indexAddr 1 (.t 51) (.t 52)) 12, qD 54 (.load false 1 (.t 53)) 13, qD 55 (.mv (.t 11)) 14, qD 56 (.indexAddr 1 (.t 54) (.t 55)) 15, qD 57 (.load false 1 (.t 56)) 16, qD 58 (.bin .mul .other (.t 50) (.t 57)) 17, qD 59 (.bin .add .other (.t 46) (.t 58)) 18, qD 60 (.mv (.t 0)) 19, qD 61 (.bin .rem .other (.t 59) (.t 60)) 20, qD 62 (.indexAddr 1 (.t 41) (.t 42)) 21, ⟨nI (.store 1 (.t 62) (.t 61)), 22, []⟩]))
  (.region [0, 1, 2, 9, 10, 11] [qI 39 (.mv (.t 11)), qI 40 (.bin .add .other (.t 39) (.c (.int .i64 1))), qI 11 (.mv (.t 40))])))))))
  (.region [0, 1, 2, 9, 10] [qI 24 (.mv (.t 10)), qI 25 (.bin .add .other (.t 24) (.c (.int .i64 1))), qI 10 (.mv (.t 25))]))))))
  (.seq (.region [8] [qI 63 (.mv (.t 9)), qI 8 (.mv (.t 63))])
  .ret))))⟩
theorem cf65 : cF Try.prog Try.f65 = some if65 := by kernel_rfl
/-- loop.example/g01076/spec.l21Act -/
def if66 : IFn := ⟨[0, 1], [(.tmp 4)], (.seq (.region [1, 2] [eI 2 (.box (.t 0)), qI 4 (.mv (.c .nils))])
  (.seq (.region [1, 2, 5] [qI 8 (.fieldAddr 1 (.t 2)), qI 9 (.load false 1 (.t 8)), eI 10 (.call 100 [(.t 9)]), qI 5 (.mv (.t 10))])
  (.seq (.seq (.region [1, 2, 5, 6] [qI 6 (.mv (.c (.int .i64 0)))])
  (.block 0 (.loop [1, 2, 5, 6] (.seq (.seq (.region [1, 2, 5, 6, 14] [qI 11 (.mv (.t 6)), qI 12 (.mv (.t 1)), qI 13 (.len (.t 12)), qI 14 (.bin .lss .other (.t 11) (.t 13))])
  (.cond (.t 14) .skip (.exit 0)))
  (.seq (.block 1 (.seq (.region [1, 2, 5, 6, 7] [qI 7 (.mv (.c (.int .i64 0)))])
  (.block 2 (.loop [1, 2, 5, 6, 7] (.seq (.seq (.region [1, 2, 5, 6, 7, 22] [qI 17 (.mv (.t 7)), qI 18 (.mv (.t 1)), qI 19 (.mv (.t 6)), qI 20 (.indexAddr 1 (.t 18) (.t 19)), qI 21 (.load false 1 (.t 20)), qI 22 (.bin .lss .other (.t 17) (.t 21))])
  (.cond (.t 22) .skip (.exit 2)))
  (.seq (.block 3 (.draw [1, 2, 5, 6, 7] [] [qD 25 (.fieldAddr 0 (.t 2)) 0, qD 26 (.load false 1 (.t 25)) 1, qD 27 (.mv (.t 5)) 2, qD 28 (.fieldAddr 2 (.t 2)) 3, qD 29 (.load false 1 (.t 28)) 4, qD 30 (.mv (.t 6)) 5, qD 31 (.indexAddr 1 (.t 29) (.t 30)) 6, qD 32 (.load false 1 (.t 31)) 7, qD 33 (.fieldAddr 1 (.t 2)) 8, qD 34 (.load false 1 (.t 33)) 9, eD 35 (.call 101 [(.t 26), (.t 27), (.t 32), (.t 34)]) 10 [], qD 5 (.mv (.t 35)) 11]))
  (.region [1, 2, 5, 6, 7] [qI 23 (.mv (.t 7)), qI 24 (.bin .add .other (.t 23) (.c (.int .i64 1))), qI 7 (.mv (.t 24))])))))))
  (.region [1, 2, 5, 6] [qI 15 (.mv (.t 6)), qI 16 (.bin .add .other (.t 15) (.c (.int .i64 1))), qI 6 (.mv (.t 16))]))))))
  (.seq (.region [4] [qI 36 (.mv (.t 5)), qI 4 (.mv (.t 36))])
  .ret))))⟩
theorem cf66 : cF Try.prog Try.f66 = some if66 := by kernel_rfl
/-- loop.example/g01076/impl.isExponents -/
def if67 : IFn := ⟨[0, 1], [(.tmp 4)], (.seq (.region [0, 1] [qI 4 (.mv (.c (.bool false)))])
  (.seq (.seq (.region [0, 1, 14] [qI 7 (.mv (.t 1)), qI 8 (.len (.t 7)), qI 9 (.mv (.t 0)), qI 10 (.nilCheck (.t 9)), qI 11 (.fieldAddr 0 (.t 10)), qI 12 (.load false 1 (.t 11)), qI 13 (.len (.t 12)), qI 14 (.bin .neq .other (.t 8) (.t 13))])
  (.cond (.t 14) (.seq (.region [4] [qI 4 (.mv (.c (.bool false)))])
  .ret) .skip))
  (.seq (.seq (.region [0, 15, 16, 17] [qI 15 (.mv (.t 1)), qI 16 (.len (.t 15)), qI 17 (.mv (.c (.int .i64 0)))])
  (.block 0 (.loop [0, 15, 16, 17] (.seq (.region [0, 15, 16, 17, 18] [qI 18 (.bin .lss .other (.t 17) (.t 16))])
  (.seq (.cond (.t 18) .skip (.exit 0))
  (.seq (.block 1 (.seq (.region [0, 5, 6, 15, 16, 17] [qI 19 (.mv (.t 17)), qI 20 (.indexAddr 1 (.t 15) (.t 17)), qI 21 (.load false 1 (.t 20)), qI 5 (.mv (.t 19)), qI 6 (.mv (.t 21))])
  (.seq (.region [0, 15, 16, 17, 32] [qI 22 (.mv (.t 6)), qI 23 (.mv (.t 0)), qI 24 (.nilCheck (.t 23)), qI 25 (.fieldAddr 0 (.t 24)), qI 26 (.load false 1 (.t 25)), qI 27 (.mv (.t 5)), qI 28 (.indexAddr 1 (.t 26) (.t 27)), qI 29 (.load false 1 (.t 28)), qI 30 (.bin .sub .other (.t 29) (.c (.int .i64 1))), eI 31 (.call 105 [(.t 22), (.c (.int .i64 0)), (.t 30)]), qI 32 (.un .not (.t 31))])
  (.cond (.t 32) (.seq (.region [4] [qI 4 (.mv (.c (.bool false)))])
  .ret) .skip))))
  (.region [0, 15, 16, 17] [qI 33 (.bin .add .other (.t 17) (.c (.int .i64 1))), qI 17 (.mv (.t 33))])))))))
  (.seq (.region [4] [qI 4 (.mv (.c (.bool true)))])
  .ret))))⟩
theorem cf67 : cF Try.prog Try.f67 = some if67 := by kernel_rfl
/-- loop.example/g01076/impl.isVector -/
def if68 : IFn := ⟨[0, 1, 2], [(.tmp 6)], (.seq (.region [0, 1, 2] [qI 6 (.mv (.c (.bool false)))])
  (.seq (.seq (.region [0, 1, 12] [qI 9 (.mv (.t 0)), qI 10 (.len (.t 9)), qI 11 (.mv (.t 2)), qI 12 (.bin .neq .other (.t 10) (.t 11))])
  (.cond (.t 12) (.seq (.region [6] [qI 6 (.mv (.c (.bool false)))])
  .ret) .skip))
  (.seq (.seq (.region [1, 13, 14, 15] [qI 13 (.mv (.t 0)), qI 14 (.len (.t 13)), qI 15 (.mv (.c (.int .i64 0)))])
  (.block 0 (.loop [1, 13, 14, 15] (.seq (.region [1, 13, 14, 15, 16] [qI 16 (.bin .lss .other (.t 15) (.t 14))])
  (.seq (.cond (.t 16) .skip (.exit 0))
  (.seq (.block 1 (.seq (.region [1, 8, 13, 14, 15] [qI 17 (.indexAddr 1 (.t 13) (.t 15)), qI 18 (.load false 1 (.t 17)), qI 8 (.mv (.t 18))])
  (.seq (.region [1, 13, 14, 15, 23] [qI 19 (.mv (.t 8)), qI 20 (.mv (.t 1)), qI 21 (.bin .sub .other (.t 20) (.c (.int .i64 1))), eI 22 (.call 105 [(.t 19), (.c (.int .i64 0)), (.t 21)]), qI 23 (.un .not (.t 22))])
  (.cond (.t 23) (.seq (.region [6] [qI 6 (.mv (.c (.bool false)))])
  .ret) .skip))))
  (.region [1, 13, 14, 15] [qI 24 (.bin .add .other (.t 15) (.c (.int .i64 1))), qI 15 (.mv (.t 24))])))))))
  (.seq (.region [6] [qI 6 (.mv (.c (.bool true)))])
  .ret))))⟩
theorem cf68 : cF Try.prog Try.f68 = some if68 := by kernel_rfl
/-- loop.example/g01076/impl.vectorTimes -/
def if69 : IFn := ⟨[0, 1], [(.tmp 4)], (.seq (.region [0, 3] [eI 3 (.box (.t 1)), qI 4 (.mv (.c .nils))])
  (.seq (.region [0, 3, 5] [qI 8 (.fieldAddr 1 (.t 3)), qI 9 (.load false 1 (.t 8)), eI 10 (.makeSl 1 8 [(.int .i64 0)] (.t 9) (.t 9)), qI 5 (.mv (.t 10))])
  (.seq (.seq (.region [3, 5, 11, 12, 13] [qI 11 (.mv (.t 0)), qI 12 (.len (.t 11)), qI 13 (.mv (.c (.int .i64 0)))])
  (.block 0 (.loop [3, 5, 11, 12, 13] (.seq (.region [3, 5, 11, 12, 13, 14] [qI 14 (.bin .lss .other (.t 13) (.t 12))])
  (.seq (.cond (.t 14) .skip (.exit 0))
  (.seq (.block 1 (.seq (.region [3, 5, 6, 7, 11, 12, 13] [qI 15 (.mv (.t 13)), qI 16 (.indexAddr 1 (.t 11) (.t 13)), qI 17 (.load false 1 (.t 16)), qI 6 (.mv (.t 15)), qI 7 (.mv (.t 17))])
  (.draw [3, 5, 11, 12, 13] [] [qD 18 (.mv (.t 5)) 0, qD 19 (.fieldAddr 2 (.t 3)) 1, qD 20 (.load false 1 (.t 19)) 2, qD 21 (.mv (.t 6)) 3, qD 22 (.indexAddr 1 (.t 20) (.t 21)) 4, qD 23 (.load false 1 (.t 22)) 5, qD 24 (.mv (.t 7)) 6, qD 25 (.fieldAddr 0 (.t 3)) 7, qD 26 (.load false 1 (.t 25)) 8, eD 27 (.call 110 [(.t 18), (.t 23), (.t 24), (.t 26)]) 9 []])))
  (.region [3, 5, 11, 12, 13] [qI 28 (.bin .add .other (.t 13) (.c (.int .i64 1))), qI 13 (.mv (.t 28))])))))))
  (.seq (.region [4] [qI 29 (.mv (.t 5)), qI 4 (.mv (.t 29))])
  .ret))))⟩
theorem cf69 : cF Try.prog Try.f69 = some if69 := by kernel_rfl
/-- loop.example/g01076/impl.actionOf -/
def if70 : IFn := ⟨[0, 1], [(.cell 4 true 3)], (.seq (.region [0, 1, 4] [eI 4 (.alloc [(.int .i64 0), (.int .i64 0), .nils])])
  (.seq (.draw [0, 1, 4, 5] [[(.int .i64 0), (.int .i64 0), .nils]] [qD 8 (.mv (.t 0)) 0, qD 9 (.nilCheck (.t 8)) 1, qD 10 (.fieldAddr 0 (.t 9)) 2, qD 11 (.load false 1 (.t 10)) 3, qD 12 (.mv (.t 0)) 4, qD 13 (.nilCheck (.t 12)) 5, qD 14 (.fieldAddr 1 (.t 13)) 6, qD 15 (.load false 1 (.t 14)) 7, qD 5 (.rev 0) 9, eD 16 (.call 111 [(.t 11), (.t 15)]) 8 [], ⟨nI (.store 3 (.t 5) (.t 16)), 10, []⟩])
  (.seq (.seq (.region [0, 4, 5, 17, 18, 19] [qI 17 (.mv (.t 1)), qI 18 (.len (.t 17)), qI 19 (.mv (.c (.int .i64 0)))])
  (.block 0 (.loop [0, 4, 5, 17, 18, 19] (.seq (.region [0, 4, 5, 17, 18, 19, 20] [qI 20 (.bin .lss .other (.t 19) (.t 18))])
  (.seq (.cond (.t 20) .skip (.exit 0))
  (.seq (.block 1 (.seq (.region [0, 4, 5, 7, 17, 18, 19] [qI 21 (.indexAddr 1 (.t 17) (.t 19)), qI 22 (.load false 1 (.t 21)), qI 7 (.mv (.t 22))])
  (.draw [0, 4, 5, 17, 18, 19] [] [qD 23 (.load true 3 (.t 5)) 0, qD 24 (.mv (.t 0)) 1, qD 25 (.mv (.t 7)) 2, qD 26 (.bin .sub .other (.t 25) (.c (.int .i64 1))) 3, eD 27 (.call 106 [(.t 24), (.t 26)]) 4 [0], eD 28 (.call 112 [(.t 23), (.t 27)]) 5 [], ⟨nI (.store 3 (.t 5) (.t 28)), 6, []⟩])))
  (.region [0, 4, 5, 17, 18, 19] [qI 29 (.bin .add .other (.t 19) (.c (.int .i64 1))), qI 19 (.mv (.t 29))])))))))
  (.seq (.region [4] [qI 30 (.load true 3 (.t 5)), nI (.store 3 (.t 4) (.t 30))])
  .ret))))⟩
theorem cf70 : cF Try.prog Try.f70 = some if70 := by kernel_rfl
/-- loop.example/g01076/impl.normalWord -/
def if71 : IFn := ⟨[0], [(.tmp 2)], (.seq (.region [0] [qI 2 (.mv (.c .nils))])
  (.seq (.region [0, 3] [qI 3 (.mv (.c .nils))])
  (.seq (.seq (.region [3, 6, 7, 8] [qI 6 (.mv (.t 0)), qI 7 (.len (.t 6)), qI 8 (.mv (.c (.int .i64 0)))])
  (.block 0 (.loop [3, 6, 7, 8] (.seq (.region [3, 6, 7, 8, 9] [qI 9 (.bin .lss .other (.t 8) (.t 7))])
  (.seq (.cond (.t 9) .skip (.exit 0))
  (.seq (.block 1 (.seq (.region [3, 4, 5, 6, 7, 8] [qI 10 (.mv (.t 8)), qI 11 (.indexAddr 1 (.t 6) (.t 8)), qI 12 (.load false 1 (.t 11)), qI 4 (.mv (.t 10)), qI 5 (.mv (.t 12))])
  (.seq (.region [3, 4, 6, 7, 8, 13, 14] [qI 13 (.mv (.t 5)), qI 14 (.mv (.c (.int .i64 0)))])
  (.block 2 (.loop [3, 4, 6, 7, 8, 13, 14] (.seq (.region [3, 4, 6, 7, 8, 13, 14, 15] [qI 15 (.bin .lss .other (.t 14) (.t 13))])
  (.seq (.cond (.t 15) .skip (.exit 2))
  (.seq (.block 3 (.region [3, 4, 6, 7, 8, 13, 14] [qI 16 (.mv (.t 3)), qI 17 (.mv (.t 4)), qI 18 (.bin .add .other (.t 17) (.c (.int .i64 1))), eI 19 (.buildSl 1 1 [(.int .i64 0)] [(0, 1, (.t 18))]), eI 20 (.append 1 8 (.t 16) (.t 19)), qI 3 (.mv (.t 20))]))
  (.region [3, 4, 6, 7, 8, 13, 14] [qI 21 (.bin .add .other (.t 14) (.c (.int .i64 1))), qI 14 (.mv (.t 21))])))))))))
  (.region [3, 6, 7, 8] [qI 22 (.bin .add .other (.t 8) (.c (.int .i64 1))), qI 8 (.mv (.t 22))])))))))
  (.seq (.region [2] [qI 23 (.mv (.t 3)), qI 2 (.mv (.t 23))])
  .ret))))⟩
theorem cf71 : cF Try.prog Try.f71 = some if71 := by kernel_rfl
/-- loop.example/g01076/laws.markInt64SSS -/
def if72 : IFn := ⟨[0, 1], [(.tmp 4)], (.seq (.region [0, 1] [qI 4 (.mv (.c (.int .i64 0)))])
  (.seq (.seq (.region [0, 1, 5] [qI 5 (.mv (.c (.int .i64 0)))])
  (.block 0 (.loop [0, 1, 5] (.seq (.seq (.region [0, 1, 5, 9] [qI 6 (.mv (.t 5)), qI 7 (.mv (.t 0)), qI 8 (.len (.t 7)), qI 9 (.bin .lss .other (.t 6) (.t 8))])
  (.cond (.t 9) .skip (.exit 0)))
  (.seq (.block 1 (.region [0, 1, 5] [qI 12 (.mv (.t 0)), qI 13 (.mv (.t 5)), qI 14 (.indexAddr 1 (.t 12) (.t 13)), qI 15 (.load false 1 (.t 14)), qI 16 (.mv (.t 1)), eI 17 (.call 43 [(.t 15), (.t 16)]), qI 1 (.mv (.t 17))]))
  (.region [0, 1, 5] [qI 10 (.mv (.t 5)), qI 11 (.bin .add .other (.t 10) (.c (.int .i64 1))), qI 5 (.mv (.t 11))]))))))
  (.seq (.region [4] [qI 18 (.mv (.t 1)), qI 4 (.mv (.t 18))])
  .ret)))⟩
theorem cf72 : cF Try.prog Try.f72 = some if72 := by kernel_rfl
/-- loop.example/g01076/impl.IsMatrix -/
def if76 : IFn := ⟨[0], [(.tmp 2)], (.seq (.region [1] [eI 1 (.box (.t 0)), qI 2 (.mv (.c (.bool false)))])
  (.seq (.seq (.region [1, 20] [qI 5 (.fieldAddr 0 (.t 1)), qI 6 (.load false 1 (.t 5)), eI 7 (.call 104 [(.t 6)]), qI 8 (.un .not (.t 7)), qI 9 (.mv (.t 8)), ⟨(some 10), .fieldAddr 1 (.t 1), true, (some (9, false))⟩, ⟨(some 11), .load false 1 (.t 10), true, (some (9, false))⟩, ⟨(some 12), .call 105 [(.t 11), (.c (.int .i64 0)), (.c (.int .i64 8))], false, (some (9, false))⟩, ⟨(some 13), .un .not (.t 12), true, (some (9, false))⟩, qI 14 (.pick (.t 9) (.c (.bool true)) (.t 13)), qI 15 (.mv (.t 14)), ⟨(some 16), .fieldAddr 2 (.t 1), true, (some (15, false))⟩, ⟨(some 17), .load false 1 (.t 16), true, (some (15, false))⟩, ⟨(some 18), .len (.t 17), true, (some (15, false))⟩, ⟨(some 19), .bin .gtr .other (.t 18) (.c (.int .i64 8)), true, (some (15, false))⟩, qI 20 (.pick (.t 15) (.c (.bool true)) (.t 19))])
  (.cond (.t 20) (.seq (.region [2] [qI 2 (.mv (.c (.bool false)))])
  .ret) .skip))
  (.seq (.seq (.region [1, 22, 23, 24] [qI 21 (.fieldAddr 2 (.t 1)), qI 22 (.load false 1 (.t 21)), qI 23 (.len (.t 22)), qI 24 (.mv (.c (.int .i64 0)))])
  (.block 0 (.loop [1, 22, 23, 24] (.seq (.region [1, 22, 23, 24, 25] [qI 25 (.bin .lss .other (.t 24) (.t 23))])
  (.seq (.cond (.t 25) .skip (.exit 0))
  (.seq (.block 1 (.seq (.region [1, 4, 22, 23, 24] [qI 26 (.indexAddr 1 (.t 22) (.t 24)), qI 27 (.load false 1 (.t 26)), qI 4 (.mv (.t 27))])
  (.seq (.region [1, 22, 23, 24, 34] [qI 28 (.mv (.t 4)), qI 29 (.fieldAddr 0 (.t 1)), qI 30 (.load false 1 (.t 29)), qI 31 (.fieldAddr 1 (.t 1)), qI 32 (.load false 1 (.t 31)), eI 33 (.call 68 [(.t 28), (.t 30), (.t 32)]), qI 34 (.un .not (.t 33))])
  (.cond (.t 34) (.seq (.region [2] [qI 2 (.mv (.c (.bool false)))])
  .ret) .skip))))
  (.region [1, 22, 23, 24] [qI 35 (.bin .add .other (.t 24) (.c (.int .i64 1))), qI 24 (.mv (.t 35))])))))))
  (.seq (.region [2] [qI 2 (.mv (.c (.bool true)))])
  .ret))))⟩
theorem cf76 : cF Try.prog Try.f76 = some if76 := by kernel_rfl
/-- loop.example/g01076/spec.l21Code -/
def if78 : IFn := ⟨[0, 1, 2], [(.tmp 6)], (.seq (.region [3, 4, 5] [eI 3 (.box (.t 0)), eI 4 (.box (.t 1)), eI 5 (.box (.t 2)), qI 6 (.mv (.c (.int .i64 0)))])
  (.seq (.seq (.region [4, 5, 16] [qI 7 (.load true 3 (.t 3)), qI 8 (.load true 3 (.t 4)), eI 9 (.call 14 [(.t 7), (.t 8)]), qI 10 (.un .not (.t 9)), qI 11 (.mv (.t 10)), ⟨(some 12), .load true 3 (.t 3), true, (some (11, false))⟩, ⟨(some 13), .load true 3 (.t 5), true, (some (11, false))⟩, ⟨(some 14), .call 14 [(.t 12), (.t 13)], false, (some (11, false))⟩, ⟨(some 15), .un .not (.t 14), true, (some (11, false))⟩, qI 16 (.pick (.t 11) (.c (.bool true)) (.t 15))])
  (.cond (.t 16) (.seq (.region [6] [qI 6 (.mv (.c (.int .i64 1)))])
  .ret) .skip))
  (.seq (.seq (.region [21] [qI 17 (.fieldAddr 0 (.t 4)), qI 18 (.load false 1 (.t 17)), qI 19 (.fieldAddr 0 (.t 5)), qI 20 (.load false 1 (.t 19)), qI 21 (.bin .neq .other (.t 18) (.t 20))])
  (.cond (.t 21) (.seq (.region [6] [qI 6 (.mv (.c (.int .i64 5)))])
  .ret) .skip))
  (.seq (.region [6] [qI 6 (.mv (.c (.int .i64 0)))])
  .ret))))⟩
theorem cf78 : cF Try.prog Try.f78 = some if78 := by kernel_rfl
/-- loop.example/g01076/impl.modulesCode -/
def if79 : IFn := ⟨[0, 1, 2], [(.tmp 6)], (.seq (.region [0, 1, 2] [qI 6 (.mv (.c (.int .i64 0)))])
  (.seq (.seq (.region [1, 2, 16] [qI 7 (.mv (.t 0)), qI 8 (.mv (.t 1)), eI 9 (.call 61 [(.t 7), (.t 8)]), qI 10 (.un .not (.t 9)), qI 11 (.mv (.t 10)), ⟨(some 12), .mv (.t 0), true, (some (11, false))⟩, ⟨(some 13), .mv (.t 2), true, (some (11, false))⟩, ⟨(some 14), .call 61 [(.t 12), (.t 13)], false, (some (11, false))⟩, ⟨(some 15), .un .not (.t 14), true, (some (11, false))⟩, qI 16 (.pick (.t 11) (.c (.bool true)) (.t 15))])
  (.cond (.t 16) (.seq (.region [6] [qI 6 (.mv (.c (.int .i64 1)))])
  .ret) .skip))
  (.seq (.seq (.draw [25] [] [qD 17 (.mv (.t 1)) 0, qD 18 (.nilCheck (.t 17)) 1, qD 19 (.fieldAddr 0 (.t 18)) 2, qD 20 (.load false 1 (.t 19)) 3, qD 21 (.mv (.t 2)) 4, qD 22 (.nilCheck (.t 21)) 5, qD 23 (.fieldAddr 0 (.t 22)) 6, qD 24 (.load false 1 (.t 23)) 7, qD 25 (.bin .neq .other (.t 20) (.t 24)) 8])
  (.cond (.t 25) (.seq (.region [6] [qI 6 (.mv (.c (.int .i64 5)))])
  .ret) .skip))
  (.seq (.region [6] [qI 6 (.mv (.c (.int .i64 0)))])
  .ret))))⟩
theorem cf79 : cF Try.prog Try.f79 = some if79 := by kernel_rfl
/-- loop.example/g01076/laws.heldInt64SSS -/
def if80 : IFn := ⟨[0, 1], [(.tmp 4)], (.seq (.region [0, 1] [qI 4 (.mv (.c (.int .i64 0)))])
  (.seq (.seq (.region [0, 1, 5] [qI 5 (.mv (.c (.int .i64 0)))])
  (.block 0 (.loop [0, 1, 5] (.seq (.seq (.region [0, 1, 5, 9] [qI 6 (.mv (.t 5)), qI 7 (.mv (.t 0)), qI 8 (.len (.t 7)), qI 9 (.bin .lss .other (.t 6) (.t 8))])
  (.cond (.t 9) .skip (.exit 0)))
  (.seq (.block 1 (.seq (.region [0, 1, 5] [qI 12 (.mv (.t 0)), qI 13 (.mv (.t 5)), qI 14 (.indexAddr 1 (.t 12) (.t 13)), qI 15 (.load false 1 (.t 14)), qI 16 (.mv (.t 1)), eI 17 (.call 44 [(.t 15), (.t 16)]), qI 1 (.mv (.t 17))])
  (.seq (.region [0, 1, 5, 19] [qI 18 (.mv (.t 1)), qI 19 (.bin .lss .other (.t 18) (.c (.int .i64 0)))])
  (.cond (.t 19) (.seq (.region [4] [qI 4 (.mv (.c (.int .i64 (-1))))])
  .ret) .skip))))
  (.region [0, 1, 5] [qI 10 (.mv (.t 5)), qI 11 (.bin .add .other (.t 10) (.c (.int .i64 1))), qI 5 (.mv (.t 11))]))))))
  (.seq (.region [4] [qI 20 (.mv (.t 1)), qI 4 (.mv (.t 20))])
  .ret)))⟩
theorem cf80 : cF Try.prog Try.f80 = some if80 := by kernel_rfl
/-- loop.example/g01076/impl.isZero -/
def if86 : IFn := ⟨[0], [(.tmp 2)], (.seq (.region [0] [qI 2 (.mv (.c (.bool false)))])
  (.seq (.seq (.region [5, 6, 7] [qI 5 (.mv (.t 0)), qI 6 (.len (.t 5)), qI 7 (.mv (.c (.int .i64 0)))])
  (.block 0 (.loop [5, 6, 7] (.seq (.region [5, 6, 7, 8] [qI 8 (.bin .lss .other (.t 7) (.t 6))])
  (.seq (.cond (.t 8) .skip (.exit 0))
  (.seq (.block 1 (.seq (.region [4, 5, 6, 7] [qI 9 (.indexAddr 1 (.t 5) (.t 7)), qI 10 (.load false 1 (.t 9)), qI 4 (.mv (.t 10))])
  (.seq (.region [5, 6, 7, 12] [qI 11 (.mv (.t 4)), qI 12 (.bin .neq .other (.t 11) (.c (.int .i64 0)))])
  (.cond (.t 12) (.seq (.region [2] [qI 2 (.mv (.c (.bool false)))])
  .ret) .skip))))
  (.region [5, 6, 7] [qI 13 (.bin .add .other (.t 7) (.c (.int .i64 1))), qI 7 (.mv (.t 13))])))))))
  (.seq (.region [2] [qI 2 (.mv (.c (.bool true)))])
  .ret)))⟩
theorem cf86 : cF Try.prog Try.f86 = some if86 := by kernel_rfl
/-- loop.example/g01076/spec.IsPresentation -/
def if92 : IFn := ⟨[0], [(.tmp 2)], (.seq (.region [1] [eI 1 (.box (.t 0)), qI 2 (.mv (.c (.bool false)))])
  (.seq (.region [1, 3] [qI 7 (.fieldAddr 0 (.t 1)), qI 8 (.load false 1 (.t 7)), qI 9 (.len (.t 8)), qI 3 (.mv (.t 9))])
  (.seq (.seq (.region [1, 3, 25] [qI 10 (.mv (.t 3)), qI 11 (.bin .gtr .other (.t 10) (.c (.int .i64 6))), qI 12 (.mv (.t 11)), ⟨(some 13), .fieldAddr 1 (.t 1), true, (some (12, false))⟩, ⟨(some 14), .load false 1 (.t 13), true, (some (12, false))⟩, ⟨(some 15), .len (.t 14), true, (some (12, false))⟩, ⟨(some 16), .mv (.t 3), true, (some (12, false))⟩, ⟨(some 17), .bin .neq .other (.t 15) (.t 16), true, (some (12, false))⟩, qI 18 (.pick (.t 12) (.c (.bool true)) (.t 17)), qI 19 (.mv (.t 18)), ⟨(some 20), .fieldAddr 2 (.t 1), true, (some (19, false))⟩, ⟨(some 21), .load false 1 (.t 20), true, (some (19, false))⟩, ⟨(some 22), .len (.t 21), true, (some (19, false))⟩, ⟨(some 23), .mv (.t 3), true, (some (19, false))⟩, ⟨(some 24), .bin .neq .other (.t 22) (.t 23), true, (some (19, false))⟩, qI 25 (.pick (.t 19) (.c (.bool true)) (.t 24))])
  (.cond (.t 25) (.seq (.region [2] [qI 2 (.mv (.c (.bool false)))])
  .ret) .skip))
  (.seq (.seq (.region [1, 3, 4] [qI 4 (.mv (.c (.int .i64 0)))])
  (.block 0 (.loop [1, 3, 4] (.seq (.seq (.region [1, 3, 4, 28] [qI 26 (.mv (.t 4)), qI 27 (.mv (.t 3)), qI 28 (.bin .lss .other (.t 26) (.t 27))])
  (.cond (.t 28) .skip (.exit 0)))
  (.seq (.block 1 (.seq (.region [1, 3, 4, 37] [qI 31 (.fieldAddr 0 (.t 1)), qI 32 (.load false 1 (.t 31)), qI 33 (.mv (.t 4)), qI 34 (.indexAddr 1 (.t 32) (.t 33)), qI 35 (.load false 1 (.t 34)), eI 36 (.call 98 [(.t 35)]), qI 37 (.un .not (.t 36))])
  (.cond (.t 37) (.seq (.region [2] [qI 2 (.mv (.c (.bool false)))])
  .ret) .skip)))
  (.region [1, 3, 4] [qI 29 (.mv (.t 4)), qI 30 (.bin .add .other (.t 29) (.c (.int .i64 1))), qI 4 (.mv (.t 30))]))))))
  (.seq (.seq (.region [1, 3, 41] [qI 38 (.fieldAddr 0 (.t 1)), qI 39 (.load false 1 (.t 38)), eI 40 (.call 123 [(.t 39)]), qI 41 (.bin .gtr .other (.t 40) (.c (.int .i64 729)))])
  (.cond (.t 41) (.seq (.region [2] [qI 2 (.mv (.c (.bool false)))])
  .ret) .skip))
  (.seq (.seq (.region [1, 3, 5] [qI 5 (.mv (.c (.int .i64 0)))])
  (.block 2 (.loop [1, 3, 5] (.seq (.seq (.region [1, 3, 5, 44] [qI 42 (.mv (.t 5)), qI 43 (.mv (.t 3)), qI 44 (.bin .lss .other (.t 42) (.t 43))])
  (.cond (.t 44) .skip (.exit 2)))
  (.seq (.block 3 (.seq (.seq (.draw [1, 3, 5, 69] [] [qD 47 (.fieldAddr 0 (.t 1)) 0, qD 48 (.load false 1 (.t 47)) 1, qD 49 (.fieldAddr 1 (.t 1)) 2, qD 50 (.load false 1 (.t 49)) 3, qD 51 (.mv (.t 5)) 4, qD 52 (.indexAddr 1 (.t 50) (.t 51)) 5, qD 53 (.load false 1 (.t 52)) 6, qD 54 (.mv (.t 5)) 7, eD 55 (.call 109 [(.t 48), (.t 53), (.t 54)]) 8 [], qD 56 (.un .not (.t 55)) 9, qD 57 (.mv (.t 56)) 10, ⟨⟨(some 58), .fieldAddr 2 (.t 1), true, (some (57, false))⟩, 11, []⟩, ⟨⟨(some 59), .load false 1 (.t 58), true, (some (57, false))⟩, 12, []⟩, ⟨⟨(some 60), .mv (.t 5), true, (some (57, false))⟩, 13, []⟩, ⟨⟨(some 61), .indexAddr 1 (.t 59) (.t 60), true, (some (57, false))⟩, 14, []⟩, ⟨⟨(some 62), .load false 1 (.t 61), true, (some (57, false))⟩, 15, []⟩, ⟨⟨(some 63), .len (.t 62), true, (some (57, false))⟩, 16, []⟩, ⟨⟨(some 64), .mv (.t 3), true, (some (57, false))⟩, 17, []⟩, ⟨⟨(some 65), .bin .sub .other (.t 64) (.c (.int .i64 1)), true, (some (57, false))⟩, 18, []⟩, ⟨⟨(some 66), .mv (.t 5), true, (some (57, false))⟩, 19, []⟩, ⟨⟨(some 67), .bin .sub .other (.t 65) (.t 66), true, (some (57, false))⟩, 20, []⟩, ⟨⟨(some 68), .bin .neq .other (.t 63) (.t 67), true, (some (57, false))⟩, 21, []⟩, qD 69 (.pick (.t 57) (.c (.bool true)) (.t 68)) 22])
  (.cond (.t 69) (.seq (.region [2] [qI 2 (.mv (.c (.bool false)))])
  .ret) .skip))
  (.seq (.region [1, 3, 5, 6] [qI 6 (.mv (.c (.int .i64 0)))])
  (.block 4 (.loop [1, 3, 5, 6] (.seq (.seq (.region [1, 3, 5, 6, 77] [qI 70 (.mv (.t 6)), qI 71 (.fieldAddr 2 (.t 1)), qI 72 (.load false 1 (.t 71)), qI 73 (.mv (.t 5)), qI 74 (.indexAddr 1 (.t 72) (.t 73)), qI 75 (.load false 1 (.t 74)), qI 76 (.len (.t 75)), qI 77 (.bin .lss .other (.t 70) (.t 76))])
  (.cond (.t 77) .skip (.exit 4)))
  (.seq (.block 5 (.seq (.draw [1, 3, 5, 6, 92] [] [qD 80 (.fieldAddr 0 (.t 1)) 0, qD 81 (.load false 1 (.t 80)) 1, qD 82 (.fieldAddr 2 (.t 1)) 2, qD 83 (.load false 1 (.t 82)) 3, qD 84 (.mv (.t 5)) 4, qD 85 (.indexAddr 1 (.t 83) (.t 84)) 5, qD 86 (.load false 1 (.t 85)) 6, qD 87 (.mv (.t 6)) 7, qD 88 (.indexAddr 1 (.t 86) (.t 87)) 8, qD 89 (.load false 1 (.t 88)) 9, qD 90 (.mv (.t 5)) 10, eD 91 (.call 109 [(.t 81), (.t 89), (.t 90)]) 11 [], qD 92 (.un .not (.t 91)) 12])
  (.cond (.t 92) (.seq (.region [2] [qI 2 (.mv (.c (.bool false)))])
  .ret) .skip)))
  (.region [1, 3, 5, 6] [qI 78 (.mv (.t 6)), qI 79 (.bin .add .other (.t 78) (.c (.int .i64 1))), qI 6 (.mv (.t 79))]))))))))
  (.region [1, 3, 5] [qI 45 (.mv (.t 5)), qI 46 (.bin .add .other (.t 45) (.c (.int .i64 1))), qI 5 (.mv (.t 46))]))))))
  (.seq (.region [2] [qI 2 (.mv (.c (.bool true)))])
  .ret)))))))⟩
theorem cf92 : cF Try.prog Try.f92 = some if92 := by kernel_rfl
/-- loop.example/g01076/spec.l01In -/
def if93 : IFn := ⟨[0, 1, 2], [(.tmp 6)], (.seq (.region [0, 1, 2] [qI 6 (.mv (.c (.bool false)))])
  (.seq (.region [6] [qI 7 (.mv (.t 0)), qI 8 (.mv (.t 1)), qI 9 (.bin .geq .other (.t 7) (.t 8)), qI 10 (.mv (.t 9)), ⟨(some 11), .mv (.t 0), true, (some (10, true))⟩, ⟨(some 12), .mv (.t 2), true, (some (10, true))⟩, ⟨(some 13), .bin .leq .other (.t 11) (.t 12), true, (some (10, true))⟩, qI 14 (.pick (.t 10) (.t 13) (.c (.bool false))), qI 6 (.mv (.t 14))])
  .ret))⟩
theorem cf93 : cF Try.prog Try.f93 = some if93 := by kernel_rfl
/-- loop.example/g01076/spec.l08Consistent -/
def if97 : IFn := ⟨[0], [(.tmp 2)], (.seq (.region [1] [eI 1 (.box (.t 0)), qI 2 (.mv (.c (.bool false)))])
  (.seq (.region [2] [qI 3 (.load true 3 (.t 1)), eI 4 (.call 126 [(.t 3)]), qI 5 (.field false 1 0 (.t 4)), qI 6 (.bin .eql .other (.t 5) (.c (.int .i64 0))), qI 2 (.mv (.t 6))])
  .ret))⟩
theorem cf97 : cF Try.prog Try.f97 = some if97 := by kernel_rfl
/-- loop.example/g01076/spec.l01Prime -/
def if98 : IFn := ⟨[0], [(.tmp 2)], (.seq (.region [0] [qI 2 (.mv (.c (.bool false)))])
  (.seq (.region [2] [qI 3 (.mv (.t 0)), qI 4 (.bin .eql .other (.t 3) (.c (.int .i64 2))), qI 5 (.mv (.t 4)), ⟨(some 6), .mv (.t 0), true, (some (5, false))⟩, ⟨(some 7), .bin .eql .other (.t 6) (.c (.int .i64 3)), true, (some (5, false))⟩, qI 8 (.pick (.t 5) (.c (.bool true)) (.t 7)), qI 9 (.mv (.t 8)), ⟨(some 10), .mv (.t 0), true, (some (9, false))⟩, ⟨(some 11), .bin .eql .other (.t 10) (.c (.int .i64 5)), true, (some (9, false))⟩, qI 12 (.pick (.t 9) (.c (.bool true)) (.t 11)), qI 13 (.mv (.t 12)), ⟨(some 14), .mv (.t 0), true, (some (13, false))⟩, ⟨(some 15), .bin .eql .other (.t 14) (.c (.int .i64 7)), true, (some (13, false))⟩, qI 16 (.pick (.t 13) (.c (.bool true)) (.t 15)), qI 2 (.mv (.t 16))])
  .ret))⟩
theorem cf98 : cF Try.prog Try.f98 = some if98 := by kernel_rfl
/-- loop.example/g01076/spec.l21Rows -/
def if99 : IFn := ⟨[0, 1, 2], [(.tmp 6)], (.seq (.region [0, 1, 2] [qI 6 (.mv (.c (.bool false)))])
  (.seq (.seq (.region [0, 1, 2, 11] [qI 8 (.mv (.t 2)), qI 9 (.len (.t 8)), qI 10 (.mv (.t 1)), qI 11 (.bin .neq .other (.t 9) (.t 10))])
  (.cond (.t 11) (.seq (.region [6] [qI 6 (.mv (.c (.bool false)))])
  .ret) .skip))
  (.seq (.seq (.region [0, 1, 2, 7] [qI 7 (.mv (.c (.int .i64 0)))])
  (.block 0 (.loop [0, 1, 2, 7] (.seq (.seq (.region [0, 1, 2, 7, 15] [qI 12 (.mv (.t 7)), qI 13 (.mv (.t 2)), qI 14 (.len (.t 13)), qI 15 (.bin .lss .other (.t 12) (.t 14))])
  (.cond (.t 15) .skip (.exit 0)))
  (.seq (.block 1 (.seq (.region [0, 1, 2, 7, 25] [qI 18 (.mv (.t 0)), qI 19 (.mv (.t 1)), qI 20 (.mv (.t 2)), qI 21 (.mv (.t 7)), qI 22 (.indexAddr 1 (.t 20) (.t 21)), qI 23 (.load false 1 (.t 22)), eI 24 (.call 63 [(.t 18), (.t 19), (.t 23)]), qI 25 (.un .not (.t 24))])
  (.cond (.t 25) (.seq (.region [6] [qI 6 (.mv (.c (.bool false)))])
  .ret) .skip)))
  (.region [0, 1, 2, 7] [qI 16 (.mv (.t 7)), qI 17 (.bin .add .other (.t 16) (.c (.int .i64 1))), qI 7 (.mv (.t 17))]))))))
  (.seq (.region [6] [qI 6 (.mv (.c (.bool true)))])
  .ret))))⟩
theorem cf99 : cF Try.prog Try.f99 = some if99 := by kernel_rfl
/-- loop.example/g01076/spec.l02Unit -/
def if100 : IFn := ⟨[0], [(.tmp 2)], (.seq (.region [0] [qI 2 (.mv (.c .nils))])
  (.seq (.region [0, 3] [eI 6 (.buildSl 1 0 [.nils] []), qI 3 (.mv (.t 6))])
  (.seq (.seq (.region [0, 3, 4] [qI 4 (.mv (.c (.int .i64 0)))])
  (.block 0 (.loop [0, 3, 4] (.seq (.seq (.region [0, 3, 4, 9] [qI 7 (.mv (.t 4)), qI 8 (.mv (.t 0)), qI 9 (.bin .lss .other (.t 7) (.t 8))])
  (.cond (.t 9) .skip (.exit 0)))
  (.seq (.block 1 (.seq (.region [0, 3, 4, 5] [qI 12 (.mv (.t 0)), eI 13 (.makeSl 1 8 [(.int .i64 0)] (.t 12) (.t 12)), qI 5 (.mv (.t 13))])
  (.seq (.region [0, 3, 4, 5] [qI 14 (.mv (.t 5)), qI 15 (.mv (.t 4)), qI 16 (.indexAddr 1 (.t 14) (.t 15)), nI (.store 1 (.t 16) (.c (.int .i64 1)))])
  (.region [0, 3, 4] [qI 17 (.mv (.t 3)), qI 18 (.mv (.t 5)), eI 19 (.buildSl 1 1 [.nils] [(0, 1, (.t 18))]), eI 20 (.append 1 24 (.t 17) (.t 19)), qI 3 (.mv (.t 20))]))))
  (.region [0, 3, 4] [qI 10 (.mv (.t 4)), qI 11 (.bin .add .other (.t 10) (.c (.int .i64 1))), qI 4 (.mv (.t 11))]))))))
  (.seq (.region [2] [qI 21 (.mv (.t 3)), qI 2 (.mv (.t 21))])
  .ret))))⟩
theorem cf100 : cF Try.prog Try.f100 = some if100 := by kernel_rfl
/-- loop.example/g01076/spec.l02Product -/
def if101 : IFn := ⟨[0, 1, 2, 3], [(.tmp 8)], (.seq (.region [0, 1, 2, 3] [qI 8 (.mv (.c .nils))])
  (.seq (.region [0, 1, 2, 3, 9] [eI 11 (.buildSl 1 0 [.nils] []), qI 9 (.mv (.t 11))])
  (.seq (.seq (.region [0, 1, 2, 3, 9, 10] [qI 10 (.mv (.c (.int .i64 0)))])
  (.block 0 (.loop [0, 1, 2, 3, 9, 10] (.seq (.seq (.region [0, 1, 2, 3, 9, 10, 15] [qI 12 (.mv (.t 10)), qI 13 (.mv (.t 1)), qI 14 (.len (.t 13)), qI 15 (.bin .lss .other (.t 12) (.t 14))])
  (.cond (.t 15) .skip (.exit 0)))
  (.seq (.block 1 (.region [0, 1, 2, 3, 9, 10] [qI 18 (.mv (.t 9)), qI 19 (.mv (.t 0)), qI 20 (.mv (.t 1)), qI 21 (.mv (.t 10)), qI 22 (.indexAddr 1 (.t 20) (.t 21)), qI 23 (.load false 1 (.t 22)), qI 24 (.mv (.t 2)), qI 25 (.mv (.t 3)), eI 26 (.call 65 [(.t 19), (.t 23), (.t 24), (.t 25)]), eI 27 (.buildSl 1 1 [.nils] [(0, 1, (.t 26))]), eI 28 (.append 1 24 (.t 18) (.t 27)), qI 9 (.mv (.t 28))]))
  (.region [0, 1, 2, 3, 9, 10] [qI 16 (.mv (.t 10)), qI 17 (.bin .add .other (.t 16) (.c (.int .i64 1))), qI 10 (.mv (.t 17))]))))))
  (.seq (.region [8] [qI 29 (.mv (.t 9)), qI 8 (.mv (.t 29))])
  .ret))))⟩
theorem cf101 : cF Try.prog Try.f101 = some if101 := by kernel_rfl
/-- loop.example/g01076/spec.l01Same2 -/
def if102 : IFn := ⟨[0, 1], [(.tmp 4)], (.seq (.region [0, 1] [qI 4 (.mv (.c (.bool false)))])
  (.seq (.seq (.region [0, 1, 10] [qI 6 (.mv (.t 0)), qI 7 (.len (.t 6)), qI 8 (.mv (.t 1)), qI 9 (.len (.t 8)), qI 10 (.bin .neq .other (.t 7) (.t 9))])
  (.cond (.t 10) (.seq (.region [4] [qI 4 (.mv (.c (.bool false)))])
  .ret) .skip))
  (.seq (.seq (.region [0, 1, 5] [qI 5 (.mv (.c (.int .i64 0)))])
  (.block 0 (.loop [0, 1, 5] (.seq (.seq (.region [0, 1, 5, 14] [qI 11 (.mv (.t 5)), qI 12 (.mv (.t 0)), qI 13 (.len (.t 12)), qI 14 (.bin .lss .other (.t 11) (.t 13))])
  (.cond (.t 14) .skip (.exit 0)))
  (.seq (.block 1 (.seq (.draw [0, 1, 5, 26] [] [qD 17 (.mv (.t 0)) 0, qD 18 (.mv (.t 5)) 1, qD 19 (.indexAddr 1 (.t 17) (.t 18)) 2, qD 20 (.load false 1 (.t 19)) 3, qD 21 (.mv (.t 1)) 4, qD 22 (.mv (.t 5)) 5, qD 23 (.indexAddr 1 (.t 21) (.t 22)) 6, qD 24 (.load false 1 (.t 23)) 7, eD 25 (.call 127 [(.t 20), (.t 24)]) 8 [], qD 26 (.un .not (.t 25)) 9])
  (.cond (.t 26) (.seq (.region [4] [qI 4 (.mv (.c (.bool false)))])
  .ret) .skip)))
  (.region [0, 1, 5] [qI 15 (.mv (.t 5)), qI 16 (.bin .add .other (.t 15) (.c (.int .i64 1))), qI 5 (.mv (.t 16))]))))))
  (.seq (.region [4] [qI 4 (.mv (.c (.bool true)))])
  .ret))))⟩
theorem cf102 : cF Try.prog Try.f102 = some if102 := by kernel_rfl
/-- loop.example/g01076/impl.IsConsistent -/
def if103 : IFn := ⟨[0], [(.tmp 2)], (.seq (.region [1] [eI 1 (.box (.t 0)), qI 2 (.mv (.c (.bool false)))])
  (.seq (.region [2] [qI 3 (.load true 3 (.t 1)), eI 4 (.call 125 [(.t 3)]), qI 5 (.mv (.t 4)), ⟨(some 6), .call 128 [(.t 1)], false, (some (5, true))⟩, ⟨(some 7), .bin .eql .other (.t 6) (.c (.int .i64 0)), true, (some (5, true))⟩, qI 8 (.pick (.t 5) (.t 7) (.c (.bool false))), qI 2 (.mv (.t 8))])
  .ret))⟩
theorem cf103 : cF Try.prog Try.f103 = some if103 := by kernel_rfl
/-- loop.example/g01076/impl.IsGroupPrime -/
def if104 : IFn := ⟨[0], [(.tmp 2)], (.seq (.region [0] [qI 2 (.mv (.c (.bool false)))])
  (.seq (.region [2] [qI 3 (.mv (.t 0)), qI 4 (.bin .eql .other (.t 3) (.c (.int .i64 2))), qI 5 (.mv (.t 4)), ⟨(some 6), .mv (.t 0), true, (some (5, false))⟩, ⟨(some 7), .bin .eql .other (.t 6) (.c (.int .i64 3)), true, (some (5, false))⟩, qI 8 (.pick (.t 5) (.c (.bool true)) (.t 7)), qI 9 (.mv (.t 8)), ⟨(some 10), .mv (.t 0), true, (some (9, false))⟩, ⟨(some 11), .bin .eql .other (.t 10) (.c (.int .i64 5)), true, (some (9, false))⟩, qI 12 (.pick (.t 9) (.c (.bool true)) (.t 11)), qI 13 (.mv (.t 12)), ⟨(some 14), .mv (.t 0), true, (some (13, false))⟩, ⟨(some 15), .bin .eql .other (.t 14) (.c (.int .i64 7)), true, (some (13, false))⟩, qI 16 (.pick (.t 13) (.c (.bool true)) (.t 15)), qI 2 (.mv (.t 16))])
  .ret))⟩
theorem cf104 : cF Try.prog Try.f104 = some if104 := by kernel_rfl
/-- loop.example/g01076/impl.inside -/
def if105 : IFn := ⟨[0, 1, 2], [(.tmp 6)], (.seq (.region [0, 1, 2] [qI 6 (.mv (.c (.bool false)))])
  (.seq (.region [6] [qI 7 (.mv (.t 0)), qI 8 (.mv (.t 1)), qI 9 (.bin .geq .other (.t 7) (.t 8)), qI 10 (.mv (.t 9)), ⟨(some 11), .mv (.t 0), true, (some (10, true))⟩, ⟨(some 12), .mv (.t 2), true, (some (10, true))⟩, ⟨(some 13), .bin .leq .other (.t 11) (.t 12), true, (some (10, true))⟩, qI 14 (.pick (.t 10) (.t 13) (.c (.bool false))), qI 6 (.mv (.t 14))])
  .ret))⟩
theorem cf105 : cF Try.prog Try.f105 = some if105 := by kernel_rfl
/-- loop.example/g01076/impl.actionAt -/
def if106 : IFn := ⟨[0, 1], [(.cell 4 true 3)], (.seq (.region [0, 1, 4] [eI 4 (.alloc [(.int .i64 0), (.int .i64 0), .nils])])
  (.seq (.draw [4] [] [qD 5 (.mv (.t 0)) 0, qD 6 (.nilCheck (.t 5)) 1, qD 7 (.fieldAddr 0 (.t 6)) 2, qD 8 (.load false 1 (.t 7)) 3, qD 9 (.mv (.t 0)) 4, qD 10 (.nilCheck (.t 9)) 5, qD 11 (.fieldAddr 1 (.t 10)) 6, qD 12 (.load false 1 (.t 11)) 7, qD 13 (.mv (.t 0)) 8, qD 14 (.nilCheck (.t 13)) 9, qD 15 (.fieldAddr 2 (.t 14)) 10, qD 16 (.load false 1 (.t 15)) 11, qD 17 (.mv (.t 1)) 12, qD 18 (.indexAddr 1 (.t 16) (.t 17)) 13, qD 19 (.load false 1 (.t 18)) 14, qD 20 (.build [(.int .i64 0), (.int .i64 0), .nils] [(0, 1, (.t 8)), (1, 1, (.t 12)), (2, 1, (.t 19))]) 15, ⟨nI (.store 3 (.t 4) (.t 20)), 16, []⟩])
  .ret))⟩
theorem cf106 : cF Try.prog Try.f106 = some if106 := by kernel_rfl
/-- loop.example/g01076/impl.relationSides -/
def if107 : IFn := ⟨[0], [(.tmp 2)], (.seq (.region [0] [qI 2 (.mv (.c .nils))])
  (.seq (.region [0, 3] [qI 3 (.mv (.c .nils))])
  (.seq (.seq (.region [0, 3, 14, 15, 16] [qI 11 (.mv (.t 0)), qI 12 (.nilCheck (.t 11)), qI 13 (.fieldAddr 0 (.t 12)), qI 14 (.load false 1 (.t 13)), qI 15 (.len (.t 14)), qI 16 (.mv (.c (.int .i64 0)))])
  (.block 0 (.loop [0, 3, 14, 15, 16] (.seq (.region [0, 3, 14, 15, 16, 17] [qI 17 (.bin .lss .other (.t 16) (.t 15))])
  (.seq (.cond (.t 17) .skip (.exit 0))
  (.seq (.block 1 (.seq (.region [0, 3, 4, 5, 14, 15, 16] [qI 18 (.mv (.t 16)), qI 19 (.indexAddr 1 (.t 14) (.t 16)), qI 20 (.load false 1 (.t 19)), qI 4 (.mv (.t 18)), qI 5 (.mv (.t 20))])
  (.draw [0, 3, 14, 15, 16] [] [qD 21 (.mv (.t 3)) 0, qD 22 (.mv (.t 4)) 1, qD 23 (.bin .add .other (.t 22) (.c (.int .i64 1))) 2, qD 25 (.mv (.t 5)) 4, qD 27 (.mv (.t 0)) 6, qD 28 (.nilCheck (.t 27)) 7, qD 29 (.fieldAddr 1 (.t 28)) 8, qD 30 (.load false 1 (.t 29)) 9, qD 31 (.mv (.t 4)) 10, qD 32 (.indexAddr 1 (.t 30) (.t 31)) 11, qD 33 (.load false 1 (.t 32)) 12, eD 24 (.buildSl 1 1 [(.int .i64 0)] [(0, 1, (.t 23))]) 3 [9, 12], eD 26 (.call 129 [(.t 24), (.t 25)]) 5 [9, 12], eD 34 (.call 71 [(.t 33)]) 13 [], qD 35 (.build [.nils, .nils] [(0, 1, (.t 26)), (1, 1, (.t 34))]) 14, eD 36 (.buildSl 2 1 [.nils, .nils] [(0, 2, (.t 35))]) 15 [], eD 37 (.append 2 48 (.t 21) (.t 36)) 16 [], qD 3 (.mv (.t 37)) 17])))
  (.region [0, 3, 14, 15, 16] [qI 38 (.bin .add .other (.t 16) (.c (.int .i64 1))), qI 16 (.mv (.t 38))])))))))
  (.seq (.seq (.region [0, 3, 43, 44] [qI 39 (.mv (.t 0)), qI 40 (.nilCheck (.t 39)), qI 41 (.fieldAddr 0 (.t 40)), qI 42 (.load false 1 (.t 41)), qI 43 (.len (.t 42)), qI 44 (.mv (.c (.int .i64 0)))])
  (.block 2 (.loop [0, 3, 43, 44] (.seq (.region [0, 3, 43, 44, 45] [qI 45 (.bin .lss .other (.t 44) (.t 43))])
  (.seq (.cond (.t 45) .skip (.exit 2))
  (.seq (.block 3 (.seq (.region [0, 3, 6, 43, 44] [qI 46 (.mv (.t 44)), qI 6 (.mv (.t 46))])
  (.seq (.region [0, 3, 6, 43, 44, 53, 54, 55] [qI 47 (.mv (.t 0)), qI 48 (.nilCheck (.t 47)), qI 49 (.fieldAddr 2 (.t 48)), qI 50 (.load false 1 (.t 49)), qI 51 (.mv (.t 6)), qI 52 (.indexAddr 1 (.t 50) (.t 51)), qI 53 (.load false 1 (.t 52)), qI 54 (.len (.t 53)), qI 55 (.mv (.c (.int .i64 0)))])
  (.block 4 (.loop [0, 3, 6, 43, 44, 53, 54, 55] (.seq (.region [0, 3, 6, 43, 44, 53, 54, 55, 56] [qI 56 (.bin .lss .other (.t 55) (.t 54))])
  (.seq (.cond (.t 56) .skip (.exit 4))
  (.seq (.block 5 (.seq (.region [0, 3, 6, 7, 8, 43, 44, 53, 54, 55] [qI 57 (.mv (.t 55)), qI 58 (.indexAddr 1 (.t 53) (.t 55)), qI 59 (.load false 1 (.t 58)), qI 7 (.mv (.t 57)), qI 8 (.mv (.t 59))])
  (.seq (.region [0, 3, 6, 8, 9, 10, 43, 44, 53, 54, 55] [qI 60 (.mv (.t 6)), qI 61 (.bin .add .other (.t 60) (.c (.int .i64 1))), qI 62 (.mv (.t 6)), qI 63 (.mv (.t 7)), qI 64 (.bin .add .other (.t 62) (.t 63)), qI 65 (.bin .add .other (.t 64) (.c (.int .i64 2))), qI 9 (.mv (.t 61)), qI 10 (.mv (.t 65))])
  (.region [0, 3, 6, 43, 44, 53, 54, 55] [qI 66 (.mv (.t 3)), qI 67 (.mv (.t 10)), qI 68 (.mv (.t 9)), eI 69 (.buildSl 1 2 [(.int .i64 0)] [(0, 1, (.t 67)), (1, 1, (.t 68))]), qI 70 (.mv (.t 9)), eI 71 (.buildSl 1 1 [(.int .i64 0)] [(0, 1, (.t 70))]), qI 72 (.mv (.t 8)), eI 73 (.call 71 [(.t 72)]), eI 74 (.append 1 8 (.t 71) (.t 73)), qI 75 (.build [.nils, .nils] [(0, 1, (.t 69)), (1, 1, (.t 74))]), eI 76 (.buildSl 2 1 [.nils, .nils] [(0, 2, (.t 75))]), eI 77 (.append 2 48 (.t 66) (.t 76)), qI 3 (.mv (.t 77))]))))
  (.region [0, 3, 6, 43, 44, 53, 54, 55] [qI 78 (.bin .add .other (.t 55) (.c (.int .i64 1))), qI 55 (.mv (.t 78))])))))))))
  (.region [0, 3, 43, 44] [qI 79 (.bin .add .other (.t 44) (.c (.int .i64 1))), qI 44 (.mv (.t 79))])))))))
  (.seq (.region [2] [qI 80 (.mv (.t 3)), qI 2 (.mv (.t 80))])
  .ret)))))⟩
theorem cf107 : cF Try.prog Try.f107 = some if107 := by kernel_rfl
/-- loop.example/g01076/impl.sameRows -/
def if108 : IFn := ⟨[0, 1], [(.tmp 4)], (.seq (.region [0, 1] [qI 4 (.mv (.c (.bool false)))])
  (.seq (.region [4] [qI 5 (.mv (.t 0)), qI 6 (.mv (.t 1)), eI 7 (.call 130 [(.t 5), (.t 6), (.c (.clo 131 [] []))]), qI 4 (.mv (.t 7))])
  .ret))⟩
theorem cf108 : cF Try.prog Try.f108 = some if108 := by kernel_rfl
/-- loop.example/g01076/spec.l07Exponents -/
def if109 : IFn := ⟨[0, 1, 2], [(.tmp 6)], (.seq (.region [0, 1, 2] [qI 6 (.mv (.c (.bool false)))])
  (.seq (.seq (.region [0, 1, 2, 12] [qI 8 (.mv (.t 1)), qI 9 (.len (.t 8)), qI 10 (.mv (.t 0)), qI 11 (.len (.t 10)), qI 12 (.bin .neq .other (.t 9) (.t 11))])
  (.cond (.t 12) (.seq (.region [6] [qI 6 (.mv (.c (.bool false)))])
  .ret) .skip))
  (.seq (.seq (.region [0, 1, 2, 7] [qI 7 (.mv (.c (.int .i64 0)))])
  (.block 0 (.loop [0, 1, 2, 7] (.seq (.seq (.region [0, 1, 2, 7, 16] [qI 13 (.mv (.t 7)), qI 14 (.mv (.t 1)), qI 15 (.len (.t 14)), qI 16 (.bin .lss .other (.t 13) (.t 15))])
  (.cond (.t 16) .skip (.exit 0)))
  (.seq (.block 1 (.seq (.draw [0, 1, 2, 7, 41] [] [qD 19 (.mv (.t 1)) 0, qD 20 (.mv (.t 7)) 1, qD 21 (.indexAddr 1 (.t 19) (.t 20)) 2, qD 22 (.load false 1 (.t 21)) 3, qD 23 (.mv (.t 0)) 4, qD 24 (.mv (.t 7)) 5, qD 25 (.indexAddr 1 (.t 23) (.t 24)) 6, qD 26 (.load false 1 (.t 25)) 7, qD 27 (.bin .sub .other (.t 26) (.c (.int .i64 1))) 8, eD 28 (.call 93 [(.t 22), (.c (.int .i64 0)), (.t 27)]) 9 [], qD 29 (.un .not (.t 28)) 10, qD 30 (.mv (.t 29)) 11, ⟨⟨(some 31), .mv (.t 7), true, (some (30, false))⟩, 12, []⟩, ⟨⟨(some 32), .mv (.t 2), true, (some (30, false))⟩, 13, []⟩, ⟨⟨(some 33), .bin .leq .other (.t 31) (.t 32), true, (some (30, false))⟩, 14, []⟩, ⟨⟨(some 34), .mv (.t 33), true, (some (30, false))⟩, 15, []⟩, ⟨⟨(some 35), .mv (.t 1), true, (some (34, true))⟩, 16, []⟩, ⟨⟨(some 36), .mv (.t 7), true, (some (34, true))⟩, 17, []⟩, ⟨⟨(some 37), .indexAddr 1 (.t 35) (.t 36), true, (some (34, true))⟩, 18, []⟩, ⟨⟨(some 38), .load false 1 (.t 37), true, (some (34, true))⟩, 19, []⟩, ⟨⟨(some 39), .bin .neq .other (.t 38) (.c (.int .i64 0)), true, (some (34, true))⟩, 20, []⟩, ⟨⟨(some 40), .pick (.t 34) (.t 39) (.c (.bool false)), true, (some (30, false))⟩, 21, []⟩, qD 41 (.pick (.t 30) (.c (.bool true)) (.t 40)) 22])
  (.cond (.t 41) (.seq (.region [6] [qI 6 (.mv (.c (.bool false)))])
  .ret) .skip)))
  (.region [0, 1, 2, 7] [qI 17 (.mv (.t 7)), qI 18 (.bin .add .other (.t 17) (.c (.int .i64 1))), qI 7 (.mv (.t 18))]))))))
  (.seq (.region [6] [qI 6 (.mv (.c (.bool true)))])
  .ret))))⟩
theorem cf109 : cF Try.prog Try.f109 = some if109 := by kernel_rfl
/-- loop.example/g01076/impl.addMultiple -/
def if110 : IFn := ⟨[0, 1, 2, 3], [], (.seq (.region [0, 1, 2, 3, 10, 11] [qI 9 (.mv (.t 0)), qI 10 (.len (.t 9)), qI 11 (.mv (.c (.int .i64 0)))])
  (.block 0 (.loop [0, 1, 2, 3, 10, 11] (.seq (.region [0, 1, 2, 3, 10, 11, 12] [qI 12 (.bin .lss .other (.t 11) (.t 10))])
  (.seq (.cond (.t 12) .skip (.exit 0))
  (.seq (.block 1 (.seq (.region [0, 1, 2, 3, 8, 10, 11] [qI 13 (.mv (.t 11)), qI 8 (.mv (.t 13))])
  (.draw [0, 1, 2, 3, 10, 11] [] [qD 14 (.mv (.t 0)) 0, qD 15 (.mv (.t 8)) 1, qD 16 (.mv (.t 0)) 2, qD 17 (.mv (.t 8)) 3, qD 18 (.indexAddr 1 (.t 16) (.t 17)) 4, qD 19 (.load false 1 (.t 18)) 5, qD 20 (.mv (.t 2)) 6, qD 21 (.mv (.t 1)) 7, qD 22 (.mv (.t 8)) 8, qD 23 (.indexAddr 1 (.t 21) (.t 22)) 9, qD 24 (.load false 1 (.t 23)) 10, qD 25 (.bin .mul .other (.t 20) (.t 24)) 11, qD 26 (.bin .add .other (.t 19) (.t 25)) 12, qD 27 (.mv (.t 3)) 13, eD 28 (.call 132 [(.t 26), (.t 27)]) 14 [], qD 29 (.indexAddr 1 (.t 14) (.t 15)) 15, ⟨nI (.store 1 (.t 29) (.t 28)), 16, []⟩])))
  (.region [0, 1, 2, 3, 10, 11] [qI 30 (.bin .add .other (.t 11) (.c (.int .i64 1))), qI 11 (.mv (.t 30))])))))))⟩
theorem cf110 : cF Try.prog Try.f110 = some if110 := by kernel_rfl
/-- loop.example/g01076/impl.identityOf -/
def if111 : IFn := ⟨[0, 1], [(.cell 4 true 3)], (.seq (.region [0, 1, 4] [eI 4 (.alloc [(.int .i64 0), (.int .i64 0), .nils])])
  (.seq (.region [1, 4, 5] [qI 8 (.mv (.t 0)), qI 9 (.mv (.t 1)), qI 10 (.build [(.int .i64 0), (.int .i64 0), .nils] [(0, 1, (.t 8)), (1, 1, (.t 9))]), eI 5 (.alloc [(.int .i64 0), (.int .i64 0), .nils]), nI (.store 3 (.t 5) (.t 10))])
  (.seq (.seq (.region [1, 4, 5, 11, 12] [qI 11 (.mv (.t 1)), qI 12 (.mv (.c (.int .i64 0)))])
  (.block 0 (.loop [1, 4, 5, 11, 12] (.seq (.region [1, 4, 5, 11, 12, 13] [qI 13 (.bin .lss .other (.t 12) (.t 11))])
  (.seq (.cond (.t 13) .skip (.exit 0))
  (.seq (.block 1 (.seq (.region [1, 4, 5, 6, 11, 12] [qI 14 (.mv (.t 12)), qI 6 (.mv (.t 14))])
  (.seq (.region [1, 4, 5, 6, 7, 11, 12] [qI 15 (.mv (.t 1)), eI 16 (.makeSl 1 8 [(.int .i64 0)] (.t 15) (.t 15)), qI 7 (.mv (.t 16))])
  (.seq (.region [1, 4, 5, 7, 11, 12] [qI 17 (.mv (.t 7)), qI 18 (.mv (.t 6)), qI 19 (.indexAddr 1 (.t 17) (.t 18)), nI (.store 1 (.t 19) (.c (.int .i64 1)))])
  (.region [1, 4, 5, 11, 12] [qI 20 (.fieldAddr 2 (.t 5)), qI 21 (.load false 1 (.t 20)), qI 22 (.mv (.t 7)), eI 23 (.buildSl 1 1 [.nils] [(0, 1, (.t 22))]), eI 24 (.append 1 24 (.t 21) (.t 23)), qI 25 (.fieldAddr 2 (.t 5)), nI (.store 1 (.t 25) (.t 24))])))))
  (.region [1, 4, 5, 11, 12] [qI 26 (.bin .add .other (.t 12) (.c (.int .i64 1))), qI 12 (.mv (.t 26))])))))))
  (.seq (.region [4] [qI 27 (.load true 3 (.t 5)), nI (.store 3 (.t 4) (.t 27))])
  .ret))))⟩
theorem cf111 : cF Try.prog Try.f111 = some if111 := by kernel_rfl
/-- loop.example/g01076/impl.product -/
def if112 : IFn := ⟨[0, 1], [(.cell 4 true 3)], (.seq (.region [2, 3, 4] [eI 2 (.box (.t 0)), eI 3 (.box (.t 1)), eI 4 (.alloc [(.int .i64 0), (.int .i64 0), .nils])])
  (.seq (.region [2, 3, 4, 5] [qI 8 (.fieldAddr 0 (.t 2)), qI 9 (.load false 1 (.t 8)), qI 10 (.fieldAddr 1 (.t 3)), qI 11 (.load false 1 (.t 10)), qI 12 (.build [(.int .i64 0), (.int .i64 0), .nils] [(0, 1, (.t 9)), (1, 1, (.t 11))]), eI 5 (.alloc [(.int .i64 0), (.int .i64 0), .nils]), nI (.store 3 (.t 5) (.t 12))])
  (.seq (.seq (.region [3, 4, 5, 14, 15, 16] [qI 13 (.fieldAddr 2 (.t 2)), qI 14 (.load false 1 (.t 13)), qI 15 (.len (.t 14)), qI 16 (.mv (.c (.int .i64 0)))])
  (.block 0 (.loop [3, 4, 5, 14, 15, 16] (.seq (.region [3, 4, 5, 14, 15, 16, 17] [qI 17 (.bin .lss .other (.t 16) (.t 15))])
  (.seq (.cond (.t 17) .skip (.exit 0))
  (.seq (.block 1 (.seq (.region [3, 4, 5, 7, 14, 15, 16] [qI 18 (.indexAddr 1 (.t 14) (.t 16)), qI 19 (.load false 1 (.t 18)), qI 7 (.mv (.t 19))])
  (.draw [3, 4, 5, 14, 15, 16] [] [qD 20 (.fieldAddr 2 (.t 5)) 0, qD 21 (.load false 1 (.t 20)) 1, qD 22 (.mv (.t 7)) 2, qD 23 (.load true 3 (.t 3)) 3, eD 24 (.call 69 [(.t 22), (.t 23)]) 4 [1], eD 25 (.buildSl 1 1 [.nils] [(0, 1, (.t 24))]) 5 [1], eD 26 (.append 1 24 (.t 21) (.t 25)) 6 [], qD 27 (.fieldAddr 2 (.t 5)) 7, ⟨nI (.store 1 (.t 27) (.t 26)), 8, []⟩])))
  (.region [3, 4, 5, 14, 15, 16] [qI 28 (.bin .add .other (.t 16) (.c (.int .i64 1))), qI 16 (.mv (.t 28))])))))))
  (.seq (.region [4] [qI 29 (.load true 3 (.t 5)), nI (.store 3 (.t 4) (.t 29))])
  .ret))))⟩
theorem cf112 : cF Try.prog Try.f112 = some if112 := by kernel_rfl
/-- loop.example/g01076/spec.l07Product -/
def if123 : IFn := ⟨[0], [(.tmp 2)], (.seq (.region [0] [qI 2 (.mv (.c (.int .i64 0)))])
  (.seq (.region [0, 3] [qI 3 (.mv (.c (.int .i64 1)))])
  (.seq (.seq (.region [0, 3, 4] [qI 4 (.mv (.c (.int .i64 0)))])
  (.block 0 (.loop [0, 3, 4] (.seq (.seq (.region [0, 3, 4, 8] [qI 5 (.mv (.t 4)), qI 6 (.mv (.t 0)), qI 7 (.len (.t 6)), qI 8 (.bin .lss .other (.t 5) (.t 7))])
  (.cond (.t 8) .skip (.exit 0)))
  (.seq (.block 1 (.seq (.region [0, 3, 4, 12] [qI 11 (.mv (.t 3)), qI 12 (.bin .leq .other (.t 11) (.c (.int .i64 729)))])
  (.cond (.t 12) (.region [0, 3, 4] [qI 13 (.mv (.t 3)), qI 14 (.mv (.t 0)), qI 15 (.mv (.t 4)), qI 16 (.indexAddr 1 (.t 14) (.t 15)), qI 17 (.load false 1 (.t 16)), qI 18 (.bin .mul .other (.t 13) (.t 17)), qI 3 (.mv (.t 18))]) .skip)))
  (.region [0, 3, 4] [qI 9 (.mv (.t 4)), qI 10 (.bin .add .other (.t 9) (.c (.int .i64 1))), qI 4 (.mv (.t 10))]))))))
  (.seq (.region [2] [qI 19 (.mv (.t 3)), qI 2 (.mv (.t 19))])
  .ret))))⟩
theorem cf123 : cF Try.prog Try.f123 = some if123 := by kernel_rfl
/-- loop.example/g01076/impl.IsPresentation -/
def if125 : IFn := ⟨[0], [(.tmp 2)], (.seq (.region [1] [eI 1 (.box (.t 0)), qI 2 (.mv (.c (.bool false)))])
  (.seq (.region [1, 3] [qI 10 (.fieldAddr 0 (.t 1)), qI 11 (.load false 1 (.t 10)), qI 12 (.len (.t 11)), qI 3 (.mv (.t 12))])
  (.seq (.seq (.region [1, 3, 28] [qI 13 (.mv (.t 3)), qI 14 (.bin .gtr .other (.t 13) (.c (.int .i64 6))), qI 15 (.mv (.t 14)), ⟨(some 16), .fieldAddr 1 (.t 1), true, (some (15, false))⟩, ⟨(some 17), .load false 1 (.t 16), true, (some (15, false))⟩, ⟨(some 18), .len (.t 17), true, (some (15, false))⟩, ⟨(some 19), .mv (.t 3), true, (some (15, false))⟩, ⟨(some 20), .bin .neq .other (.t 18) (.t 19), true, (some (15, false))⟩, qI 21 (.pick (.t 15) (.c (.bool true)) (.t 20)), qI 22 (.mv (.t 21)), ⟨(some 23), .fieldAddr 2 (.t 1), true, (some (22, false))⟩, ⟨(some 24), .load false 1 (.t 23), true, (some (22, false))⟩, ⟨(some 25), .len (.t 24), true, (some (22, false))⟩, ⟨(some 26), .mv (.t 3), true, (some (22, false))⟩, ⟨(some 27), .bin .neq .other (.t 25) (.t 26), true, (some (22, false))⟩, qI 28 (.pick (.t 22) (.c (.bool true)) (.t 27))])
  (.cond (.t 28) (.seq (.region [2] [qI 2 (.mv (.c (.bool false)))])
  .ret) .skip))
  (.seq (.region [1, 3, 4] [qI 4 (.mv (.c (.int .i64 1)))])
  (.seq (.seq (.region [1, 3, 4, 30, 31, 32] [qI 29 (.fieldAddr 0 (.t 1)), qI 30 (.load false 1 (.t 29)), qI 31 (.len (.t 30)), qI 32 (.mv (.c (.int .i64 0)))])
  (.block 0 (.loop [1, 3, 4, 30, 31, 32] (.seq (.region [1, 3, 4, 30, 31, 32, 33] [qI 33 (.bin .lss .other (.t 32) (.t 31))])
  (.seq (.cond (.t 33) .skip (.exit 0))
  (.seq (.block 1 (.seq (.region [1, 3, 4, 6, 30, 31, 32] [qI 34 (.indexAddr 1 (.t 30) (.t 32)), qI 35 (.load false 1 (.t 34)), qI 6 (.mv (.t 35))])
  (.seq (.seq (.region [1, 3, 4, 6, 30, 31, 32, 44] [qI 36 (.mv (.t 6)), eI 37 (.call 104 [(.t 36)]), qI 38 (.un .not (.t 37)), qI 39 (.mv (.t 38)), ⟨(some 40), .mv (.t 4), true, (some (39, false))⟩, ⟨(some 41), .mv (.t 6), true, (some (39, false))⟩, ⟨(some 42), .bin .mul .other (.t 40) (.t 41), true, (some (39, false))⟩, ⟨(some 43), .bin .gtr .other (.t 42) (.c (.int .i64 729)), true, (some (39, false))⟩, qI 44 (.pick (.t 39) (.c (.bool true)) (.t 43))])
  (.cond (.t 44) (.seq (.region [2] [qI 2 (.mv (.c (.bool false)))])
  .ret) .skip))
  (.region [1, 3, 4, 30, 31, 32] [qI 45 (.mv (.t 4)), qI 46 (.mv (.t 6)), qI 47 (.bin .mul .other (.t 45) (.t 46)), qI 4 (.mv (.t 47))]))))
  (.region [1, 3, 4, 30, 31, 32] [qI 48 (.bin .add .other (.t 32) (.c (.int .i64 1))), qI 32 (.mv (.t 48))])))))))
  (.seq (.seq (.region [1, 3, 49, 50] [qI 49 (.mv (.t 3)), qI 50 (.mv (.c (.int .i64 0)))])
  (.block 2 (.loop [1, 3, 49, 50] (.seq (.region [1, 3, 49, 50, 51] [qI 51 (.bin .lss .other (.t 50) (.t 49))])
  (.seq (.cond (.t 51) .skip (.exit 2))
  (.seq (.block 3 (.seq (.region [1, 3, 7, 49, 50] [qI 52 (.mv (.t 50)), qI 7 (.mv (.t 52))])
  (.seq (.seq (.region [1, 3, 7, 49, 50, 73] [qI 53 (.mv (.t 7)), qI 54 (.fieldAddr 1 (.t 1)), qI 55 (.load false 1 (.t 54)), qI 56 (.mv (.t 7)), qI 57 (.indexAddr 1 (.t 55) (.t 56)), qI 58 (.load false 1 (.t 57)), eI 59 (.call 135 [(.t 1), (.t 53), (.t 58)]), qI 60 (.un .not (.t 59)), qI 61 (.mv (.t 60)), ⟨(some 62), .fieldAddr 2 (.t 1), true, (some (61, false))⟩, ⟨(some 63), .load false 1 (.t 62), true, (some (61, false))⟩, ⟨(some 64), .mv (.t 7), true, (some (61, false))⟩, ⟨(some 65), .indexAddr 1 (.t 63) (.t 64), true, (some (61, false))⟩, ⟨(some 66), .load false 1 (.t 65), true, (some (61, false))⟩, ⟨(some 67), .len (.t 66), true, (some (61, false))⟩, ⟨(some 68), .mv (.t 3), true, (some (61, false))⟩, ⟨(some 69), .bin .sub .other (.t 68) (.c (.int .i64 1)), true, (some (61, false))⟩, ⟨(some 70), .mv (.t 7), true, (some (61, false))⟩, ⟨(some 71), .bin .sub .other (.t 69) (.t 70), true, (some (61, false))⟩, ⟨(some 72), .bin .neq .other (.t 67) (.t 71), true, (some (61, false))⟩, qI 73 (.pick (.t 61) (.c (.bool true)) (.t 72))])
  (.cond (.t 73) (.seq (.region [2] [qI 2 (.mv (.c (.bool false)))])
  .ret) .skip))
  (.seq (.region [1, 3, 7, 49, 50, 78, 79, 80] [qI 74 (.fieldAddr 2 (.t 1)), qI 75 (.load false 1 (.t 74)), qI 76 (.mv (.t 7)), qI 77 (.indexAddr 1 (.t 75) (.t 76)), qI 78 (.load false 1 (.t 77)), qI 79 (.len (.t 78)), qI 80 (.mv (.c (.int .i64 0)))])
  (.block 4 (.loop [1, 3, 7, 49, 50, 78, 79, 80] (.seq (.region [1, 3, 7, 49, 50, 78, 79, 80, 81] [qI 81 (.bin .lss .other (.t 80) (.t 79))])
  (.seq (.cond (.t 81) .skip (.exit 4))
  (.seq (.block 5 (.seq (.region [1, 3, 7, 9, 49, 50, 78, 79, 80] [qI 82 (.indexAddr 1 (.t 78) (.t 80)), qI 83 (.load false 1 (.t 82)), qI 9 (.mv (.t 83))])
  (.seq (.region [1, 3, 7, 49, 50, 78, 79, 80, 87] [qI 84 (.mv (.t 7)), qI 85 (.mv (.t 9)), eI 86 (.call 135 [(.t 1), (.t 84), (.t 85)]), qI 87 (.un .not (.t 86))])
  (.cond (.t 87) (.seq (.region [2] [qI 2 (.mv (.c (.bool false)))])
  .ret) .skip))))
  (.region [1, 3, 7, 49, 50, 78, 79, 80] [qI 88 (.bin .add .other (.t 80) (.c (.int .i64 1))), qI 80 (.mv (.t 88))]))))))))))
  (.region [1, 3, 49, 50] [qI 89 (.bin .add .other (.t 50) (.c (.int .i64 1))), qI 50 (.mv (.t 89))])))))))
  (.seq (.region [2] [qI 2 (.mv (.c (.bool true)))])
  .ret)))))))⟩
theorem cf125 : cF Try.prog Try.f125 = some if125 := by kernel_rfl
/-- loop.example/g01076/spec.l08Fault -/
def if126 : IFn := ⟨[0], [(.cell 2 true 4)], (.seq (.region [1, 2] [eI 1 (.box (.t 0)), eI 2 (.alloc [(.int .i64 0), (.int .i64 0), (.int .i64 0), (.int .i64 0)])])
  (.seq (.seq (.region [1, 2, 3] [qI 5 (.fieldAddr 0 (.t 1)), qI 6 (.load false 1 (.t 5)), qI 7 (.len (.t 6)), qI 8 (.bin .sub .other (.t 7) (.c (.int .i64 1))), qI 3 (.mv (.t 8))])
  (.block 0 (.loop [1, 2, 3] (.seq (.seq (.region [1, 2, 3, 10] [qI 9 (.mv (.t 3)), qI 10 (.bin .geq .other (.t 9) (.c (.int .i64 0)))])
  (.cond (.t 10) .skip (.exit 0)))
  (.seq (.block 1 (.seq (.region [1, 2, 3, 4] [qI 13 (.load true 3 (.t 1)), qI 14 (.mv (.t 3)), eI 15 (.call 136 [(.t 13), (.t 14)]), eI 4 (.alloc [(.int .i64 0), (.int .i64 0), (.int .i64 0), (.int .i64 0)]), nI (.store 4 (.t 4) (.t 15))])
  (.seq (.region [1, 2, 3, 4, 18] [qI 16 (.fieldAddr 0 (.t 4)), qI 17 (.load false 1 (.t 16)), qI 18 (.bin .neq .other (.t 17) (.c (.int .i64 0)))])
  (.cond (.t 18) (.seq (.region [2] [qI 19 (.load true 4 (.t 4)), nI (.store 4 (.t 2) (.t 19))])
  .ret) .skip))))
  (.region [1, 2, 3] [qI 11 (.mv (.t 3)), qI 12 (.bin .sub .other (.t 11) (.c (.int .i64 1))), qI 3 (.mv (.t 12))]))))))
  (.seq (.region [2] [qI 20 (.build [(.int .i64 0), (.int .i64 0), (.int .i64 0), (.int .i64 0)] []), nI (.store 4 (.t 2) (.t 20))])
  .ret)))⟩
theorem cf126 : cF Try.prog Try.f126 = some if126 := by kernel_rfl
/-- loop.example/g01076/spec.l01Same -/
def if127 : IFn := ⟨[0, 1], [(.tmp 4)], (.seq (.region [0, 1] [qI 4 (.mv (.c (.bool false)))])
  (.seq (.seq (.region [0, 1, 10] [qI 6 (.mv (.t 0)), qI 7 (.len (.t 6)), qI 8 (.mv (.t 1)), qI 9 (.len (.t 8)), qI 10 (.bin .neq .other (.t 7) (.t 9))])
  (.cond (.t 10) (.seq (.region [4] [qI 4 (.mv (.c (.bool false)))])
  .ret) .skip))
  (.seq (.seq (.region [0, 1, 5] [qI 5 (.mv (.c (.int .i64 0)))])
  (.block 0 (.loop [0, 1, 5] (.seq (.seq (.region [0, 1, 5, 14] [qI 11 (.mv (.t 5)), qI 12 (.mv (.t 0)), qI 13 (.len (.t 12)), qI 14 (.bin .lss .other (.t 11) (.t 13))])
  (.cond (.t 14) .skip (.exit 0)))
  (.seq (.block 1 (.seq (.draw [0, 1, 5, 25] [] [qD 17 (.mv (.t 0)) 0, qD 18 (.mv (.t 5)) 1, qD 19 (.indexAddr 1 (.t 17) (.t 18)) 2, qD 20 (.load false 1 (.t 19)) 3, qD 21 (.mv (.t 1)) 4, qD 22 (.mv (.t 5)) 5, qD 23 (.indexAddr 1 (.t 21) (.t 22)) 6, qD 24 (.load false 1 (.t 23)) 7, qD 25 (.bin .neq .other (.t 20) (.t 24)) 8])
  (.cond (.t 25) (.seq (.region [4] [qI 4 (.mv (.c (.bool false)))])
  .ret) .skip)))
  (.region [0, 1, 5] [qI 15 (.mv (.t 5)), qI 16 (.bin .add .other (.t 15) (.c (.int .i64 1))), qI 5 (.mv (.t 16))]))))))
  (.seq (.region [4] [qI 4 (.mv (.c (.bool true)))])
  .ret))))⟩
theorem cf127 : cF Try.prog Try.f127 = some if127 := by kernel_rfl
/-- loop.example/g01076/impl.consistentFrom -/
def if128 : IFn := ⟨[0], [(.tmp 2)], (.seq (.region [0] [qI 2 (.mv (.c (.int .i64 0)))])
  (.seq (.region [0, 3] [qI 4 (.mv (.t 0)), qI 5 (.nilCheck (.t 4)), qI 6 (.fieldAddr 0 (.t 5)), qI 7 (.load false 1 (.t 6)), qI 8 (.len (.t 7)), qI 3 (.mv (.t 8))])
  (.seq (.block 0 (.loop [0, 3] (.seq (.seq (.region [0, 3, 18] [qI 9 (.mv (.t 3)), qI 10 (.bin .gtr .other (.t 9) (.c (.int .i64 0))), qI 11 (.mv (.t 10)), ⟨(some 12), .mv (.t 0), true, (some (11, true))⟩, ⟨(some 13), .mv (.t 3), true, (some (11, true))⟩, ⟨(some 14), .bin .sub .other (.t 13) (.c (.int .i64 1)), true, (some (11, true))⟩, ⟨(some 15), .call 137 [(.t 12), (.t 14)], false, (some (11, true))⟩, ⟨(some 16), .build [(.int .i64 0), (.int .i64 0), (.int .i64 0), (.int .i64 0)] [], true, (some (11, true))⟩, ⟨(some 17), .bin .eql (.ints 4) (.t 15) (.t 16), true, (some (11, true))⟩, qI 18 (.pick (.t 11) (.t 17) (.c (.bool false)))])
  (.cond (.t 18) .skip (.exit 0)))
  (.block 1 (.region [0, 3] [qI 19 (.mv (.t 3)), qI 20 (.bin .sub .other (.t 19) (.c (.int .i64 1))), qI 3 (.mv (.t 20))])))))
  (.seq (.region [2] [qI 21 (.mv (.t 3)), qI 2 (.mv (.t 21))])
  .ret))))⟩
theorem cf128 : cF Try.prog Try.f128 = some if128 := by kernel_rfl
/-- slices.Repeat[[]int64,int64] -/
def if129 : IFn := ⟨[0, 1], [(.tmp 4)], (.seq (.region [0, 1] [qI 4 (.mv (.c .nils))])
  (.seq (.seq (.region [0, 1, 10] [qI 9 (.mv (.t 1)), qI 10 (.bin .lss .other (.t 9) (.c (.int .i64 0)))])
  (.cond (.t 10) (.region [] [⟨none, .extract (.c (.bool false)) 0, true, none⟩]) .skip))
  (.seq (.region [0, 5, 6] [qI 13 (.mv (.t 0)), qI 14 (.len (.t 13)), qI 15 (.conv .u64 (.t 14)), qI 16 (.mv (.t 1)), qI 17 (.conv .u64 (.t 16)), eI 18 (.call 138 [(.t 15), (.t 17)]), qI 12 (.mv (.t 18)), qI 19 (.extract (.t 12) 0), qI 20 (.extract (.t 12) 1), qI 5 (.mv (.t 19)), qI 6 (.mv (.t 20))])
  (.seq (.seq (.region [0, 6, 26] [qI 21 (.mv (.t 5)), qI 22 (.bin .gtr .other (.t 21) (.c (.int .u64 0))), qI 23 (.mv (.t 22)), ⟨(some 24), .mv (.t 6), true, (some (23, false))⟩, ⟨(some 25), .bin .gtr .other (.t 24) (.c (.int .u64 9223372036854775807)), true, (some (23, false))⟩, qI 26 (.pick (.t 23) (.c (.bool true)) (.t 25))])
  (.cond (.t 26) (.region [] [⟨none, .extract (.c (.bool false)) 0, true, none⟩]) .skip))
  (.seq (.region [0, 7] [qI 28 (.mv (.t 6)), qI 29 (.conv .i64 (.t 28)), eI 30 (.makeSl 1 8 [(.int .i64 0)] (.t 29) (.t 29)), qI 7 (.mv (.t 30))])
  (.seq (.region [7, 8] [qI 31 (.mv (.t 7)), qI 32 (.mv (.t 0)), eI 33 (.copy 1 (.t 31) (.t 32)), qI 8 (.mv (.t 33))])
  (.seq (.block 0 (.loop [7, 8] (.seq (.seq (.region [7, 8, 37] [qI 34 (.mv (.t 8)), qI 35 (.mv (.t 7)), qI 36 (.len (.t 35)), qI 37 (.bin .lss .other (.t 34) (.t 36))])
  (.cond (.t 37) .skip (.exit 0)))
  (.block 1 (.draw [7, 8] [] [qD 38 (.mv (.t 8)) 0, qD 39 (.mv (.t 7)) 1, qD 40 (.mv (.t 8)) 2, qD 41 (.slice 1 (.t 39) (some (.t 40)) none none) 3, qD 42 (.mv (.t 7)) 4, qD 43 (.mv (.t 8)) 5, qD 44 (.slice 1 (.t 42) none (some (.t 43)) none) 6, eD 45 (.copy 1 (.t 41) (.t 44)) 7 [], qD 46 (.bin .add .other (.t 38) (.t 45)) 8, qD 8 (.mv (.t 46)) 9])))))
  (.seq (.region [4] [qI 47 (.mv (.t 7)), qI 4 (.mv (.t 47))])
  .ret))))))))⟩
theorem cf129 : cF Try.prog Try.f129 = some if129 := by kernel_rfl
/-- slices.EqualFunc[[][]int64,[][]int64,[]int64,[]int64] -/
def if130 : IFn := ⟨[0, 1, 2], [(.tmp 6)], (.seq (.region [0, 1, 2] [qI 6 (.mv (.c (.bool false)))])
  (.seq (.seq (.region [0, 1, 2, 14] [qI 10 (.mv (.t 0)), qI 11 (.len (.t 10)), qI 12 (.mv (.t 1)), qI 13 (.len (.t 12)), qI 14 (.bin .neq .other (.t 11) (.t 13))])
  (.cond (.t 14) (.seq (.region [6] [qI 6 (.mv (.c (.bool false)))])
  .ret) .skip))
  (.seq (.seq (.region [1, 2, 15, 16, 17] [qI 15 (.mv (.t 0)), qI 16 (.len (.t 15)), qI 17 (.mv (.c (.int .i64 0)))])
  (.block 0 (.loop [1, 2, 15, 16, 17] (.seq (.region [1, 2, 15, 16, 17, 18] [qI 18 (.bin .lss .other (.t 17) (.t 16))])
  (.seq (.cond (.t 18) .skip (.exit 0))
  (.seq (.block 1 (.seq (.region [1, 2, 7, 8, 15, 16, 17] [qI 19 (.mv (.t 17)), qI 20 (.indexAddr 1 (.t 15) (.t 17)), qI 21 (.load false 1 (.t 20)), qI 7 (.mv (.t 19)), qI 8 (.mv (.t 21))])
  (.seq (.region [1, 2, 8, 9, 15, 16, 17] [qI 22 (.mv (.t 1)), qI 23 (.mv (.t 7)), qI 24 (.indexAddr 1 (.t 22) (.t 23)), qI 25 (.load false 1 (.t 24)), qI 9 (.mv (.t 25))])
  (.seq (.region [1, 2, 15, 16, 17, 30] [qI 26 (.mv (.t 2)), qI 27 (.mv (.t 8)), qI 28 (.mv (.t 9)), eI 29 (.callV (.t 26) [(.t 27), (.t 28)]), qI 30 (.un .not (.t 29))])
  (.cond (.t 30) (.seq (.region [6] [qI 6 (.mv (.c (.bool false)))])
  .ret) .skip)))))
  (.region [1, 2, 15, 16, 17] [qI 31 (.bin .add .other (.t 17) (.c (.int .i64 1))), qI 17 (.mv (.t 31))])))))))
  (.seq (.region [6] [qI 6 (.mv (.c (.bool true)))])
  .ret))))⟩
theorem cf130 : cF Try.prog Try.f130 = some if130 := by kernel_rfl
/-- slices.Equal[[]int64,int64] -/
def if131 : IFn := ⟨[0, 1], [(.tmp 4)], (.seq (.region [0, 1] [qI 4 (.mv (.c (.bool false)))])
  (.seq (.seq (.region [0, 1, 10] [qI 6 (.mv (.t 0)), qI 7 (.len (.t 6)), qI 8 (.mv (.t 1)), qI 9 (.len (.t 8)), qI 10 (.bin .neq .other (.t 7) (.t 9))])
  (.cond (.t 10) (.seq (.region [4] [qI 4 (.mv (.c (.bool false)))])
  .ret) .skip))
  (.seq (.seq (.region [0, 1, 12, 13] [qI 11 (.mv (.t 0)), qI 12 (.len (.t 11)), qI 13 (.mv (.c (.int .i64 0)))])
  (.block 0 (.loop [0, 1, 12, 13] (.seq (.region [0, 1, 12, 13, 14] [qI 14 (.bin .lss .other (.t 13) (.t 12))])
  (.seq (.cond (.t 14) .skip (.exit 0))
  (.seq (.block 1 (.seq (.region [0, 1, 5, 12, 13] [qI 15 (.mv (.t 13)), qI 5 (.mv (.t 15))])
  (.seq (.draw [0, 1, 12, 13, 24] [] [qD 16 (.mv (.t 0)) 0, qD 17 (.mv (.t 5)) 1, qD 18 (.indexAddr 1 (.t 16) (.t 17)) 2, qD 19 (.load false 1 (.t 18)) 3, qD 20 (.mv (.t 1)) 4, qD 21 (.mv (.t 5)) 5, qD 22 (.indexAddr 1 (.t 20) (.t 21)) 6, qD 23 (.load false 1 (.t 22)) 7, qD 24 (.bin .neq .other (.t 19) (.t 23)) 8])
  (.cond (.t 24) (.seq (.region [4] [qI 4 (.mv (.c (.bool false)))])
  .ret) .skip))))
  (.region [0, 1, 12, 13] [qI 25 (.bin .add .other (.t 13) (.c (.int .i64 1))), qI 13 (.mv (.t 25))])))))))
  (.seq (.region [4] [qI 4 (.mv (.c (.bool true)))])
  .ret))))⟩
theorem cf131 : cF Try.prog Try.f131 = some if131 := by kernel_rfl
/-- loop.example/g01076/impl.residue -/
def if132 : IFn := ⟨[0, 1], [(.tmp 4)], (.seq (.region [0, 1] [qI 4 (.mv (.c (.int .i64 0)))])
  (.seq (.region [4] [qI 5 (.mv (.t 0)), qI 6 (.mv (.t 1)), qI 7 (.bin .rem .other (.t 5) (.t 6)), qI 8 (.mv (.t 1)), qI 9 (.bin .add .other (.t 7) (.t 8)), qI 10 (.mv (.t 1)), qI 11 (.bin .rem .other (.t 9) (.t 10)), qI 4 (.mv (.t 11))])
  .ret))⟩
theorem cf132 : cF Try.prog Try.f132 = some if132 := by kernel_rfl
/-- loop.example/g01076/spec.l01Own -/
def if133 : IFn := ⟨[0], [(.tmp 2)], (.seq (.region [0] [qI 2 (.mv (.c .nils))])
  (.seq (.region [2] [eI 3 (.buildSl 1 0 [(.int .i64 0)] []), qI 4 (.mv (.t 0)), eI 5 (.append 1 8 (.t 3) (.t 4)), qI 2 (.mv (.t 5))])
  .ret))⟩
theorem cf133 : cF Try.prog Try.f133 = some if133 := by kernel_rfl
/-- loop.example/g01076/impl.tailVector -/
def if135 : IFn := ⟨[0, 1, 2], [(.tmp 6)], (.seq (.region [0, 1, 2] [qI 6 (.mv (.c (.bool false)))])
  (.seq (.region [6] [qI 7 (.mv (.t 0)), qI 8 (.mv (.t 2)), eI 9 (.call 67 [(.t 7), (.t 8)]), qI 10 (.mv (.t 9)), ⟨(some 11), .mv (.t 2), true, (some (10, true))⟩, ⟨(some 12), .mv (.t 1), true, (some (10, true))⟩, ⟨(some 13), .bin .add .other (.t 12) (.c (.int .i64 1)), true, (some (10, true))⟩, ⟨(some 14), .slice 1 (.t 11) none (some (.t 13)) none, true, (some (10, true))⟩, ⟨(some 15), .call 86 [(.t 14)], false, (some (10, true))⟩, qI 16 (.pick (.t 10) (.t 15) (.c (.bool false))), qI 6 (.mv (.t 16))])
  .ret))⟩
theorem cf135 : cF Try.prog Try.f135 = some if135 := by kernel_rfl
/-- loop.example/g01076/spec.l08Level -/
def if136 : IFn := ⟨[0, 1], [(.cell 4 true 4)], (.seq (.region [1, 2, 4] [eI 2 (.box (.t 0)), eI 4 (.alloc [(.int .i64 0), (.int .i64 0), (.int .i64 0), (.int .i64 0)])])
  (.seq (.region [1, 2, 4, 5] [qI 19 (.fieldAddr 0 (.t 2)), qI 20 (.load false 1 (.t 19)), qI 21 (.len (.t 20)), qI 5 (.mv (.t 21))])
  (.seq (.region [1, 2, 4, 5, 6] [qI 22 (.mv (.t 1)), qI 6 (.mv (.t 22))])
  (.seq (.seq (.region [1, 2, 4, 5, 6, 7] [qI 23 (.mv (.t 1)), qI 24 (.bin .add .other (.t 23) (.c (.int .i64 1))), qI 7 (.mv (.t 24))])
  (.block 0 (.loop [1, 2, 4, 5, 6, 7] (.seq (.seq (.region [1, 2, 4, 5, 6, 7, 27] [qI 25 (.mv (.t 7)), qI 26 (.mv (.t 5)), qI 27 (.bin .lss .other (.t 25) (.t 26))])
  (.cond (.t 27) .skip (.exit 0)))
  (.seq (.block 1 (.seq (.draw [1, 2, 4, 5, 6, 7, 8] [] [qD 30 (.load true 3 (.t 2)) 0, qD 31 (.mv (.t 1)) 1, qD 32 (.bin .add .other (.t 31) (.c (.int .i64 1))) 2, qD 33 (.fieldAddr 2 (.t 2)) 3, qD 34 (.load false 1 (.t 33)) 4, qD 35 (.mv (.t 1)) 5, qD 36 (.indexAddr 1 (.t 34) (.t 35)) 6, qD 37 (.load false 1 (.t 36)) 7, qD 38 (.mv (.t 7)) 8, qD 39 (.mv (.t 1)) 9, qD 40 (.bin .sub .other (.t 38) (.t 39)) 10, qD 41 (.bin .sub .other (.t 40) (.c (.int .i64 1))) 11, qD 42 (.indexAddr 1 (.t 37) (.t 41)) 12, qD 43 (.load false 1 (.t 42)) 13, qD 44 (.fieldAddr 0 (.t 2)) 14, qD 45 (.load false 1 (.t 44)) 15, qD 46 (.mv (.t 7)) 16, qD 47 (.indexAddr 1 (.t 45) (.t 46)) 17, qD 48 (.load false 1 (.t 47)) 18, eD 49 (.call 139 [(.t 30), (.t 32), (.t 43), (.t 48)]) 19 [], qD 8 (.mv (.t 49)) 20])
  (.seq (.draw [1, 2, 4, 5, 6, 7, 60] [] [qD 50 (.mv (.t 8)) 0, qD 51 (.load true 3 (.t 2)) 1, qD 52 (.mv (.t 1)) 2, qD 53 (.fieldAddr 1 (.t 2)) 3, qD 54 (.load false 1 (.t 53)) 4, qD 55 (.mv (.t 7)) 5, qD 56 (.indexAddr 1 (.t 54) (.t 55)) 6, qD 57 (.load false 1 (.t 56)) 7, eD 58 (.call 140 [(.t 51), (.t 52), (.t 57)]) 8 [], eD 59 (.call 127 [(.t 50), (.t 58)]) 9 [], qD 60 (.un .not (.t 59)) 10])
  (.cond (.t 60) (.seq (.region [4] [qI 61 (.mv (.t 6)), qI 62 (.mv (.t 7)), qI 63 (.build [(.int .i64 0), (.int .i64 0), (.int .i64 0), (.int .i64 0)] [(0, 1, (.c (.int .i64 1))), (1, 1, (.t 61)), (2, 1, (.t 62))]), nI (.store 4 (.t 4) (.t 63))])
  .ret) .skip))))
  (.region [1, 2, 4, 5, 6, 7] [qI 28 (.mv (.t 7)), qI 29 (.bin .add .other (.t 28) (.c (.int .i64 1))), qI 7 (.mv (.t 29))]))))))
  (.seq (.seq (.region [1, 2, 4, 5, 6, 9] [qI 64 (.mv (.t 1)), qI 65 (.bin .add .other (.t 64) (.c (.int .i64 1))), qI 9 (.mv (.t 65))])
  (.block 2 (.loop [1, 2, 4, 5, 6, 9] (.seq (.seq (.region [1, 2, 4, 5, 6, 9, 68] [qI 66 (.mv (.t 9)), qI 67 (.mv (.t 5)), qI 68 (.bin .lss .other (.t 66) (.t 67))])
  (.cond (.t 68) .skip (.exit 2)))
  (.seq (.block 3 (.seq (.region [1, 2, 4, 5, 6, 9, 10] [qI 71 (.mv (.t 9)), qI 72 (.bin .add .other (.t 71) (.c (.int .i64 1))), qI 10 (.mv (.t 72))])
  (.block 4 (.loop [1, 2, 4, 5, 6, 9, 10] (.seq (.seq (.region [1, 2, 4, 5, 6, 9, 10, 75] [qI 73 (.mv (.t 10)), qI 74 (.mv (.t 5)), qI 75 (.bin .lss .other (.t 73) (.t 74))])
  (.cond (.t 75) .skip (.exit 4)))
  (.seq (.block 5 (.seq (.draw [1, 2, 4, 5, 6, 9, 10, 11, 12] [] [qD 78 (.fieldAddr 2 (.t 2)) 0, qD 79 (.load false 1 (.t 78)) 1, qD 80 (.mv (.t 1)) 2, qD 81 (.indexAddr 1 (.t 79) (.t 80)) 3, qD 82 (.load false 1 (.t 81)) 4, qD 83 (.mv (.t 9)) 5, qD 84 (.mv (.t 1)) 6, qD 85 (.bin .sub .other (.t 83) (.t 84)) 7, qD 86 (.bin .sub .other (.t 85) (.c (.int .i64 1))) 8, qD 87 (.indexAddr 1 (.t 82) (.t 86)) 9, qD 88 (.load false 1 (.t 87)) 10, qD 89 (.fieldAddr 2 (.t 2)) 11, qD 90 (.load false 1 (.t 89)) 12, qD 91 (.mv (.t 1)) 13, qD 92 (.indexAddr 1 (.t 90) (.t 91)) 14, qD 93 (.load false 1 (.t 92)) 15, qD 94 (.mv (.t 10)) 16, qD 95 (.mv (.t 1)) 17, qD 96 (.bin .sub .other (.t 94) (.t 95)) 18, qD 97 (.bin .sub .other (.t 96) (.c (.int .i64 1))) 19, qD 98 (.indexAddr 1 (.t 93) (.t 97)) 20, qD 99 (.load false 1 (.t 98)) 21, qD 11 (.mv (.t 88)) 22, qD 12 (.mv (.t 99)) 23])
  (.seq (.draw [1, 2, 4, 5, 6, 9, 10, 11, 12, 13] [] [qD 100 (.load true 3 (.t 2)) 0, qD 101 (.mv (.t 1)) 1, qD 102 (.fieldAddr 2 (.t 2)) 2, qD 103 (.load false 1 (.t 102)) 3, qD 104 (.mv (.t 9)) 4, qD 105 (.indexAddr 1 (.t 103) (.t 104)) 5, qD 106 (.load false 1 (.t 105)) 6, qD 107 (.mv (.t 10)) 7, qD 108 (.mv (.t 9)) 8, qD 109 (.bin .sub .other (.t 107) (.t 108)) 9, qD 110 (.bin .sub .other (.t 109) (.c (.int .i64 1))) 10, qD 111 (.indexAddr 1 (.t 106) (.t 110)) 11, qD 112 (.load false 1 (.t 111)) 12, eD 113 (.call 140 [(.t 100), (.t 101), (.t 112)]) 13 [], qD 13 (.mv (.t 113)) 14])
  (.seq (.draw [1, 2, 4, 5, 6, 9, 10, 127] [] [qD 114 (.load true 3 (.t 2)) 0, qD 115 (.mv (.t 1)) 1, qD 116 (.bin .add .other (.t 115) (.c (.int .i64 1))) 2, qD 117 (.mv (.t 12)) 3, qD 118 (.mv (.t 11)) 4, qD 120 (.load true 3 (.t 2)) 6, qD 121 (.mv (.t 1)) 7, qD 122 (.bin .add .other (.t 121) (.c (.int .i64 1))) 8, qD 123 (.mv (.t 11)) 9, qD 124 (.mv (.t 13)) 10, eD 119 (.call 141 [(.t 114), (.t 116), (.t 117), (.t 118)]) 5 [6], eD 125 (.call 141 [(.t 120), (.t 122), (.t 123), (.t 124)]) 11 [], eD 126 (.call 127 [(.t 119), (.t 125)]) 12 [], qD 127 (.un .not (.t 126)) 13])
  (.cond (.t 127) (.seq (.region [4] [qI 128 (.mv (.t 6)), qI 129 (.mv (.t 9)), qI 130 (.mv (.t 10)), qI 131 (.build [(.int .i64 0), (.int .i64 0), (.int .i64 0), (.int .i64 0)] [(0, 1, (.c (.int .i64 2))), (1, 1, (.t 128)), (2, 1, (.t 129)), (3, 1, (.t 130))]), nI (.store 4 (.t 4) (.t 131))])
  .ret) .skip)))))
  (.region [1, 2, 4, 5, 6, 9, 10] [qI 76 (.mv (.t 10)), qI 77 (.bin .add .other (.t 76) (.c (.int .i64 1))), qI 10 (.mv (.t 77))])))))))
  (.region [1, 2, 4, 5, 6, 9] [qI 69 (.mv (.t 9)), qI 70 (.bin .add .other (.t 69) (.c (.int .i64 1))), qI 9 (.mv (.t 70))]))))))
  (.seq (.region [1, 2, 4, 5, 6, 14] [qI 132 (.fieldAddr 1 (.t 2)), qI 133 (.load false 1 (.t 132)), qI 134 (.mv (.t 1)), qI 135 (.indexAddr 1 (.t 133) (.t 134)), qI 136 (.load false 1 (.t 135)), qI 14 (.mv (.t 136))])
  (.seq (.seq (.region [1, 2, 4, 5, 6, 14, 143] [qI 137 (.load true 3 (.t 2)), qI 138 (.mv (.t 1)), qI 139 (.mv (.t 14)), eI 140 (.call 140 [(.t 137), (.t 138), (.t 139)]), qI 141 (.mv (.t 14)), eI 142 (.call 127 [(.t 140), (.t 141)]), qI 143 (.un .not (.t 142))])
  (.cond (.t 143) (.seq (.region [4] [qI 144 (.mv (.t 6)), qI 145 (.build [(.int .i64 0), (.int .i64 0), (.int .i64 0), (.int .i64 0)] [(0, 1, (.c (.int .i64 3))), (1, 1, (.t 144))]), nI (.store 4 (.t 4) (.t 145))])
  .ret) .skip))
  (.seq (.seq (.region [1, 2, 4, 5, 6, 14, 15] [qI 146 (.mv (.t 1)), qI 147 (.bin .add .other (.t 146) (.c (.int .i64 1))), qI 15 (.mv (.t 147))])
  (.block 6 (.loop [1, 2, 4, 5, 6, 14, 15] (.seq (.seq (.region [1, 2, 4, 5, 6, 14, 15, 150] [qI 148 (.mv (.t 15)), qI 149 (.mv (.t 5)), qI 150 (.bin .lss .other (.t 148) (.t 149))])
  (.cond (.t 150) .skip (.exit 6)))
  (.seq (.block 7 (.seq (.region [1, 2, 4, 5, 6, 14, 15, 16] [qI 153 (.mv (.t 5)), qI 154 (.mv (.t 15)), eI 155 (.call 142 [(.t 153), (.t 154)]), qI 16 (.mv (.t 155))])
  (.seq (.region [1, 2, 4, 5, 6, 14, 15, 16, 17] [qI 156 (.mv (.t 16)), qI 17 (.mv (.t 156))])
  (.seq (.seq (.region [1, 2, 4, 5, 6, 14, 15, 16, 17, 18] [qI 18 (.mv (.c (.int .i64 0)))])
  (.block 8 (.loop [1, 2, 4, 5, 6, 14, 15, 16, 17, 18] (.seq (.seq (.region [1, 2, 4, 5, 6, 14, 15, 16, 17, 18, 163] [qI 157 (.mv (.t 18)), qI 158 (.fieldAddr 0 (.t 2)), qI 159 (.load false 1 (.t 158)), qI 160 (.mv (.t 1)), qI 161 (.indexAddr 1 (.t 159) (.t 160)), qI 162 (.load false 1 (.t 161)), qI 163 (.bin .lss .other (.t 157) (.t 162))])
  (.cond (.t 163) .skip (.exit 8)))
  (.seq (.block 9 (.region [1, 2, 4, 5, 6, 14, 15, 16, 17, 18] [qI 166 (.load true 3 (.t 2)), qI 167 (.mv (.t 1)), qI 168 (.mv (.t 17)), eI 169 (.call 140 [(.t 166), (.t 167), (.t 168)]), qI 17 (.mv (.t 169))]))
  (.region [1, 2, 4, 5, 6, 14, 15, 16, 17, 18] [qI 164 (.mv (.t 18)), qI 165 (.bin .add .other (.t 164) (.c (.int .i64 1))), qI 18 (.mv (.t 165))]))))))
  (.seq (.draw [1, 2, 4, 5, 6, 14, 15, 183] [] [qD 170 (.load true 3 (.t 2)) 0, qD 171 (.mv (.t 1)) 1, qD 172 (.bin .add .other (.t 171) (.c (.int .i64 1))) 2, qD 173 (.mv (.t 14)) 3, qD 174 (.mv (.t 17)) 4, qD 176 (.load true 3 (.t 2)) 6, qD 177 (.mv (.t 1)) 7, qD 178 (.bin .add .other (.t 177) (.c (.int .i64 1))) 8, qD 179 (.mv (.t 16)) 9, qD 180 (.mv (.t 14)) 10, eD 175 (.call 141 [(.t 170), (.t 172), (.t 173), (.t 174)]) 5 [6], eD 181 (.call 141 [(.t 176), (.t 178), (.t 179), (.t 180)]) 11 [], eD 182 (.call 127 [(.t 175), (.t 181)]) 12 [], qD 183 (.un .not (.t 182)) 13])
  (.cond (.t 183) (.seq (.region [4] [qI 184 (.mv (.t 6)), qI 185 (.mv (.t 15)), qI 186 (.build [(.int .i64 0), (.int .i64 0), (.int .i64 0), (.int .i64 0)] [(0, 1, (.c (.int .i64 4))), (1, 1, (.t 184)), (2, 1, (.t 185))]), nI (.store 4 (.t 4) (.t 186))])
  .ret) .skip))))))
  (.region [1, 2, 4, 5, 6, 14, 15] [qI 151 (.mv (.t 15)), qI 152 (.bin .add .other (.t 151) (.c (.int .i64 1))), qI 15 (.mv (.t 152))]))))))
  (.seq (.region [4] [qI 187 (.build [(.int .i64 0), (.int .i64 0), (.int .i64 0), (.int .i64 0)] []), nI (.store 4 (.t 4) (.t 187))])
  .ret)))))))))⟩
theorem cf136 : cF Try.prog Try.f136 = some if136 := by kernel_rfl
/-- loop.example/g01076/impl.levelFault -/
def if137 : IFn := ⟨[0, 1], [(.cell 4 true 4)], (.seq (.region [0, 1, 4] [eI 4 (.alloc [(.int .i64 0), (.int .i64 0), (.int .i64 0), (.int .i64 0)])])
  (.seq (.region [0, 1, 4, 5] [qI 13 (.mv (.t 0)), qI 14 (.nilCheck (.t 13)), qI 15 (.fieldAddr 0 (.t 14)), qI 16 (.load false 1 (.t 15)), qI 17 (.len (.t 16)), qI 5 (.mv (.t 17))])
  (.seq (.region [0, 1, 4, 5, 6] [qI 18 (.mv (.t 1)), qI 6 (.mv (.t 18))])
  (.seq (.seq (.region [0, 1, 4, 5, 6, 7] [qI 19 (.mv (.t 1)), qI 20 (.bin .add .other (.t 19) (.c (.int .i64 1))), qI 7 (.mv (.t 20))])
  (.block 0 (.loop [0, 1, 4, 5, 6, 7] (.seq (.seq (.region [0, 1, 4, 5, 6, 7, 23] [qI 21 (.mv (.t 7)), qI 22 (.mv (.t 5)), qI 23 (.bin .lss .other (.t 21) (.t 22))])
  (.cond (.t 23) .skip (.exit 0)))
  (.seq (.block 1 (.seq (.draw [0, 1, 4, 5, 6, 7, 59] [] [qD 26 (.mv (.t 0)) 0, qD 27 (.mv (.t 0)) 1, qD 28 (.nilCheck (.t 27)) 2, qD 29 (.fieldAddr 2 (.t 28)) 3, qD 30 (.load false 1 (.t 29)) 4, qD 31 (.mv (.t 1)) 5, qD 32 (.indexAddr 1 (.t 30) (.t 31)) 6, qD 33 (.load false 1 (.t 32)) 7, qD 34 (.mv (.t 7)) 8, qD 35 (.mv (.t 1)) 9, qD 36 (.bin .sub .other (.t 34) (.t 35)) 10, qD 37 (.bin .sub .other (.t 36) (.c (.int .i64 1))) 11, qD 38 (.indexAddr 1 (.t 33) (.t 37)) 12, qD 39 (.load false 1 (.t 38)) 13, qD 40 (.mv (.t 0)) 14, qD 41 (.nilCheck (.t 40)) 15, qD 42 (.fieldAddr 0 (.t 41)) 16, qD 43 (.load false 1 (.t 42)) 17, qD 44 (.mv (.t 7)) 18, qD 45 (.indexAddr 1 (.t 43) (.t 44)) 19, qD 46 (.load false 1 (.t 45)) 20, qD 48 (.mv (.t 0)) 22, qD 49 (.mv (.t 1)) 23, qD 50 (.mv (.t 0)) 24, qD 51 (.nilCheck (.t 50)) 25, qD 52 (.fieldAddr 1 (.t 51)) 26, qD 53 (.load false 1 (.t 52)) 27, qD 54 (.mv (.t 7)) 28, qD 55 (.indexAddr 1 (.t 53) (.t 54)) 29, qD 56 (.load false 1 (.t 55)) 30, eD 47 (.call 143 [(.t 26), (.t 39), (.t 46)]) 21 [27, 30], eD 57 (.call 144 [(.t 48), (.t 49), (.t 56)]) 31 [], eD 58 (.call 131 [(.t 47), (.t 57)]) 32 [], qD 59 (.un .not (.t 58)) 33])
  (.cond (.t 59) (.seq (.region [4] [qI 60 (.mv (.t 6)), qI 61 (.mv (.t 7)), qI 62 (.build [(.int .i64 0), (.int .i64 0), (.int .i64 0), (.int .i64 0)] [(0, 1, (.c (.int .i64 1))), (1, 1, (.t 60)), (2, 1, (.t 61)), (3, 1, (.c (.int .i64 0)))]), nI (.store 4 (.t 4) (.t 62))])
  .ret) .skip)))
  (.region [0, 1, 4, 5, 6, 7] [qI 24 (.mv (.t 7)), qI 25 (.bin .add .other (.t 24) (.c (.int .i64 1))), qI 7 (.mv (.t 25))]))))))
  (.seq (.seq (.region [0, 1, 4, 5, 6, 8] [qI 63 (.mv (.t 1)), qI 64 (.bin .add .other (.t 63) (.c (.int .i64 1))), qI 8 (.mv (.t 64))])
  (.block 2 (.loop [0, 1, 4, 5, 6, 8] (.seq (.seq (.region [0, 1, 4, 5, 6, 8, 67] [qI 65 (.mv (.t 8)), qI 66 (.mv (.t 5)), qI 67 (.bin .lss .other (.t 65) (.t 66))])
  (.cond (.t 67) .skip (.exit 2)))
  (.seq (.block 3 (.seq (.region [0, 1, 4, 5, 6, 8, 9] [qI 70 (.mv (.t 8)), qI 71 (.bin .add .other (.t 70) (.c (.int .i64 1))), qI 9 (.mv (.t 71))])
  (.block 4 (.loop [0, 1, 4, 5, 6, 8, 9] (.seq (.seq (.region [0, 1, 4, 5, 6, 8, 9, 74] [qI 72 (.mv (.t 9)), qI 73 (.mv (.t 5)), qI 74 (.bin .lss .other (.t 72) (.t 73))])
  (.cond (.t 74) .skip (.exit 4)))
  (.seq (.block 5 (.seq (.draw [0, 1, 4, 5, 6, 8, 9, 122] [] [qD 77 (.mv (.t 0)) 0, qD 78 (.mv (.t 0)) 1, qD 79 (.nilCheck (.t 78)) 2, qD 80 (.fieldAddr 2 (.t 79)) 3, qD 81 (.load false 1 (.t 80)) 4, qD 82 (.mv (.t 1)) 5, qD 83 (.indexAddr 1 (.t 81) (.t 82)) 6, qD 84 (.load false 1 (.t 83)) 7, qD 85 (.mv (.t 9)) 8, qD 86 (.mv (.t 1)) 9, qD 87 (.bin .sub .other (.t 85) (.t 86)) 10, qD 88 (.bin .sub .other (.t 87) (.c (.int .i64 1))) 11, qD 89 (.indexAddr 1 (.t 84) (.t 88)) 12, qD 90 (.load false 1 (.t 89)) 13, qD 91 (.mv (.t 0)) 14, qD 92 (.nilCheck (.t 91)) 15, qD 93 (.fieldAddr 2 (.t 92)) 16, qD 94 (.load false 1 (.t 93)) 17, qD 95 (.mv (.t 1)) 18, qD 96 (.indexAddr 1 (.t 94) (.t 95)) 19, qD 97 (.load false 1 (.t 96)) 20, qD 98 (.mv (.t 8)) 21, qD 99 (.mv (.t 1)) 22, qD 100 (.bin .sub .other (.t 98) (.t 99)) 23, qD 101 (.bin .sub .other (.t 100) (.c (.int .i64 1))) 24, qD 102 (.indexAddr 1 (.t 97) (.t 101)) 25, qD 103 (.load false 1 (.t 102)) 26, qD 105 (.mv (.t 0)) 28, qD 106 (.mv (.t 1)) 29, qD 107 (.mv (.t 0)) 30, qD 108 (.nilCheck (.t 107)) 31, qD 109 (.fieldAddr 2 (.t 108)) 32, qD 110 (.load false 1 (.t 109)) 33, qD 111 (.mv (.t 8)) 34, qD 112 (.indexAddr 1 (.t 110) (.t 111)) 35, qD 113 (.load false 1 (.t 112)) 36, qD 114 (.mv (.t 9)) 37, qD 115 (.mv (.t 8)) 38, qD 116 (.bin .sub .other (.t 114) (.t 115)) 39, qD 117 (.bin .sub .other (.t 116) (.c (.int .i64 1))) 40, qD 118 (.indexAddr 1 (.t 113) (.t 117)) 41, qD 119 (.load false 1 (.t 118)) 42, eD 104 (.call 145 [(.t 77), (.t 90), (.t 103)]) 27 [33, 36, 42], eD 120 (.call 144 [(.t 105), (.t 106), (.t 119)]) 43 [], eD 121 (.call 131 [(.t 104), (.t 120)]) 44 [], qD 122 (.un .not (.t 121)) 45])
  (.cond (.t 122) (.seq (.region [4] [qI 123 (.mv (.t 6)), qI 124 (.mv (.t 8)), qI 125 (.mv (.t 9)), qI 126 (.build [(.int .i64 0), (.int .i64 0), (.int .i64 0), (.int .i64 0)] [(0, 1, (.c (.int .i64 2))), (1, 1, (.t 123)), (2, 1, (.t 124)), (3, 1, (.t 125))]), nI (.store 4 (.t 4) (.t 126))])
  .ret) .skip)))
  (.region [0, 1, 4, 5, 6, 8, 9] [qI 75 (.mv (.t 9)), qI 76 (.bin .add .other (.t 75) (.c (.int .i64 1))), qI 9 (.mv (.t 76))])))))))
  (.region [0, 1, 4, 5, 6, 8] [qI 68 (.mv (.t 8)), qI 69 (.bin .add .other (.t 68) (.c (.int .i64 1))), qI 8 (.mv (.t 69))]))))))
  (.seq (.region [0, 1, 4, 5, 6, 10] [qI 127 (.mv (.t 0)), qI 128 (.nilCheck (.t 127)), qI 129 (.fieldAddr 1 (.t 128)), qI 130 (.load false 1 (.t 129)), qI 131 (.mv (.t 1)), qI 132 (.indexAddr 1 (.t 130) (.t 131)), qI 133 (.load false 1 (.t 132)), qI 10 (.mv (.t 133))])
  (.seq (.seq (.region [0, 1, 4, 5, 6, 10, 140] [qI 134 (.mv (.t 0)), qI 135 (.mv (.t 1)), qI 136 (.mv (.t 10)), eI 137 (.call 144 [(.t 134), (.t 135), (.t 136)]), qI 138 (.mv (.t 10)), eI 139 (.call 131 [(.t 137), (.t 138)]), qI 140 (.un .not (.t 139))])
  (.cond (.t 140) (.seq (.region [4] [qI 141 (.mv (.t 6)), qI 142 (.build [(.int .i64 0), (.int .i64 0), (.int .i64 0), (.int .i64 0)] [(0, 1, (.c (.int .i64 3))), (1, 1, (.t 141)), (2, 1, (.c (.int .i64 0))), (3, 1, (.c (.int .i64 0)))]), nI (.store 4 (.t 4) (.t 142))])
  .ret) .skip))
  (.seq (.seq (.region [0, 1, 4, 5, 6, 10, 11] [qI 143 (.mv (.t 1)), qI 144 (.bin .add .other (.t 143) (.c (.int .i64 1))), qI 11 (.mv (.t 144))])
  (.block 6 (.loop [0, 1, 4, 5, 6, 10, 11] (.seq (.seq (.region [0, 1, 4, 5, 6, 10, 11, 147] [qI 145 (.mv (.t 11)), qI 146 (.mv (.t 5)), qI 147 (.bin .lss .other (.t 145) (.t 146))])
  (.cond (.t 147) .skip (.exit 6)))
  (.seq (.block 7 (.seq (.region [0, 1, 4, 5, 6, 10, 11, 12] [qI 150 (.mv (.t 5)), qI 151 (.mv (.t 11)), eI 152 (.call 146 [(.t 150), (.t 151)]), qI 12 (.mv (.t 152))])
  (.seq (.seq (.region [0, 1, 4, 5, 6, 10, 11, 12, 159, 160] [qI 153 (.mv (.t 0)), qI 154 (.nilCheck (.t 153)), qI 155 (.fieldAddr 0 (.t 154)), qI 156 (.load false 1 (.t 155)), qI 157 (.mv (.t 1)), qI 158 (.indexAddr 1 (.t 156) (.t 157)), qI 159 (.load false 1 (.t 158)), qI 160 (.mv (.c (.int .i64 0)))])
  (.block 8 (.loop [0, 1, 4, 5, 6, 10, 11, 12, 159, 160] (.seq (.region [0, 1, 4, 5, 6, 10, 11, 12, 159, 160, 161] [qI 161 (.bin .lss .other (.t 160) (.t 159))])
  (.seq (.cond (.t 161) .skip (.exit 8))
  (.seq (.block 9 (.region [0, 1, 4, 5, 6, 10, 11, 12, 159, 160] [qI 162 (.mv (.t 0)), qI 163 (.mv (.t 1)), qI 164 (.mv (.t 12)), eI 165 (.call 144 [(.t 162), (.t 163), (.t 164)]), qI 12 (.mv (.t 165))]))
  (.region [0, 1, 4, 5, 6, 10, 11, 12, 159, 160] [qI 166 (.bin .add .other (.t 160) (.c (.int .i64 1))), qI 160 (.mv (.t 166))])))))))
  (.seq (.region [0, 1, 4, 5, 6, 10, 11, 175] [qI 167 (.mv (.t 12)), qI 168 (.mv (.t 0)), qI 169 (.mv (.t 5)), qI 170 (.mv (.t 11)), eI 171 (.call 146 [(.t 169), (.t 170)]), qI 172 (.mv (.t 10)), eI 173 (.call 145 [(.t 168), (.t 171), (.t 172)]), eI 174 (.call 131 [(.t 167), (.t 173)]), qI 175 (.un .not (.t 174))])
  (.cond (.t 175) (.seq (.region [4] [qI 176 (.mv (.t 6)), qI 177 (.mv (.t 11)), qI 178 (.build [(.int .i64 0), (.int .i64 0), (.int .i64 0), (.int .i64 0)] [(0, 1, (.c (.int .i64 4))), (1, 1, (.t 176)), (2, 1, (.t 177)), (3, 1, (.c (.int .i64 0)))]), nI (.store 4 (.t 4) (.t 178))])
  .ret) .skip)))))
  (.region [0, 1, 4, 5, 6, 10, 11] [qI 148 (.mv (.t 11)), qI 149 (.bin .add .other (.t 148) (.c (.int .i64 1))), qI 11 (.mv (.t 149))]))))))
  (.seq (.region [4] [qI 179 (.build [(.int .i64 0), (.int .i64 0), (.int .i64 0), (.int .i64 0)] []), nI (.store 4 (.t 4) (.t 179))])
  .ret)))))))))⟩
theorem cf137 : cF Try.prog Try.f137 = some if137 := by kernel_rfl
/-- math/bits.Mul -/
def if138 : IFn := ⟨[0, 1], [(.tmp 4), (.tmp 5)], (.seq (.region [0, 1] [qI 4 (.mv (.c (.int .u64 0))), qI 5 (.mv (.c (.int .u64 0)))])
  (.seq (.cond (.c (.bool false)) (.seq (.region [6, 7] [qI 11 (.mv (.t 0)), qI 12 (.conv .u32 (.t 11)), qI 13 (.mv (.t 1)), qI 14 (.conv .u32 (.t 13)), eI 15 (.call 147 [(.t 12), (.t 14)]), qI 10 (.mv (.t 15)), qI 16 (.extract (.t 10) 0), qI 17 (.extract (.t 10) 1), qI 6 (.mv (.t 16)), qI 7 (.mv (.t 17))])
  (.seq (.region [4, 5] [qI 18 (.mv (.t 6)), qI 19 (.conv .u64 (.t 18)), qI 20 (.mv (.t 7)), qI 21 (.conv .u64 (.t 20)), qI 4 (.mv (.t 19)), qI 5 (.mv (.t 21))])
  .ret)) .skip)
  (.seq (.region [8, 9] [qI 23 (.mv (.t 0)), qI 24 (.mv (.t 1)), eI 25 (.call 148 [(.t 23), (.t 24)]), qI 22 (.mv (.t 25)), qI 26 (.extract (.t 22) 0), qI 27 (.extract (.t 22) 1), qI 8 (.mv (.t 26)), qI 9 (.mv (.t 27))])
  (.seq (.region [4, 5] [qI 28 (.mv (.t 8)), qI 29 (.mv (.t 9)), qI 4 (.mv (.t 28)), qI 5 (.mv (.t 29))])
  .ret))))⟩
theorem cf138 : cF Try.prog Try.f138 = some if138 := by kernel_rfl
/-- loop.example/g01076/spec.l08Repeat -/
def if139 : IFn := ⟨[0, 1, 2, 3], [(.tmp 8)], (.seq (.region [1, 2, 3, 4] [eI 4 (.box (.t 0)), qI 8 (.mv (.c .nils))])
  (.seq (.region [1, 2, 3, 4, 9] [qI 11 (.fieldAddr 0 (.t 4)), qI 12 (.load false 1 (.t 11)), qI 13 (.len (.t 12)), eI 14 (.makeSl 1 8 [(.int .i64 0)] (.t 13) (.t 13)), qI 9 (.mv (.t 14))])
  (.seq (.region [1, 3, 4, 9, 10] [qI 15 (.mv (.t 2)), qI 10 (.mv (.t 15))])
  (.seq (.block 0 (.loop [1, 3, 4, 9, 10] (.seq (.seq (.region [1, 3, 4, 9, 10, 17] [qI 16 (.mv (.t 3)), qI 17 (.bin .gtr .other (.t 16) (.c (.int .i64 0)))])
  (.cond (.t 17) .skip (.exit 0)))
  (.block 1 (.seq (.seq (.region [1, 3, 4, 9, 10, 20] [qI 18 (.mv (.t 3)), qI 19 (.bin .rem .other (.t 18) (.c (.int .i64 2))), qI 20 (.bin .eql .other (.t 19) (.c (.int .i64 1)))])
  (.cond (.t 20) (.region [1, 3, 4, 9, 10] [qI 21 (.load true 3 (.t 4)), qI 22 (.mv (.t 1)), qI 23 (.mv (.t 9)), qI 24 (.mv (.t 10)), eI 25 (.call 141 [(.t 21), (.t 22), (.t 23), (.t 24)]), qI 9 (.mv (.t 25))]) .skip))
  (.seq (.region [1, 3, 4, 9, 10] [qI 26 (.load true 3 (.t 4)), qI 27 (.mv (.t 1)), qI 28 (.mv (.t 10)), qI 29 (.mv (.t 10)), eI 30 (.call 141 [(.t 26), (.t 27), (.t 28), (.t 29)]), qI 10 (.mv (.t 30))])
  (.region [1, 3, 4, 9, 10] [qI 31 (.mv (.t 3)), qI 32 (.bin .quo .other (.t 31) (.c (.int .i64 2))), qI 3 (.mv (.t 32))])))))))
  (.seq (.region [8] [qI 33 (.mv (.t 9)), qI 8 (.mv (.t 33))])
  .ret)))))⟩
theorem cf139 : cF Try.prog Try.f139 = some if139 := by kernel_rfl
/-- loop.example/g01076/spec.l08Image -/
def if140 : IFn := ⟨[0, 1, 2], [(.tmp 6)], (.seq (.region [1, 2, 3] [eI 3 (.box (.t 0)), qI 6 (.mv (.c .nils))])
  (.seq (.region [1, 2, 3, 7] [qI 11 (.fieldAddr 0 (.t 3)), qI 12 (.load false 1 (.t 11)), qI 13 (.len (.t 12)), qI 7 (.mv (.t 13))])
  (.seq (.region [1, 2, 3, 7, 8] [qI 14 (.mv (.t 7)), eI 15 (.makeSl 1 8 [(.int .i64 0)] (.t 14) (.t 14)), qI 8 (.mv (.t 15))])
  (.seq (.seq (.region [1, 2, 3, 7, 8, 9] [qI 16 (.mv (.t 1)), qI 17 (.bin .add .other (.t 16) (.c (.int .i64 1))), qI 9 (.mv (.t 17))])
  (.block 0 (.loop [1, 2, 3, 7, 8, 9] (.seq (.seq (.region [1, 2, 3, 7, 8, 9, 20] [qI 18 (.mv (.t 9)), qI 19 (.mv (.t 7)), qI 20 (.bin .lss .other (.t 18) (.t 19))])
  (.cond (.t 20) .skip (.exit 0)))
  (.seq (.block 1 (.seq (.region [1, 2, 3, 7, 8, 9, 10] [qI 10 (.mv (.c (.int .i64 0)))])
  (.block 2 (.loop [1, 2, 3, 7, 8, 9, 10] (.seq (.seq (.region [1, 2, 3, 7, 8, 9, 10, 28] [qI 23 (.mv (.t 10)), qI 24 (.mv (.t 2)), qI 25 (.mv (.t 9)), qI 26 (.indexAddr 1 (.t 24) (.t 25)), qI 27 (.load false 1 (.t 26)), qI 28 (.bin .lss .other (.t 23) (.t 27))])
  (.cond (.t 28) .skip (.exit 2)))
  (.seq (.block 3 (.draw [1, 2, 3, 7, 8, 9, 10] [] [qD 31 (.load true 3 (.t 3)) 0, qD 32 (.mv (.t 1)) 1, qD 33 (.bin .add .other (.t 32) (.c (.int .i64 1))) 2, qD 34 (.mv (.t 8)) 3, qD 35 (.fieldAddr 2 (.t 3)) 4, qD 36 (.load false 1 (.t 35)) 5, qD 37 (.mv (.t 1)) 6, qD 38 (.indexAddr 1 (.t 36) (.t 37)) 7, qD 39 (.load false 1 (.t 38)) 8, qD 40 (.mv (.t 9)) 9, qD 41 (.mv (.t 1)) 10, qD 42 (.bin .sub .other (.t 40) (.t 41)) 11, qD 43 (.bin .sub .other (.t 42) (.c (.int .i64 1))) 12, qD 44 (.indexAddr 1 (.t 39) (.t 43)) 13, qD 45 (.load false 1 (.t 44)) 14, eD 46 (.call 141 [(.t 31), (.t 33), (.t 34), (.t 45)]) 15 [], qD 8 (.mv (.t 46)) 16]))
  (.region [1, 2, 3, 7, 8, 9, 10] [qI 29 (.mv (.t 10)), qI 30 (.bin .add .other (.t 29) (.c (.int .i64 1))), qI 10 (.mv (.t 30))])))))))
  (.region [1, 2, 3, 7, 8, 9] [qI 21 (.mv (.t 9)), qI 22 (.bin .add .other (.t 21) (.c (.int .i64 1))), qI 9 (.mv (.t 22))]))))))
  (.seq (.region [6] [qI 47 (.mv (.t 8)), qI 6 (.mv (.t 47))])
  .ret)))))⟩
theorem cf140 : cF Try.prog Try.f140 = some if140 := by kernel_rfl
/-- loop.example/g01076/spec.l08At -/
def if141 : IFn := ⟨[0, 1, 2, 3], [(.tmp 8)], (.seq (.region [1, 2, 3, 4] [eI 4 (.box (.t 0)), qI 8 (.mv (.c .nils))])
  (.seq (.region [1, 2, 3, 4, 9] [qI 16 (.fieldAddr 0 (.t 4)), qI 17 (.load false 1 (.t 16)), qI 18 (.len (.t 17)), qI 9 (.mv (.t 18))])
  (.seq (.seq (.region [1, 2, 3, 4, 9, 21] [qI 19 (.mv (.t 1)), qI 20 (.mv (.t 9)), qI 21 (.bin .geq .other (.t 19) (.t 20))])
  (.cond (.t 21) (.seq (.region [8] [qI 22 (.mv (.t 9)), eI 23 (.makeSl 1 8 [(.int .i64 0)] (.t 22) (.t 22)), qI 8 (.mv (.t 23))])
  .ret) .skip))
  (.seq (.region [1, 2, 3, 4, 10, 11] [qI 24 (.mv (.t 2)), eI 25 (.call 133 [(.t 24)]), qI 26 (.mv (.t 3)), eI 27 (.call 133 [(.t 26)]), qI 10 (.mv (.t 25)), qI 11 (.mv (.t 27))])
  (.seq (.region [1, 2, 3, 4, 10, 11] [qI 28 (.mv (.t 10)), qI 29 (.mv (.t 1)), qI 30 (.indexAddr 1 (.t 28) (.t 29)), nI (.store 1 (.t 30) (.c (.int .i64 0)))])
  (.seq (.region [1, 2, 3, 4, 10, 11] [qI 31 (.mv (.t 11)), qI 32 (.mv (.t 1)), qI 33 (.indexAddr 1 (.t 31) (.t 32)), nI (.store 1 (.t 33) (.c (.int .i64 0)))])
  (.seq (.seq (.region [1, 2, 3, 4, 10, 11, 12] [qI 12 (.mv (.c (.int .i64 0)))])
  (.block 0 (.loop [1, 2, 3, 4, 10, 11, 12] (.seq (.seq (.region [1, 2, 3, 4, 10, 11, 12, 39] [qI 34 (.mv (.t 12)), qI 35 (.mv (.t 3)), qI 36 (.mv (.t 1)), qI 37 (.indexAddr 1 (.t 35) (.t 36)), qI 38 (.load false 1 (.t 37)), qI 39 (.bin .lss .other (.t 34) (.t 38))])
  (.cond (.t 39) .skip (.exit 0)))
  (.seq (.block 1 (.region [1, 2, 3, 4, 10, 11, 12] [qI 42 (.load true 3 (.t 4)), qI 43 (.mv (.t 1)), qI 44 (.mv (.t 10)), eI 45 (.call 140 [(.t 42), (.t 43), (.t 44)]), qI 10 (.mv (.t 45))]))
  (.region [1, 2, 3, 4, 10, 11, 12] [qI 40 (.mv (.t 12)), qI 41 (.bin .add .other (.t 40) (.c (.int .i64 1))), qI 12 (.mv (.t 41))]))))))
  (.seq (.region [1, 2, 3, 4, 13] [qI 46 (.load true 3 (.t 4)), qI 47 (.mv (.t 1)), qI 48 (.bin .add .other (.t 47) (.c (.int .i64 1))), qI 49 (.mv (.t 10)), qI 50 (.mv (.t 11)), eI 51 (.call 141 [(.t 46), (.t 48), (.t 49), (.t 50)]), qI 13 (.mv (.t 51))])
  (.seq (.draw [1, 4, 13, 14] [] [qD 52 (.mv (.t 2)) 0, qD 53 (.mv (.t 1)) 1, qD 54 (.indexAddr 1 (.t 52) (.t 53)) 2, qD 55 (.load false 1 (.t 54)) 3, qD 56 (.mv (.t 3)) 4, qD 57 (.mv (.t 1)) 5, qD 58 (.indexAddr 1 (.t 56) (.t 57)) 6, qD 59 (.load false 1 (.t 58)) 7, qD 60 (.bin .add .other (.t 55) (.t 59)) 8, qD 14 (.mv (.t 60)) 9])
  (.seq (.seq (.region [1, 4, 13, 14, 67] [qI 61 (.mv (.t 14)), qI 62 (.fieldAddr 0 (.t 4)), qI 63 (.load false 1 (.t 62)), qI 64 (.mv (.t 1)), qI 65 (.indexAddr 1 (.t 63) (.t 64)), qI 66 (.load false 1 (.t 65)), qI 67 (.bin .geq .other (.t 61) (.t 66))])
  (.cond (.t 67) (.seq (.region [1, 4, 13, 14] [qI 68 (.mv (.t 14)), qI 69 (.fieldAddr 0 (.t 4)), qI 70 (.load false 1 (.t 69)), qI 71 (.mv (.t 1)), qI 72 (.indexAddr 1 (.t 70) (.t 71)), qI 73 (.load false 1 (.t 72)), qI 74 (.bin .sub .other (.t 68) (.t 73)), qI 14 (.mv (.t 74))])
  (.draw [1, 13, 14] [] [qD 75 (.load true 3 (.t 4)) 0, qD 76 (.mv (.t 1)) 1, qD 77 (.bin .add .other (.t 76) (.c (.int .i64 1))) 2, qD 78 (.fieldAddr 1 (.t 4)) 3, qD 79 (.load false 1 (.t 78)) 4, qD 80 (.mv (.t 1)) 5, qD 81 (.indexAddr 1 (.t 79) (.t 80)) 6, qD 82 (.load false 1 (.t 81)) 7, qD 83 (.mv (.t 13)) 8, eD 84 (.call 141 [(.t 75), (.t 77), (.t 82), (.t 83)]) 9 [], qD 13 (.mv (.t 84)) 10])) .skip))
  (.seq (.region [1, 14, 15] [qI 85 (.mv (.t 13)), eI 86 (.call 133 [(.t 85)]), qI 15 (.mv (.t 86))])
  (.seq (.region [15] [qI 87 (.mv (.t 15)), qI 88 (.mv (.t 1)), qI 89 (.mv (.t 14)), qI 90 (.indexAddr 1 (.t 87) (.t 88)), nI (.store 1 (.t 90) (.t 89))])
  (.seq (.region [8] [qI 91 (.mv (.t 15)), qI 8 (.mv (.t 91))])
  .ret)))))))))))))⟩
theorem cf141 : cF Try.prog Try.f141 = some if141 := by kernel_rfl
/-- loop.example/g01076/spec.l07Unit -/
def if142 : IFn := ⟨[0, 1], [(.tmp 4)], (.seq (.region [0, 1] [qI 4 (.mv (.c .nils))])
  (.seq (.region [1, 5] [qI 6 (.mv (.t 0)), eI 7 (.makeSl 1 8 [(.int .i64 0)] (.t 6) (.t 6)), qI 5 (.mv (.t 7))])
  (.seq (.region [5] [qI 8 (.mv (.t 5)), qI 9 (.mv (.t 1)), qI 10 (.indexAddr 1 (.t 8) (.t 9)), nI (.store 1 (.t 10) (.c (.int .i64 1)))])
  (.seq (.region [4] [qI 11 (.mv (.t 5)), qI 4 (.mv (.t 11))])
  .ret))))⟩
theorem cf142 : cF Try.prog Try.f142 = some if142 := by kernel_rfl
/-- loop.example/g01076/impl.power -/
def if143 : IFn := ⟨[0, 1, 2], [(.tmp 6)], (.seq (.region [0, 1, 2] [qI 6 (.mv (.c .nils))])
  (.seq (.region [0, 1, 2, 7] [qI 8 (.mv (.t 1)), qI 9 (.len (.t 8)), eI 10 (.makeSl 1 8 [(.int .i64 0)] (.t 9) (.t 9)), qI 7 (.mv (.t 10))])
  (.seq (.seq (.region [0, 1, 7, 11, 12] [qI 11 (.mv (.t 2)), qI 12 (.mv (.c (.int .i64 0)))])
  (.block 0 (.loop [0, 1, 7, 11, 12] (.seq (.region [0, 1, 7, 11, 12, 13] [qI 13 (.bin .lss .other (.t 12) (.t 11))])
  (.seq (.cond (.t 13) .skip (.exit 0))
  (.seq (.block 1 (.region [0, 1, 7, 11, 12] [qI 14 (.mv (.t 0)), qI 15 (.mv (.t 7)), qI 16 (.mv (.t 1)), eI 17 (.call 149 [(.t 14), (.t 15), (.t 16)])]))
  (.region [0, 1, 7, 11, 12] [qI 18 (.bin .add .other (.t 12) (.c (.int .i64 1))), qI 12 (.mv (.t 18))])))))))
  (.seq (.region [6] [qI 19 (.mv (.t 7)), qI 6 (.mv (.t 19))])
  .ret))))⟩
theorem cf143 : cF Try.prog Try.f143 = some if143 := by kernel_rfl
/-- loop.example/g01076/impl.imageBy -/
def if144 : IFn := ⟨[0, 1, 2], [(.tmp 6)], (.seq (.region [0, 1, 2] [qI 6 (.mv (.c .nils))])
  (.seq (.region [0, 1, 2, 7] [qI 10 (.mv (.t 2)), qI 11 (.len (.t 10)), eI 12 (.makeSl 1 8 [(.int .i64 0)] (.t 11) (.t 11)), qI 7 (.mv (.t 12))])
  (.seq (.seq (.region [0, 1, 2, 7, 19, 20, 21] [qI 13 (.mv (.t 0)), qI 14 (.nilCheck (.t 13)), qI 15 (.fieldAddr 2 (.t 14)), qI 16 (.load false 1 (.t 15)), qI 17 (.mv (.t 1)), qI 18 (.indexAddr 1 (.t 16) (.t 17)), qI 19 (.load false 1 (.t 18)), qI 20 (.len (.t 19)), qI 21 (.mv (.c (.int .i64 0)))])
  (.block 0 (.loop [0, 1, 2, 7, 19, 20, 21] (.seq (.region [0, 1, 2, 7, 19, 20, 21, 22] [qI 22 (.bin .lss .other (.t 21) (.t 20))])
  (.seq (.cond (.t 22) .skip (.exit 0))
  (.seq (.block 1 (.seq (.region [0, 1, 2, 7, 8, 9, 19, 20, 21] [qI 23 (.mv (.t 21)), qI 24 (.indexAddr 1 (.t 19) (.t 21)), qI 25 (.load false 1 (.t 24)), qI 8 (.mv (.t 23)), qI 9 (.mv (.t 25))])
  (.seq (.region [0, 1, 2, 7, 9, 19, 20, 21, 32, 33] [qI 26 (.mv (.t 2)), qI 27 (.mv (.t 1)), qI 28 (.bin .add .other (.t 27) (.c (.int .i64 1))), qI 29 (.mv (.t 8)), qI 30 (.bin .add .other (.t 28) (.t 29)), qI 31 (.indexAddr 1 (.t 26) (.t 30)), qI 32 (.load false 1 (.t 31)), qI 33 (.mv (.c (.int .i64 0)))])
  (.block 2 (.loop [0, 1, 2, 7, 9, 19, 20, 21, 32, 33] (.seq (.region [0, 1, 2, 7, 9, 19, 20, 21, 32, 33, 34] [qI 34 (.bin .lss .other (.t 33) (.t 32))])
  (.seq (.cond (.t 34) .skip (.exit 2))
  (.seq (.block 3 (.region [0, 1, 2, 7, 9, 19, 20, 21, 32, 33] [qI 35 (.mv (.t 0)), qI 36 (.mv (.t 7)), qI 37 (.mv (.t 9)), eI 38 (.call 149 [(.t 35), (.t 36), (.t 37)])]))
  (.region [0, 1, 2, 7, 9, 19, 20, 21, 32, 33] [qI 39 (.bin .add .other (.t 33) (.c (.int .i64 1))), qI 33 (.mv (.t 39))])))))))))
  (.region [0, 1, 2, 7, 19, 20, 21] [qI 40 (.bin .add .other (.t 21) (.c (.int .i64 1))), qI 21 (.mv (.t 40))])))))))
  (.seq (.region [6] [qI 41 (.mv (.t 7)), qI 6 (.mv (.t 41))])
  .ret))))⟩
theorem cf144 : cF Try.prog Try.f144 = some if144 := by kernel_rfl
/-- loop.example/g01076/impl.conjugate -/
def if145 : IFn := ⟨[0, 1, 2], [(.tmp 6)], (.seq (.region [0, 1, 2] [qI 6 (.mv (.c .nils))])
  (.seq (.region [6] [qI 7 (.mv (.t 0)), qI 8 (.mv (.t 0)), qI 9 (.mv (.t 2)), eI 10 (.call 151 [(.t 8), (.t 9)]), qI 11 (.mv (.t 0)), qI 12 (.mv (.t 1)), qI 13 (.mv (.t 2)), eI 14 (.call 150 [(.t 11), (.t 12), (.t 13)]), eI 15 (.call 150 [(.t 7), (.t 10), (.t 14)]), qI 6 (.mv (.t 15))])
  .ret))⟩
theorem cf145 : cF Try.prog Try.f145 = some if145 := by kernel_rfl
/-- loop.example/g01076/impl.unitVector -/
def if146 : IFn := ⟨[0, 1], [(.tmp 4)], (.seq (.region [0, 1] [qI 4 (.mv (.c .nils))])
  (.seq (.region [1, 5] [qI 6 (.mv (.t 0)), eI 7 (.makeSl 1 8 [(.int .i64 0)] (.t 6) (.t 6)), qI 5 (.mv (.t 7))])
  (.seq (.region [5] [qI 8 (.mv (.t 5)), qI 9 (.mv (.t 1)), qI 10 (.indexAddr 1 (.t 8) (.t 9)), nI (.store 1 (.t 10) (.c (.int .i64 1)))])
  (.seq (.region [4] [qI 11 (.mv (.t 5)), qI 4 (.mv (.t 11))])
  .ret))))⟩
theorem cf146 : cF Try.prog Try.f146 = some if146 := by kernel_rfl
/-- math/bits.Mul64 -/
def if148 : IFn := ⟨[0, 1], [(.tmp 4), (.tmp 5)], (.seq (.region [0, 1] [qI 4 (.mv (.c (.int .u64 0))), qI 5 (.mv (.c (.int .u64 0)))])
  (.seq (.region [0, 1, 6] [qI 14 (.mv (.t 0)), qI 15 (.bin .and .other (.t 14) (.c (.int .u64 4294967295))), qI 6 (.mv (.t 15))])
  (.seq (.region [0, 1, 6, 7] [qI 16 (.mv (.t 0)), qI 17 (.bin .shr .other (.t 16) (.c (.int .u64 32))), qI 7 (.mv (.t 17))])
  (.seq (.region [0, 1, 6, 7, 8] [qI 18 (.mv (.t 1)), qI 19 (.bin .and .other (.t 18) (.c (.int .u64 4294967295))), qI 8 (.mv (.t 19))])
  (.seq (.region [0, 1, 6, 7, 8, 9] [qI 20 (.mv (.t 1)), qI 21 (.bin .shr .other (.t 20) (.c (.int .u64 32))), qI 9 (.mv (.t 21))])
  (.seq (.region [0, 1, 6, 7, 8, 9, 10] [qI 22 (.mv (.t 6)), qI 23 (.mv (.t 8)), qI 24 (.bin .mul .other (.t 22) (.t 23)), qI 10 (.mv (.t 24))])
  (.seq (.region [0, 1, 6, 7, 9, 11] [qI 25 (.mv (.t 7)), qI 26 (.mv (.t 8)), qI 27 (.bin .mul .other (.t 25) (.t 26)), qI 28 (.mv (.t 10)), qI 29 (.bin .shr .other (.t 28) (.c (.int .u64 32))), qI 30 (.bin .add .other (.t 27) (.t 29)), qI 11 (.mv (.t 30))])
  (.seq (.region [0, 1, 6, 7, 9, 11, 12] [qI 31 (.mv (.t 11)), qI 32 (.bin .and .other (.t 31) (.c (.int .u64 4294967295))), qI 12 (.mv (.t 32))])
  (.seq (.region [0, 1, 6, 7, 9, 12, 13] [qI 33 (.mv (.t 11)), qI 34 (.bin .shr .other (.t 33) (.c (.int .u64 32))), qI 13 (.mv (.t 34))])
  (.seq (.region [0, 1, 7, 9, 12, 13] [qI 35 (.mv (.t 12)), qI 36 (.mv (.t 6)), qI 37 (.mv (.t 9)), qI 38 (.bin .mul .other (.t 36) (.t 37)), qI 39 (.bin .add .other (.t 35) (.t 38)), qI 12 (.mv (.t 39))])
  (.seq (.region [0, 1, 4] [qI 40 (.mv (.t 7)), qI 41 (.mv (.t 9)), qI 42 (.bin .mul .other (.t 40) (.t 41)), qI 43 (.mv (.t 13)), qI 44 (.bin .add .other (.t 42) (.t 43)), qI 45 (.mv (.t 12)), qI 46 (.bin .shr .other (.t 45) (.c (.int .u64 32))), qI 47 (.bin .add .other (.t 44) (.t 46)), qI 4 (.mv (.t 47))])
  (.seq (.region [4, 5] [qI 48 (.mv (.t 0)), qI 49 (.mv (.t 1)), qI 50 (.bin .mul .other (.t 48) (.t 49)), qI 5 (.mv (.t 50))])
  .ret))))))))))))⟩
theorem cf148 : cF Try.prog Try.f148 = some if148 := by kernel_rfl
/-- loop.example/g01076/impl.timesVector -/
def if149 : IFn := ⟨[0, 1, 2], [], (.seq (.region [0, 1, 8, 9, 10] [qI 8 (.mv (.t 2)), qI 9 (.len (.t 8)), qI 10 (.mv (.c (.int .i64 0)))])
  (.block 0 (.loop [0, 1, 8, 9, 10] (.seq (.region [0, 1, 8, 9, 10, 11] [qI 11 (.bin .lss .other (.t 10) (.t 9))])
  (.seq (.cond (.t 11) .skip (.exit 0))
  (.seq (.block 1 (.seq (.region [0, 1, 6, 7, 8, 9, 10] [qI 12 (.mv (.t 10)), qI 13 (.indexAddr 1 (.t 8) (.t 10)), qI 14 (.load false 1 (.t 13)), qI 6 (.mv (.t 12)), qI 7 (.mv (.t 14))])
  (.seq (.region [0, 1, 6, 8, 9, 10, 15, 16] [qI 15 (.mv (.t 7)), qI 16 (.mv (.c (.int .i64 0)))])
  (.block 2 (.loop [0, 1, 6, 8, 9, 10, 15, 16] (.seq (.region [0, 1, 6, 8, 9, 10, 15, 16, 17] [qI 17 (.bin .lss .other (.t 16) (.t 15))])
  (.seq (.cond (.t 17) .skip (.exit 2))
  (.seq (.block 3 (.region [0, 1, 6, 8, 9, 10, 15, 16] [qI 18 (.mv (.t 0)), qI 19 (.mv (.t 1)), qI 20 (.mv (.t 6)), eI 21 (.call 152 [(.t 18), (.t 19), (.t 20)])]))
  (.region [0, 1, 6, 8, 9, 10, 15, 16] [qI 22 (.bin .add .other (.t 16) (.c (.int .i64 1))), qI 16 (.mv (.t 22))])))))))))
  (.region [0, 1, 8, 9, 10] [qI 23 (.bin .add .other (.t 10) (.c (.int .i64 1))), qI 10 (.mv (.t 23))])))))))⟩
theorem cf149 : cF Try.prog Try.f149 = some if149 := by kernel_rfl
/-- loop.example/g01076/impl.multiply -/
def if150 : IFn := ⟨[0, 1, 2], [(.tmp 6)], (.seq (.region [0, 1, 2] [qI 6 (.mv (.c .nils))])
  (.seq (.region [0, 2, 7] [qI 8 (.mv (.t 1)), eI 9 (.call 153 [(.t 8)]), qI 7 (.mv (.t 9))])
  (.seq (.region [7] [qI 10 (.mv (.t 0)), qI 11 (.mv (.t 7)), qI 12 (.mv (.t 2)), eI 13 (.call 149 [(.t 10), (.t 11), (.t 12)])])
  (.seq (.region [6] [qI 14 (.mv (.t 7)), qI 6 (.mv (.t 14))])
  .ret))))⟩
theorem cf150 : cF Try.prog Try.f150 = some if150 := by kernel_rfl
/-- loop.example/g01076/impl.invert -/
def if151 : IFn := ⟨[0, 1], [(.tmp 4)], (.seq (.region [0, 1] [qI 4 (.mv (.c .nils))])
  (.seq (.region [0, 1, 5] [qI 8 (.mv (.t 1)), eI 9 (.call 153 [(.t 8)]), qI 5 (.mv (.t 9))])
  (.seq (.region [0, 5, 6] [qI 10 (.mv (.t 1)), qI 11 (.len (.t 10)), eI 12 (.makeSl 1 8 [(.int .i64 0)] (.t 11) (.t 11)), qI 6 (.mv (.t 12))])
  (.seq (.seq (.region [0, 5, 6, 14, 15] [qI 13 (.mv (.t 5)), qI 14 (.len (.t 13)), qI 15 (.mv (.c (.int .i64 0)))])
  (.block 0 (.loop [0, 5, 6, 14, 15] (.seq (.region [0, 5, 6, 14, 15, 16] [qI 16 (.bin .lss .other (.t 15) (.t 14))])
  (.seq (.cond (.t 16) .skip (.exit 0))
  (.seq (.block 1 (.seq (.region [0, 5, 6, 7, 14, 15] [qI 17 (.mv (.t 15)), qI 7 (.mv (.t 17))])
  (.block 2 (.loop [0, 5, 6, 7, 14, 15] (.seq (.seq (.region [0, 5, 6, 7, 14, 15, 22] [qI 18 (.mv (.t 5)), qI 19 (.mv (.t 7)), qI 20 (.indexAddr 1 (.t 18) (.t 19)), qI 21 (.load false 1 (.t 20)), qI 22 (.bin .neq .other (.t 21) (.c (.int .i64 0)))])
  (.cond (.t 22) .skip (.exit 2)))
  (.block 3 (.seq (.region [0, 5, 6, 7, 14, 15] [qI 23 (.mv (.t 0)), qI 24 (.mv (.t 5)), qI 25 (.mv (.t 7)), eI 26 (.call 152 [(.t 23), (.t 24), (.t 25)])])
  (.region [0, 5, 6, 7, 14, 15] [qI 27 (.mv (.t 0)), qI 28 (.mv (.t 6)), qI 29 (.mv (.t 7)), eI 30 (.call 152 [(.t 27), (.t 28), (.t 29)])]))))))))
  (.region [0, 5, 6, 14, 15] [qI 31 (.bin .add .other (.t 15) (.c (.int .i64 1))), qI 15 (.mv (.t 31))])))))))
  (.seq (.region [4] [qI 32 (.mv (.t 6)), qI 4 (.mv (.t 32))])
  .ret)))))⟩
theorem cf151 : cF Try.prog Try.f151 = some if151 := by kernel_rfl
/-- loop.example/g01076/impl.timesGenerator -/
def if152 : IFn := ⟨[0, 1, 2], [], (.seq (.region [0, 1, 2, 6] [qI 10 (.mv (.t 1)), qI 11 (.mv (.t 2)), qI 12 (.bin .add .other (.t 11) (.c (.int .i64 1))), qI 13 (.slice 1 (.t 10) (some (.t 12)) none none), eI 14 (.call 153 [(.t 13)]), qI 6 (.mv (.t 14))])
  (.seq (.seq (.region [0, 1, 2, 6, 16, 17] [qI 15 (.mv (.t 6)), qI 16 (.len (.t 15)), qI 17 (.mv (.c (.int .i64 0)))])
  (.block 0 (.loop [0, 1, 2, 6, 16, 17] (.seq (.region [0, 1, 2, 6, 16, 17, 18] [qI 18 (.bin .lss .other (.t 17) (.t 16))])
  (.seq (.cond (.t 18) .skip (.exit 0))
  (.seq (.block 1 (.seq (.region [0, 1, 2, 6, 7, 16, 17] [qI 19 (.mv (.t 17)), qI 7 (.mv (.t 19))])
  (.region [0, 1, 2, 6, 16, 17] [qI 20 (.mv (.t 1)), qI 21 (.mv (.t 2)), qI 22 (.bin .add .other (.t 21) (.c (.int .i64 1))), qI 23 (.mv (.t 7)), qI 24 (.bin .add .other (.t 22) (.t 23)), qI 25 (.indexAddr 1 (.t 20) (.t 24)), nI (.store 1 (.t 25) (.c (.int .i64 0)))])))
  (.region [0, 1, 2, 6, 16, 17] [qI 26 (.bin .add .other (.t 17) (.c (.int .i64 1))), qI 17 (.mv (.t 26))])))))))
  (.seq (.region [0, 1, 2, 6] [qI 27 (.mv (.t 1)), qI 28 (.mv (.t 2)), qI 29 (.indexAddr 1 (.t 27) (.t 28)), qI 30 (.load false 1 (.t 29)), qI 31 (.bin .add .other (.t 30) (.c (.int .i64 1))), qI 32 (.indexAddr 1 (.t 27) (.t 28)), nI (.store 1 (.t 32) (.t 31))])
  (.seq (.seq (.draw [0, 1, 2, 6, 44] [] [qD 33 (.mv (.t 1)) 0, qD 34 (.mv (.t 2)) 1, qD 35 (.indexAddr 1 (.t 33) (.t 34)) 2, qD 36 (.load false 1 (.t 35)) 3, qD 37 (.mv (.t 0)) 4, qD 38 (.nilCheck (.t 37)) 5, qD 39 (.fieldAddr 0 (.t 38)) 6, qD 40 (.load false 1 (.t 39)) 7, qD 41 (.mv (.t 2)) 8, qD 42 (.indexAddr 1 (.t 40) (.t 41)) 9, qD 43 (.load false 1 (.t 42)) 10, qD 44 (.bin .eql .other (.t 36) (.t 43)) 11])
  (.cond (.t 44) (.seq (.region [0, 1, 2, 6] [qI 45 (.mv (.t 1)), qI 46 (.mv (.t 2)), qI 47 (.indexAddr 1 (.t 45) (.t 46)), nI (.store 1 (.t 47) (.c (.int .i64 0)))])
  (.region [0, 1, 2, 6] [qI 48 (.mv (.t 0)), qI 49 (.mv (.t 1)), qI 50 (.mv (.t 0)), qI 51 (.nilCheck (.t 50)), qI 52 (.fieldAddr 1 (.t 51)), qI 53 (.load false 1 (.t 52)), qI 54 (.mv (.t 2)), qI 55 (.indexAddr 1 (.t 53) (.t 54)), qI 56 (.load false 1 (.t 55)), eI 57 (.call 149 [(.t 48), (.t 49), (.t 56)])])) .skip))
  (.seq (.region [0, 1, 2, 58, 59, 60] [qI 58 (.mv (.t 6)), qI 59 (.len (.t 58)), qI 60 (.mv (.c (.int .i64 0)))])
  (.block 2 (.loop [0, 1, 2, 58, 59, 60] (.seq (.region [0, 1, 2, 58, 59, 60, 61] [qI 61 (.bin .lss .other (.t 60) (.t 59))])
  (.seq (.cond (.t 61) .skip (.exit 2))
  (.seq (.block 3 (.seq (.region [0, 1, 2, 8, 9, 58, 59, 60] [qI 62 (.mv (.t 60)), qI 63 (.indexAddr 1 (.t 58) (.t 60)), qI 64 (.load false 1 (.t 63)), qI 8 (.mv (.t 62)), qI 9 (.mv (.t 64))])
  (.seq (.region [0, 1, 2, 8, 58, 59, 60, 65, 66] [qI 65 (.mv (.t 9)), qI 66 (.mv (.c (.int .i64 0)))])
  (.block 4 (.loop [0, 1, 2, 8, 58, 59, 60, 65, 66] (.seq (.region [0, 1, 2, 8, 58, 59, 60, 65, 66, 67] [qI 67 (.bin .lss .other (.t 66) (.t 65))])
  (.seq (.cond (.t 67) .skip (.exit 4))
  (.seq (.block 5 (.region [0, 1, 2, 8, 58, 59, 60, 65, 66] [qI 68 (.mv (.t 0)), qI 69 (.mv (.t 1)), qI 70 (.mv (.t 0)), qI 71 (.nilCheck (.t 70)), qI 72 (.fieldAddr 2 (.t 71)), qI 73 (.load false 1 (.t 72)), qI 74 (.mv (.t 2)), qI 75 (.indexAddr 1 (.t 73) (.t 74)), qI 76 (.load false 1 (.t 75)), qI 77 (.mv (.t 8)), qI 78 (.indexAddr 1 (.t 76) (.t 77)), qI 79 (.load false 1 (.t 78)), eI 80 (.call 149 [(.t 68), (.t 69), (.t 79)])]))
  (.region [0, 1, 2, 8, 58, 59, 60, 65, 66] [qI 81 (.bin .add .other (.t 66) (.c (.int .i64 1))), qI 66 (.mv (.t 81))])))))))))
  (.region [0, 1, 2, 58, 59, 60] [qI 82 (.bin .add .other (.t 60) (.c (.int .i64 1))), qI 60 (.mv (.t 82))])))))))))))⟩
theorem cf152 : cF Try.prog Try.f152 = some if152 := by kernel_rfl
/-- slices.Clone[[]int64,int64] -/
def if153 : IFn := ⟨[0], [(.tmp 2)], (.seq (.region [0] [qI 2 (.mv (.c .nils))])
  (.seq (.seq (.region [0, 4] [qI 3 (.mv (.t 0)), qI 4 (.bin .eql .slice (.t 3) (.c .nils))])
  (.cond (.t 4) (.seq (.region [2] [qI 2 (.mv (.c .nils))])
  .ret) .skip))
  (.seq (.region [2] [eI 5 (.buildSl 1 0 [(.int .i64 0)] []), qI 6 (.mv (.t 0)), eI 7 (.append 1 8 (.t 5) (.t 6)), qI 2 (.mv (.t 7))])
  .ret)))⟩
theorem cf153 : cF Try.prog Try.f153 = some if153 := by kernel_rfl
-- BAD 154 (runtime.boundsError).Error
-- BAD 155 (runtime.boundsError).RuntimeError
-- BAD 156 (runtime.errorString).Error
-- BAD 157 (runtime.errorString).RuntimeError
-- BAD 158 (runtime.plainError).Error
-- BAD 159 (runtime.plainError).RuntimeError
-- BAD 160 (runtime.errorAddressString).Error
-- BAD 161 (runtime.errorAddressString).RuntimeError
-- BAD 162 (*runtime.TypeAssertionError).Error
-- BAD 163 (*runtime.TypeAssertionError).RuntimeError
-- BAD 164 (*runtime.PanicNilError).Error
-- BAD 165 (*runtime.PanicNilError).RuntimeError
-- BAD 166 (*internal/abi.Type).Align
-- BAD 167 (internal/runtime/maps.unhashableTypeError).Error
-- BAD 168 (internal/runtime/maps.unhashableTypeError).RuntimeError
-- BAD 169 (internal/abi.Kind).String
end Go.Proofs
