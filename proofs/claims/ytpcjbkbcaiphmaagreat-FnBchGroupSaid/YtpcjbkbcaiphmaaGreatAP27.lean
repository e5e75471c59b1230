/- The compiled forms of the functions, each held against the program by the kernel. Written by program. -/
import Derived.Test.YtpcjbkbcaiphmaaGreatAAbPy
import Derived.Test.YtpcjbkbcaiphmaaGreatChecked
namespace Go.Proofs
open Go.Ab
theorem mix : Tryz.prog.follows .mixedOrders = true := by kernel_rfl
def if12 : IFn := ⟨[0], [(.tmp 2)], (.seq (.region [0] [qI 2 (.mv (.c (.bool false)))])
  (.seq (.region [2] [qI 3 (.mv (.t 0)), qI 4 (.len (.t 3)), qI 5 (.bin .gtr .other (.t 4) (.c (.int .i64 4096))), qI 2 (.mv (.t 5))])
  .ret))⟩
theorem cf12 : cF Tryz.prog Tryz.f12 = some if12 := by kernel_rfl
def if13 : IFn := ⟨[0], [(.cell 2 true 3), (.tmp 3), (.tmp 4)], (.seq (.region [0, 2] [eI 2 (.alloc [(.int .i64 0), .nils, .nils]), qI 3 (.mv (.c .nils)), qI 4 (.mv (.c .nils))])
  (.seq (.region [2, 3, 4] [qI 5 (.mv (.t 0)), eI 6 (.call 96 [(.t 5)]), qI 7 (.extract (.t 6) 0), qI 8 (.extract (.t 6) 1), qI 9 (.extract (.t 6) 2), nI (.store 3 (.t 2) (.t 7)), qI 3 (.mv (.t 8)), qI 4 (.mv (.t 9))])
  .ret))⟩
theorem cf13 : cF Tryz.prog Tryz.f13 = some if13 := by kernel_rfl
def if14 : IFn := ⟨[0, 1, 2], [(.tmp 6), (.tmp 7)], (.seq (.region [1, 2, 3] [eI 3 (.box (.t 0)), qI 6 (.mv (.c .nils)), qI 7 (.mv (.c (.int .i64 0)))])
  (.seq (.seq (.region [1, 2, 3, 8] [qI 9 (.mv (.t 1)), qI 10 (.mv (.t 2)), eI 11 (.buildSl 1 2 [.nils] [(0, 1, (.t 9)), (1, 1, (.t 10))]), eI 12 (.call 97 [(.t 3), (.t 11)]), qI 8 (.mv (.t 12))])
  (.seq (.region [1, 2, 3, 8, 14] [qI 13 (.mv (.t 8)), qI 14 (.bin .neq .other (.t 13) (.c (.int .i64 0)))])
  (.cond (.t 14) (.seq (.region [6, 7] [qI 15 (.mv (.t 8)), qI 6 (.mv (.c .nils)), qI 7 (.mv (.t 15))])
  .ret) .skip)))
  (.seq (.region [6, 7] [qI 16 (.mv (.t 1)), qI 17 (.mv (.t 2)), eI 18 (.call 98 [(.t 3), (.t 16), (.t 17)]), qI 6 (.mv (.t 18)), qI 7 (.mv (.c (.int .i64 0)))])
  .ret)))⟩
theorem cf14 : cF Tryz.prog Tryz.f14 = some if14 := by kernel_rfl
def if15 : IFn := ⟨[0, 1, 2], [(.tmp 6), (.tmp 7)], (.seq (.region [1, 2, 3] [eI 3 (.box (.t 0)), qI 6 (.mv (.c .nils)), qI 7 (.mv (.c (.int .i64 0)))])
  (.seq (.seq (.region [1, 2, 3, 8] [qI 9 (.load true 3 (.t 3)), qI 10 (.mv (.t 1)), qI 11 (.mv (.t 2)), eI 12 (.buildSl 1 2 [.nils] [(0, 1, (.t 10)), (1, 1, (.t 11))]), eI 13 (.call 99 [(.t 9), (.t 12)]), qI 8 (.mv (.t 13))])
  (.seq (.region [1, 2, 3, 8, 15] [qI 14 (.mv (.t 8)), qI 15 (.bin .neq .other (.t 14) (.c (.int .i64 0)))])
  (.cond (.t 15) (.seq (.region [6, 7] [qI 16 (.mv (.t 8)), qI 6 (.mv (.c .nils)), qI 7 (.mv (.t 16))])
  .ret) .skip)))
  (.seq (.region [6, 7] [qI 17 (.load true 3 (.t 3)), qI 18 (.mv (.t 1)), qI 19 (.mv (.t 2)), eI 20 (.call 100 [(.t 17), (.t 18), (.t 19)]), qI 6 (.mv (.t 20)), qI 7 (.mv (.c (.int .i64 0)))])
  .ret)))⟩
theorem cf15 : cF Tryz.prog Tryz.f15 = some if15 := by kernel_rfl
def if16 : IFn := ⟨[0, 1], [(.tmp 4)], (.seq (.region [0, 1] [qI 4 (.mv (.c (.bool false)))])
  (.seq (.seq (.region [0, 1, 10] [qI 6 (.mv (.t 0)), qI 7 (.len (.t 6)), qI 8 (.mv (.t 1)), qI 9 (.len (.t 8)), qI 10 (.bin .neq .other (.t 7) (.t 9))])
  (.cond (.t 10) (.seq (.region [4] [qI 4 (.mv (.c (.bool false)))])
  .ret) .skip))
  (.seq (.seq (.region [0, 1, 5] [qI 5 (.mv (.c (.int .i64 0)))])
  (.block 0 (.loop [0, 1, 5] (.seq (.seq (.region [0, 1, 5, 14] [qI 11 (.mv (.t 5)), qI 12 (.mv (.t 0)), qI 13 (.len (.t 12)), qI 14 (.bin .lss .other (.t 11) (.t 13))])
  (.cond (.t 14) .skip (.exit 0)))
  (.seq (.block 1 (.seq (.draw [0, 1, 5, 25] [] [qD 17 (.mv (.t 0)) 0, qD 18 (.mv (.t 5)) 1, qD 19 (.indexAddr 1 (.t 17) (.t 18)) 2, qD 20 (.load false 1 (.t 19)) 3, qD 21 (.mv (.t 1)) 4, qD 22 (.mv (.t 5)) 5, qD 23 (.indexAddr 1 (.t 21) (.t 22)) 6, qD 24 (.load false 1 (.t 23)) 7, qD 25 (.bin .neq .other (.t 20) (.t 24)) 8])
  (.cond (.t 25) (.seq (.region [4] [qI 4 (.mv (.c (.bool false)))])
  .ret) .skip)))
  (.region [0, 1, 5] [qI 15 (.mv (.t 5)), qI 16 (.bin .add .other (.t 15) (.c (.int .i64 1))), qI 5 (.mv (.t 16))]))))))
  (.seq (.region [4] [qI 4 (.mv (.c (.bool true)))])
  .ret))))⟩
theorem cf16 : cF Tryz.prog Tryz.f16 = some if16 := by kernel_rfl
def if17 : IFn := ⟨[0, 1], [(.tmp 4)], (.seq (.region [0, 1] [qI 4 (.mv (.c .nilp))])
  (.seq (.region [0, 5] [qI 7 (.mv (.t 0)), qI 8 (.mv (.t 1)), qI 9 (.bin .mul .other (.t 8) (.c (.int .u64 7607))), qI 10 (.mv (.t 0)), qI 11 (.len (.t 10)), qI 12 (.conv .u64 (.t 11)), qI 13 (.bin .add .other (.t 9) (.t 12)), qI 14 (.build [.nils, (.int .i64 0), (.int .u64 0)] [(0, 1, (.t 7)), (2, 1, (.t 13))]), eI 15 (.box (.t 14)), qI 5 (.mv (.t 15))])
  (.seq (.seq (.region [0, 5, 6] [qI 6 (.mv (.c (.int .i64 0)))])
  (.block 0 (.loop [0, 5, 6] (.seq (.seq (.region [0, 5, 6, 19] [qI 16 (.mv (.t 6)), qI 17 (.mv (.t 0)), qI 18 (.len (.t 17)), qI 19 (.bin .lss .other (.t 16) (.t 18))])
  (.cond (.t 19) .skip (.exit 0)))
  (.seq (.block 1 (.draw [0, 5, 6] [] [qD 22 (.mv (.t 5)) 0, qD 23 (.mv (.t 5)) 1, qD 24 (.nilCheck (.t 23)) 2, qD 25 (.fieldAddr 2 (.t 24)) 3, qD 26 (.load false 1 (.t 25)) 4, qD 27 (.bin .mul .other (.t 26) (.c (.int .u64 1099511628211))) 5, qD 28 (.mv (.t 0)) 6, qD 29 (.mv (.t 6)) 7, qD 30 (.indexAddr 1 (.t 28) (.t 29)) 8, qD 31 (.load false 1 (.t 30)) 9, qD 32 (.conv .u64 (.t 31)) 10, qD 33 (.bin .add .other (.t 27) (.t 32)) 11, qD 34 (.bin .add .other (.t 33) (.c (.int .u64 5))) 12, qD 35 (.nilCheck (.t 22)) 13, qD 36 (.fieldAddr 2 (.t 35)) 14, ⟨nI (.store 1 (.t 36) (.t 34)), 15, []⟩]))
  (.region [0, 5, 6] [qI 20 (.mv (.t 6)), qI 21 (.bin .add .other (.t 20) (.c (.int .i64 1))), qI 6 (.mv (.t 21))]))))))
  (.seq (.region [4] [qI 37 (.mv (.t 5)), qI 4 (.mv (.t 37))])
  .ret))))⟩
theorem cf17 : cF Tryz.prog Tryz.f17 = some if17 := by kernel_rfl
def if18 : IFn := ⟨[0, 1], [(.tmp 4)], (.seq (.region [0, 1] [qI 4 (.mv (.c (.int .i64 0)))])
  (.seq (.region [0, 1] [qI 6 (.mv (.t 0)), qI 7 (.mv (.t 0)), qI 8 (.nilCheck (.t 7)), qI 9 (.fieldAddr 2 (.t 8)), qI 10 (.load false 1 (.t 9)), qI 11 (.bin .mul .other (.t 10) (.c (.int .u64 6364136223846793005))), qI 12 (.bin .add .other (.t 11) (.c (.int .u64 1442695040888963407))), qI 13 (.nilCheck (.t 6)), qI 14 (.fieldAddr 2 (.t 13)), nI (.store 1 (.t 14) (.t 12))])
  (.seq (.region [0, 1, 5] [qI 15 (.mv (.t 0)), qI 16 (.nilCheck (.t 15)), qI 17 (.fieldAddr 2 (.t 16)), qI 18 (.load false 1 (.t 17)), qI 19 (.bin .shr .other (.t 18) (.c (.int .u64 33))), qI 20 (.bin .and .other (.t 19) (.c (.int .u64 16777215))), qI 21 (.conv .i64 (.t 20)), qI 5 (.mv (.t 21))])
  (.seq (.seq (.draw [0, 1, 5, 31] [] [qD 22 (.mv (.t 0)) 0, qD 23 (.nilCheck (.t 22)) 1, qD 24 (.fieldAddr 1 (.t 23)) 2, qD 25 (.load false 1 (.t 24)) 3, qD 26 (.mv (.t 0)) 4, qD 27 (.nilCheck (.t 26)) 5, qD 28 (.fieldAddr 0 (.t 27)) 6, qD 29 (.load false 1 (.t 28)) 7, qD 30 (.len (.t 29)) 8, qD 31 (.bin .lss .other (.t 25) (.t 30)) 9])
  (.cond (.t 31) (.seq (.draw [0, 1, 5] [] [qD 32 (.mv (.t 5)) 0, qD 33 (.mv (.t 0)) 1, qD 34 (.nilCheck (.t 33)) 2, qD 35 (.fieldAddr 0 (.t 34)) 3, qD 36 (.load false 1 (.t 35)) 4, qD 37 (.mv (.t 0)) 5, qD 38 (.nilCheck (.t 37)) 6, qD 39 (.fieldAddr 1 (.t 38)) 7, qD 40 (.load false 1 (.t 39)) 8, qD 41 (.indexAddr 1 (.t 36) (.t 40)) 9, qD 42 (.load false 1 (.t 41)) 10, qD 43 (.conv .i64 (.t 42)) 11, qD 44 (.bin .add .other (.t 32) (.t 43)) 12, qD 5 (.mv (.t 44)) 13])
  (.region [1, 5] [qI 45 (.mv (.t 0)), qI 46 (.mv (.t 0)), qI 47 (.nilCheck (.t 46)), qI 48 (.fieldAddr 1 (.t 47)), qI 49 (.load false 1 (.t 48)), qI 50 (.bin .add .other (.t 49) (.c (.int .i64 1))), qI 51 (.nilCheck (.t 45)), qI 52 (.fieldAddr 1 (.t 51)), nI (.store 1 (.t 52) (.t 50))])) .skip))
  (.seq (.region [4] [qI 53 (.mv (.t 5)), qI 54 (.mv (.t 1)), qI 55 (.bin .rem .other (.t 53) (.t 54)), qI 4 (.mv (.t 55))])
  .ret)))))⟩
theorem cf18 : cF Tryz.prog Tryz.f18 = some if18 := by kernel_rfl
def if19 : IFn := ⟨[0, 1], [(.tmp 4), (.tmp 5)], (.seq (.region [1, 2] [eI 2 (.box (.t 0)), qI 4 (.mv (.c .nils)), qI 5 (.mv (.c (.int .i64 0)))])
  (.seq (.seq (.region [1, 2, 9] [qI 6 (.mv (.t 1)), eI 7 (.buildSl 1 1 [.nils] [(0, 1, (.t 6))]), eI 8 (.call 101 [(.t 2), (.t 7)]), qI 9 (.un .not (.t 8))])
  (.cond (.t 9) (.seq (.region [4, 5] [qI 4 (.mv (.c .nils)), qI 5 (.mv (.c (.int .i64 1)))])
  .ret) .skip))
  (.seq (.region [4, 5] [qI 10 (.mv (.t 1)), eI 11 (.call 102 [(.t 2), (.c (.int .i64 (-1))), (.t 10)]), qI 4 (.mv (.t 11)), qI 5 (.mv (.c (.int .i64 0)))])
  .ret)))⟩
theorem cf19 : cF Tryz.prog Tryz.f19 = some if19 := by kernel_rfl
def if20 : IFn := ⟨[0, 1], [(.tmp 4), (.tmp 5)], (.seq (.region [1, 2] [eI 2 (.box (.t 0)), qI 4 (.mv (.c .nils)), qI 5 (.mv (.c (.int .i64 0)))])
  (.seq (.seq (.region [1, 2, 14] [qI 6 (.load true 3 (.t 2)), eI 7 (.call 103 [(.t 6)]), qI 8 (.un .not (.t 7)), qI 9 (.mv (.t 8)), ⟨(some 10), .load true 3 (.t 2), true, (some (9, false))⟩, ⟨(some 11), .mv (.t 1), true, (some (9, false))⟩, ⟨(some 12), .call 104 [(.t 10), (.t 11)], false, (some (9, false))⟩, ⟨(some 13), .un .not (.t 12), true, (some (9, false))⟩, qI 14 (.pick (.t 9) (.c (.bool true)) (.t 13))])
  (.cond (.t 14) (.seq (.region [4, 5] [qI 4 (.mv (.c .nils)), qI 5 (.mv (.c (.int .i64 1)))])
  .ret) .skip))
  (.seq (.region [4, 5] [qI 15 (.load true 3 (.t 2)), qI 16 (.mv (.t 1)), qI 17 (.mv (.t 1)), eI 18 (.call 105 [(.t 15), (.c (.int .i64 (-1))), (.t 16), (.c (.int .i64 0)), (.t 17)]), qI 4 (.mv (.t 18)), qI 5 (.mv (.c (.int .i64 0)))])
  .ret)))⟩
theorem cf20 : cF Tryz.prog Tryz.f20 = some if20 := by kernel_rfl
def if21 : IFn := ⟨[0], [(.tmp 2)], (.seq (.region [0] [qI 2 (.mv (.c (.bool false)))])
  (.seq (.seq (.region [0, 3] [qI 3 (.mv (.c (.int .i64 0)))])
  (.block 0 (.loop [0, 3] (.seq (.seq (.region [0, 3, 7] [qI 4 (.mv (.t 3)), qI 5 (.mv (.t 0)), qI 6 (.len (.t 5)), qI 7 (.bin .lss .other (.t 4) (.t 6))])
  (.cond (.t 7) .skip (.exit 0)))
  (.seq (.block 1 (.seq (.region [0, 3, 14] [qI 10 (.mv (.t 0)), qI 11 (.mv (.t 3)), qI 12 (.indexAddr 1 (.t 10) (.t 11)), qI 13 (.load false 1 (.t 12)), qI 14 (.bin .neq .other (.t 13) (.c (.int .i64 0)))])
  (.cond (.t 14) (.seq (.region [2] [qI 2 (.mv (.c (.bool false)))])
  .ret) .skip)))
  (.region [0, 3] [qI 8 (.mv (.t 3)), qI 9 (.bin .add .other (.t 8) (.c (.int .i64 1))), qI 3 (.mv (.t 9))]))))))
  (.seq (.region [2] [qI 2 (.mv (.c (.bool true)))])
  .ret)))⟩
theorem cf21 : cF Tryz.prog Tryz.f21 = some if21 := by kernel_rfl
def if22 : IFn := ⟨[0, 1], [(.tmp 4), (.tmp 5)], (.seq (.region [1, 2] [eI 2 (.box (.t 0)), qI 4 (.mv (.c .nils)), qI 5 (.mv (.c (.int .i64 0)))])
  (.seq (.seq (.region [1, 2, 6] [qI 7 (.mv (.t 1)), eI 8 (.call 97 [(.t 2), (.t 7)]), qI 6 (.mv (.t 8))])
  (.seq (.region [1, 2, 6, 10] [qI 9 (.mv (.t 6)), qI 10 (.bin .neq .other (.t 9) (.c (.int .i64 0)))])
  (.cond (.t 10) (.seq (.region [4, 5] [qI 11 (.mv (.t 6)), qI 4 (.mv (.c .nils)), qI 5 (.mv (.t 11))])
  .ret) .skip)))
  (.seq (.region [4, 5] [qI 12 (.mv (.t 1)), eI 13 (.call 106 [(.t 2), (.t 12)]), qI 4 (.mv (.t 13)), qI 5 (.mv (.c (.int .i64 0)))])
  .ret)))⟩
theorem cf22 : cF Tryz.prog Tryz.f22 = some if22 := by kernel_rfl
def if23 : IFn := ⟨[0, 1, 2], [(.tmp 6), (.tmp 7)], (.seq (.region [1, 2, 3] [eI 3 (.box (.t 0)), qI 6 (.mv (.c .nils)), qI 7 (.mv (.c (.int .i64 0)))])
  (.seq (.seq (.region [1, 2, 3, 11] [qI 8 (.mv (.t 2)), eI 9 (.buildSl 1 1 [.nils] [(0, 1, (.t 8))]), eI 10 (.call 101 [(.t 3), (.t 9)]), qI 11 (.un .not (.t 10))])
  (.cond (.t 11) (.seq (.region [6, 7] [qI 6 (.mv (.c .nils)), qI 7 (.mv (.c (.int .i64 1)))])
  .ret) .skip))
  (.seq (.seq (.region [1, 2, 3, 14] [qI 12 (.mv (.t 1)), eI 13 (.call 107 [(.t 12), (.c (.int .i64 (-1000000))), (.c (.int .i64 1000000))]), qI 14 (.un .not (.t 13))])
  (.cond (.t 14) (.seq (.region [6, 7] [qI 6 (.mv (.c .nils)), qI 7 (.mv (.c (.int .i64 2)))])
  .ret) .skip))
  (.seq (.region [6, 7] [qI 15 (.mv (.t 1)), qI 16 (.mv (.t 2)), eI 17 (.call 102 [(.t 3), (.t 15), (.t 16)]), qI 6 (.mv (.t 17)), qI 7 (.mv (.c (.int .i64 0)))])
  .ret))))⟩
theorem cf23 : cF Tryz.prog Tryz.f23 = some if23 := by kernel_rfl
def if24 : IFn := ⟨[0, 1, 2], [(.tmp 6), (.tmp 7)], (.seq (.region [1, 2, 3] [eI 3 (.box (.t 0)), qI 6 (.mv (.c .nils)), qI 7 (.mv (.c (.int .i64 0)))])
  (.seq (.seq (.region [1, 2, 3, 16] [qI 8 (.load true 3 (.t 3)), eI 9 (.call 103 [(.t 8)]), qI 10 (.un .not (.t 9)), qI 11 (.mv (.t 10)), ⟨(some 12), .load true 3 (.t 3), true, (some (11, false))⟩, ⟨(some 13), .mv (.t 2), true, (some (11, false))⟩, ⟨(some 14), .call 104 [(.t 12), (.t 13)], false, (some (11, false))⟩, ⟨(some 15), .un .not (.t 14), true, (some (11, false))⟩, qI 16 (.pick (.t 11) (.c (.bool true)) (.t 15))])
  (.cond (.t 16) (.seq (.region [6, 7] [qI 6 (.mv (.c .nils)), qI 7 (.mv (.c (.int .i64 1)))])
  .ret) .skip))
  (.seq (.seq (.region [1, 2, 3, 19] [qI 17 (.mv (.t 1)), eI 18 (.call 108 [(.t 17), (.c (.int .i64 (-1000000))), (.c (.int .i64 1000000))]), qI 19 (.un .not (.t 18))])
  (.cond (.t 19) (.seq (.region [6, 7] [qI 6 (.mv (.c .nils)), qI 7 (.mv (.c (.int .i64 2)))])
  .ret) .skip))
  (.seq (.region [6, 7] [qI 20 (.load true 3 (.t 3)), qI 21 (.mv (.t 1)), qI 22 (.mv (.t 2)), qI 23 (.mv (.t 2)), eI 24 (.call 105 [(.t 20), (.t 21), (.t 22), (.c (.int .i64 0)), (.t 23)]), qI 6 (.mv (.t 24)), qI 7 (.mv (.c (.int .i64 0)))])
  .ret))))⟩
theorem cf24 : cF Tryz.prog Tryz.f24 = some if24 := by kernel_rfl
def if25 : IFn := ⟨[0], [(.cell 2 true 3), (.tmp 3), (.tmp 4)], (.seq (.region [0, 2] [eI 2 (.alloc [(.int .i64 0), .nils, .nils]), qI 3 (.mv (.c .nils)), qI 4 (.mv (.c .nils))])
  (.seq (.region [2, 3, 4] [qI 5 (.mv (.t 0)), eI 6 (.call 96 [(.t 5)]), qI 7 (.extract (.t 6) 0), qI 8 (.extract (.t 6) 1), qI 9 (.extract (.t 6) 2), nI (.store 3 (.t 2) (.t 7)), qI 3 (.mv (.t 8)), qI 4 (.mv (.t 9))])
  .ret))⟩
theorem cf25 : cF Tryz.prog Tryz.f25 = some if25 := by kernel_rfl
def if26 : IFn := ⟨[0, 1, 2], [(.tmp 6), (.tmp 7)], (.seq (.region [1, 2, 3] [eI 3 (.box (.t 0)), qI 6 (.mv (.c .nils)), qI 7 (.mv (.c (.int .i64 0)))])
  (.seq (.seq (.region [1, 2, 3, 8] [qI 10 (.mv (.t 1)), qI 11 (.mv (.t 2)), eI 12 (.buildSl 1 2 [.nils] [(0, 1, (.t 10)), (1, 1, (.t 11))]), eI 13 (.call 97 [(.t 3), (.t 12)]), qI 8 (.mv (.t 13))])
  (.seq (.region [1, 2, 3, 8, 15] [qI 14 (.mv (.t 8)), qI 15 (.bin .neq .other (.t 14) (.c (.int .i64 0)))])
  (.cond (.t 15) (.seq (.region [6, 7] [qI 16 (.mv (.t 8)), qI 6 (.mv (.c .nils)), qI 7 (.mv (.t 16))])
  .ret) .skip)))
  (.seq (.region [1, 2, 3, 9] [qI 17 (.mv (.t 1)), qI 18 (.mv (.t 2)), eI 19 (.call 109 [(.t 3), (.t 17), (.t 18)]), qI 9 (.mv (.t 19))])
  (.seq (.region [6, 7] [qI 20 (.mv (.t 1)), qI 21 (.mv (.t 2)), qI 22 (.mv (.t 9)), eI 23 (.call 110 [(.t 3), (.t 22), (.c (.int .i64 (-2)))]), qI 24 (.mv (.t 9)), qI 25 (.mv (.t 1)), eI 26 (.call 109 [(.t 3), (.t 24), (.t 25)]), eI 27 (.call 110 [(.t 3), (.t 26), (.c (.int .i64 12))]), qI 28 (.mv (.t 9)), qI 29 (.mv (.t 2)), eI 30 (.call 109 [(.t 3), (.t 28), (.t 29)]), eI 31 (.call 110 [(.t 3), (.t 30), (.c (.int .i64 (-12)))]), eI 32 (.buildSl 1 5 [.nils] [(0, 1, (.t 20)), (1, 1, (.t 21)), (2, 1, (.t 23)), (3, 1, (.t 27)), (4, 1, (.t 31))]), eI 33 (.call 106 [(.t 3), (.t 32)]), qI 6 (.mv (.t 33)), qI 7 (.mv (.c (.int .i64 0)))])
  .ret))))⟩
theorem cf26 : cF Tryz.prog Tryz.f26 = some if26 := by kernel_rfl
def if27 : IFn := ⟨[0, 1, 2], [(.tmp 6), (.tmp 7)], (.seq (.region [1, 2, 3] [eI 3 (.box (.t 0)), qI 6 (.mv (.c .nils)), qI 7 (.mv (.c (.int .i64 0)))])
  (.seq (.seq (.region [1, 2, 3, 8] [qI 10 (.mv (.t 1)), qI 11 (.mv (.t 2)), eI 12 (.buildSl 1 2 [.nils] [(0, 1, (.t 10)), (1, 1, (.t 11))]), eI 13 (.call 97 [(.t 3), (.t 12)]), qI 8 (.mv (.t 13))])
  (.seq (.region [1, 2, 3, 8, 15] [qI 14 (.mv (.t 8)), qI 15 (.bin .neq .other (.t 14) (.c (.int .i64 0)))])
  (.cond (.t 15) (.seq (.region [6, 7] [qI 16 (.mv (.t 8)), qI 6 (.mv (.c .nils)), qI 7 (.mv (.t 16))])
  .ret) .skip)))
  (.seq (.region [1, 2, 3, 9] [qI 17 (.mv (.t 1)), qI 18 (.mv (.t 2)), eI 19 (.call 109 [(.t 3), (.t 17), (.t 18)]), qI 9 (.mv (.t 19))])
  (.seq (.region [6, 7] [qI 20 (.mv (.t 9)), qI 21 (.mv (.t 9)), qI 22 (.mv (.t 1)), eI 23 (.call 109 [(.t 3), (.t 21), (.t 22)]), eI 24 (.call 110 [(.t 3), (.t 23), (.c (.int .i64 (-2)))]), qI 25 (.mv (.t 9)), qI 26 (.mv (.t 2)), eI 27 (.call 109 [(.t 3), (.t 25), (.t 26)]), eI 28 (.call 110 [(.t 3), (.t 27), (.c (.int .i64 (-2)))]), eI 29 (.buildSl 1 3 [.nils] [(0, 1, (.t 20)), (1, 1, (.t 24)), (2, 1, (.t 28))]), eI 30 (.call 106 [(.t 3), (.t 29)]), qI 6 (.mv (.t 30)), qI 7 (.mv (.c (.int .i64 0)))])
  .ret))))⟩
theorem cf27 : cF Tryz.prog Tryz.f27 = some if27 := by kernel_rfl
def if28 : IFn := ⟨[0, 1, 2], [(.tmp 6), (.tmp 7)], (.seq (.region [1, 2, 3] [eI 3 (.box (.t 0)), qI 6 (.mv (.c .nils)), qI 7 (.mv (.c (.int .i64 0)))])
  (.seq (.seq (.region [1, 2, 3, 8] [qI 9 (.mv (.t 1)), qI 10 (.mv (.t 2)), eI 11 (.buildSl 1 2 [.nils] [(0, 1, (.t 9)), (1, 1, (.t 10))]), eI 12 (.call 97 [(.t 3), (.t 11)]), qI 8 (.mv (.t 12))])
  (.seq (.region [1, 2, 3, 8, 14] [qI 13 (.mv (.t 8)), qI 14 (.bin .neq .other (.t 13) (.c (.int .i64 0)))])
  (.cond (.t 14) (.seq (.region [6, 7] [qI 15 (.mv (.t 8)), qI 6 (.mv (.c .nils)), qI 7 (.mv (.t 15))])
  .ret) .skip)))
  (.seq (.region [6, 7] [qI 16 (.mv (.t 1)), qI 17 (.mv (.t 2)), eI 18 (.call 111 [(.t 3), (.t 16), (.t 17)]), qI 6 (.mv (.t 18)), qI 7 (.mv (.c (.int .i64 0)))])
  .ret)))⟩
theorem cf28 : cF Tryz.prog Tryz.f28 = some if28 := by kernel_rfl
def if29 : IFn := ⟨[0, 1, 2], [(.tmp 6), (.tmp 7)], (.seq (.region [1, 2, 3] [eI 3 (.box (.t 0)), qI 6 (.mv (.c .nils)), qI 7 (.mv (.c (.int .i64 0)))])
  (.seq (.seq (.region [1, 2, 3, 8] [qI 9 (.load true 3 (.t 3)), qI 10 (.mv (.t 1)), qI 11 (.mv (.t 2)), eI 12 (.buildSl 1 2 [.nils] [(0, 1, (.t 10)), (1, 1, (.t 11))]), eI 13 (.call 99 [(.t 9), (.t 12)]), qI 8 (.mv (.t 13))])
  (.seq (.region [1, 2, 3, 8, 15] [qI 14 (.mv (.t 8)), qI 15 (.bin .neq .other (.t 14) (.c (.int .i64 0)))])
  (.cond (.t 15) (.seq (.region [6, 7] [qI 16 (.mv (.t 8)), qI 6 (.mv (.c .nils)), qI 7 (.mv (.t 16))])
  .ret) .skip)))
  (.seq (.region [6, 7] [qI 17 (.load true 3 (.t 3)), qI 18 (.mv (.t 1)), qI 19 (.mv (.t 2)), eI 20 (.call 113 [(.t 17), (.t 18), (.t 19)]), eI 21 (.call 112 [(.t 20)]), qI 6 (.mv (.t 21)), qI 7 (.mv (.c (.int .i64 0)))])
  .ret)))⟩
theorem cf29 : cF Tryz.prog Tryz.f29 = some if29 := by kernel_rfl
def if30 : IFn := ⟨[0, 1], [(.tmp 4)], (.seq (.region [0, 1] [qI 4 (.mv (.c (.bool false)))])
  (.seq (.seq (.region [0, 1, 10] [qI 6 (.mv (.t 0)), qI 7 (.len (.t 6)), qI 8 (.mv (.t 1)), qI 9 (.len (.t 8)), qI 10 (.bin .neq .other (.t 7) (.t 9))])
  (.cond (.t 10) (.seq (.region [4] [qI 4 (.mv (.c (.bool false)))])
  .ret) .skip))
  (.seq (.seq (.region [0, 1, 5] [qI 5 (.mv (.c (.int .i64 0)))])
  (.block 0 (.loop [0, 1, 5] (.seq (.seq (.region [0, 1, 5, 14] [qI 11 (.mv (.t 5)), qI 12 (.mv (.t 0)), qI 13 (.len (.t 12)), qI 14 (.bin .lss .other (.t 11) (.t 13))])
  (.cond (.t 14) .skip (.exit 0)))
  (.seq (.block 1 (.seq (.draw [0, 1, 5, 26] [] [qD 17 (.mv (.t 0)) 0, qD 18 (.mv (.t 5)) 1, qD 19 (.indexAddr 1 (.t 17) (.t 18)) 2, qD 20 (.load false 1 (.t 19)) 3, qD 21 (.mv (.t 1)) 4, qD 22 (.mv (.t 5)) 5, qD 23 (.indexAddr 1 (.t 21) (.t 22)) 6, qD 24 (.load false 1 (.t 23)) 7, eD 25 (.call 16 [(.t 20), (.t 24)]) 8 [], qD 26 (.un .not (.t 25)) 9])
  (.cond (.t 26) (.seq (.region [4] [qI 4 (.mv (.c (.bool false)))])
  .ret) .skip)))
  (.region [0, 1, 5] [qI 15 (.mv (.t 5)), qI 16 (.bin .add .other (.t 15) (.c (.int .i64 1))), qI 5 (.mv (.t 16))]))))))
  (.seq (.region [4] [qI 4 (.mv (.c (.bool true)))])
  .ret))))⟩
theorem cf30 : cF Tryz.prog Tryz.f30 = some if30 := by kernel_rfl
def if31 : IFn := ⟨[0, 1, 2], [(.tmp 6), (.tmp 7)], (.seq (.region [1, 2, 3] [eI 3 (.box (.t 0)), qI 6 (.mv (.c .nils)), qI 7 (.mv (.c (.int .i64 0)))])
  (.seq (.seq (.region [1, 2, 3, 12] [qI 8 (.mv (.t 1)), qI 9 (.mv (.t 2)), eI 10 (.buildSl 1 2 [.nils] [(0, 1, (.t 8)), (1, 1, (.t 9))]), eI 11 (.call 101 [(.t 3), (.t 10)]), qI 12 (.un .not (.t 11))])
  (.cond (.t 12) (.seq (.region [6, 7] [qI 6 (.mv (.c .nils)), qI 7 (.mv (.c (.int .i64 1)))])
  .ret) .skip))
  (.seq (.region [6, 7] [qI 13 (.mv (.t 1)), qI 14 (.mv (.t 2)), eI 15 (.call 114 [(.t 3), (.t 13), (.t 14)]), qI 6 (.mv (.t 15)), qI 7 (.mv (.c (.int .i64 0)))])
  .ret)))⟩
theorem cf31 : cF Tryz.prog Tryz.f31 = some if31 := by kernel_rfl
def if32 : IFn := ⟨[0, 1, 2], [(.tmp 6), (.tmp 7)], (.seq (.region [1, 2, 3] [eI 3 (.box (.t 0)), qI 6 (.mv (.c .nils)), qI 7 (.mv (.c (.int .i64 0)))])
  (.seq (.seq (.region [1, 2, 3, 12] [qI 8 (.mv (.t 1)), qI 9 (.mv (.t 2)), eI 10 (.buildSl 1 2 [.nils] [(0, 1, (.t 8)), (1, 1, (.t 9))]), eI 11 (.call 101 [(.t 3), (.t 10)]), qI 12 (.un .not (.t 11))])
  (.cond (.t 12) (.seq (.region [6, 7] [qI 6 (.mv (.c .nils)), qI 7 (.mv (.c (.int .i64 1)))])
  .ret) .skip))
  (.seq (.region [6, 7] [qI 13 (.mv (.t 1)), qI 14 (.mv (.t 2)), eI 15 (.call 115 [(.t 3), (.t 13), (.t 14)]), qI 6 (.mv (.t 15)), qI 7 (.mv (.c (.int .i64 0)))])
  .ret)))⟩
theorem cf32 : cF Tryz.prog Tryz.f32 = some if32 := by kernel_rfl
def if33 : IFn := ⟨[0, 1, 2], [(.tmp 6), (.tmp 7)], (.seq (.region [1, 2, 3] [eI 3 (.box (.t 0)), qI 6 (.mv (.c .nils)), qI 7 (.mv (.c (.int .i64 0)))])
  (.seq (.seq (.region [1, 2, 3, 22] [qI 8 (.load true 3 (.t 3)), eI 9 (.call 103 [(.t 8)]), qI 10 (.un .not (.t 9)), qI 11 (.mv (.t 10)), ⟨(some 12), .load true 3 (.t 3), true, (some (11, false))⟩, ⟨(some 13), .mv (.t 1), true, (some (11, false))⟩, ⟨(some 14), .call 104 [(.t 12), (.t 13)], false, (some (11, false))⟩, ⟨(some 15), .un .not (.t 14), true, (some (11, false))⟩, qI 16 (.pick (.t 11) (.c (.bool true)) (.t 15)), qI 17 (.mv (.t 16)), ⟨(some 18), .load true 3 (.t 3), true, (some (17, false))⟩, ⟨(some 19), .mv (.t 2), true, (some (17, false))⟩, ⟨(some 20), .call 104 [(.t 18), (.t 19)], false, (some (17, false))⟩, ⟨(some 21), .un .not (.t 20), true, (some (17, false))⟩, qI 22 (.pick (.t 17) (.c (.bool true)) (.t 21))])
  (.cond (.t 22) (.seq (.region [6, 7] [qI 6 (.mv (.c .nils)), qI 7 (.mv (.c (.int .i64 1)))])
  .ret) .skip))
  (.seq (.region [6, 7] [qI 23 (.load true 3 (.t 3)), qI 24 (.mv (.t 1)), qI 25 (.mv (.t 2)), eI 26 (.call 105 [(.t 23), (.c (.int .i64 1)), (.t 24), (.c (.int .i64 1)), (.t 25)]), qI 6 (.mv (.t 26)), qI 7 (.mv (.c (.int .i64 0)))])
  .ret)))⟩
theorem cf33 : cF Tryz.prog Tryz.f33 = some if33 := by kernel_rfl
def if34 : IFn := ⟨[0, 1, 2], [(.tmp 6), (.tmp 7)], (.seq (.region [1, 2, 3] [eI 3 (.box (.t 0)), qI 6 (.mv (.c .nils)), qI 7 (.mv (.c (.int .i64 0)))])
  (.seq (.seq (.region [1, 2, 3, 22] [qI 8 (.load true 3 (.t 3)), eI 9 (.call 103 [(.t 8)]), qI 10 (.un .not (.t 9)), qI 11 (.mv (.t 10)), ⟨(some 12), .load true 3 (.t 3), true, (some (11, false))⟩, ⟨(some 13), .mv (.t 1), true, (some (11, false))⟩, ⟨(some 14), .call 104 [(.t 12), (.t 13)], false, (some (11, false))⟩, ⟨(some 15), .un .not (.t 14), true, (some (11, false))⟩, qI 16 (.pick (.t 11) (.c (.bool true)) (.t 15)), qI 17 (.mv (.t 16)), ⟨(some 18), .load true 3 (.t 3), true, (some (17, false))⟩, ⟨(some 19), .mv (.t 2), true, (some (17, false))⟩, ⟨(some 20), .call 104 [(.t 18), (.t 19)], false, (some (17, false))⟩, ⟨(some 21), .un .not (.t 20), true, (some (17, false))⟩, qI 22 (.pick (.t 17) (.c (.bool true)) (.t 21))])
  (.cond (.t 22) (.seq (.region [6, 7] [qI 6 (.mv (.c .nils)), qI 7 (.mv (.c (.int .i64 1)))])
  .ret) .skip))
  (.seq (.region [6, 7] [qI 23 (.load true 3 (.t 3)), qI 24 (.mv (.t 1)), qI 25 (.mv (.t 2)), eI 26 (.call 116 [(.t 23), (.t 24), (.t 25)]), qI 6 (.mv (.t 26)), qI 7 (.mv (.c (.int .i64 0)))])
  .ret)))⟩
theorem cf34 : cF Tryz.prog Tryz.f34 = some if34 := by kernel_rfl
def if35 : IFn := ⟨[0], [(.cell 2 true 3), (.tmp 3), (.tmp 4)], (.seq (.region [0, 2] [eI 2 (.alloc [(.int .i64 0), .nils, .nils]), qI 3 (.mv (.c .nils)), qI 4 (.mv (.c .nils))])
  (.seq (.region [2, 3, 4] [qI 5 (.mv (.t 0)), eI 6 (.call 96 [(.t 5)]), qI 7 (.extract (.t 6) 0), qI 8 (.extract (.t 6) 1), qI 9 (.extract (.t 6) 2), nI (.store 3 (.t 2) (.t 7)), qI 3 (.mv (.t 8)), qI 4 (.mv (.t 9))])
  .ret))⟩
theorem cf35 : cF Tryz.prog Tryz.f35 = some if35 := by kernel_rfl
def if36 : IFn := ⟨[0, 1, 2], [(.tmp 6), (.tmp 7)], (.seq (.region [1, 2, 3] [eI 3 (.box (.t 0)), qI 6 (.mv (.c .nils)), qI 7 (.mv (.c (.int .i64 0)))])
  (.seq (.seq (.region [1, 2, 3, 8] [qI 12 (.mv (.t 1)), qI 13 (.mv (.t 2)), eI 14 (.buildSl 1 2 [.nils] [(0, 1, (.t 12)), (1, 1, (.t 13))]), eI 15 (.call 97 [(.t 3), (.t 14)]), qI 8 (.mv (.t 15))])
  (.seq (.region [1, 2, 3, 8, 17] [qI 16 (.mv (.t 8)), qI 17 (.bin .neq .other (.t 16) (.c (.int .i64 0)))])
  (.cond (.t 17) (.seq (.region [6, 7] [qI 18 (.mv (.t 8)), qI 6 (.mv (.c .nils)), qI 7 (.mv (.t 18))])
  .ret) .skip)))
  (.seq (.region [1, 2, 3, 9] [qI 9 (.mv (.c .nils))])
  (.seq (.region [1, 2, 3, 9, 10] [qI 10 (.mv (.c (.int .i64 1)))])
  (.seq (.seq (.region [1, 2, 3, 9, 10, 11] [qI 11 (.mv (.c (.int .i64 1)))])
  (.block 0 (.loop [1, 2, 3, 9, 10, 11] (.seq (.seq (.region [1, 2, 3, 9, 10, 11, 21] [qI 19 (.mv (.t 1)), eI 20 (.call 117 [(.t 19)]), qI 21 (.un .not (.t 20))])
  (.cond (.t 21) .skip (.exit 0)))
  (.seq (.block 1 (.seq (.region [1, 2, 3, 9, 10, 11] [qI 24 (.mv (.t 9)), qI 25 (.mv (.t 1)), qI 26 (.mv (.t 10)), eI 27 (.call 110 [(.t 3), (.t 25), (.t 26)]), eI 28 (.buildSl 1 1 [.nils] [(0, 1, (.t 27))]), eI 29 (.append 1 24 (.t 24) (.t 28)), qI 9 (.mv (.t 29))])
  (.seq (.region [1, 2, 3, 9, 10, 11] [qI 30 (.mv (.t 1)), qI 31 (.mv (.t 2)), eI 32 (.call 115 [(.t 3), (.t 30), (.t 31)]), qI 1 (.mv (.t 32))])
  (.region [1, 2, 3, 9, 10, 11] [qI 33 (.mv (.t 10)), qI 34 (.mv (.t 11)), qI 35 (.bin .mul .other (.t 33) (.t 34)), qI 10 (.mv (.t 35))]))))
  (.region [1, 2, 3, 9, 10, 11] [qI 22 (.mv (.t 11)), qI 23 (.bin .add .other (.t 22) (.c (.int .i64 1))), qI 11 (.mv (.t 23))]))))))
  (.seq (.region [6, 7] [qI 36 (.mv (.t 9)), qI 6 (.mv (.t 36)), qI 7 (.mv (.c (.int .i64 0)))])
  .ret))))))⟩
theorem cf36 : cF Tryz.prog Tryz.f36 = some if36 := by kernel_rfl
def if37 : IFn := ⟨[0, 1, 2], [(.tmp 6), (.tmp 7)], (.seq (.region [1, 2, 3] [eI 3 (.box (.t 0)), qI 6 (.mv (.c .nils)), qI 7 (.mv (.c (.int .i64 0)))])
  (.seq (.seq (.region [1, 2, 3, 8] [qI 12 (.load true 3 (.t 3)), qI 13 (.mv (.t 1)), qI 14 (.mv (.t 2)), eI 15 (.buildSl 1 2 [.nils] [(0, 1, (.t 13)), (1, 1, (.t 14))]), eI 16 (.call 99 [(.t 12), (.t 15)]), qI 8 (.mv (.t 16))])
  (.seq (.region [1, 2, 3, 8, 18] [qI 17 (.mv (.t 8)), qI 18 (.bin .neq .other (.t 17) (.c (.int .i64 0)))])
  (.cond (.t 18) (.seq (.region [6, 7] [qI 19 (.mv (.t 8)), qI 6 (.mv (.c .nils)), qI 7 (.mv (.t 19))])
  .ret) .skip)))
  (.seq (.region [1, 2, 3, 9] [eI 20 (.buildSl 1 0 [.nils] []), qI 9 (.mv (.t 20))])
  (.seq (.region [2, 3, 9, 10, 11] [qI 21 (.mv (.t 1)), eI 22 (.call 118 [(.t 21)]), qI 10 (.mv (.t 22)), qI 11 (.mv (.c (.int .i64 1)))])
  (.seq (.block 0 (.loop [2, 3, 9, 10, 11] (.seq (.seq (.region [2, 3, 9, 10, 11, 25] [qI 23 (.mv (.t 10)), eI 24 (.call 119 [(.t 23)]), qI 25 (.un .not (.t 24))])
  (.cond (.t 25) .skip (.exit 0)))
  (.block 1 (.seq (.region [2, 3, 9, 10, 11] [qI 26 (.mv (.t 9)), qI 27 (.load true 3 (.t 3)), qI 28 (.mv (.t 10)), qI 29 (.mv (.t 11)), eI 30 (.call 120 [(.t 27), (.t 28), (.t 29)]), eI 31 (.call 118 [(.t 30)]), eI 32 (.buildSl 1 1 [.nils] [(0, 1, (.t 31))]), eI 33 (.append 1 24 (.t 26) (.t 32)), qI 9 (.mv (.t 33))])
  (.seq (.region [2, 3, 9, 10, 11] [qI 34 (.load true 3 (.t 3)), qI 35 (.mv (.t 10)), qI 36 (.mv (.t 2)), eI 37 (.call 116 [(.t 34), (.t 35), (.t 36)]), qI 10 (.mv (.t 37))])
  (.region [2, 3, 9, 10, 11] [qI 38 (.mv (.t 11)), qI 39 (.mv (.t 9)), qI 40 (.len (.t 39)), qI 41 (.bin .mul .other (.t 38) (.t 40)), qI 11 (.mv (.t 41))])))))))
  (.seq (.region [6, 7] [qI 42 (.mv (.t 9)), qI 6 (.mv (.t 42)), qI 7 (.mv (.c (.int .i64 0)))])
  .ret))))))⟩
theorem cf37 : cF Tryz.prog Tryz.f37 = some if37 := by kernel_rfl
def if38 : IFn := ⟨[0, 1, 2], [(.tmp 6), (.tmp 7)], (.seq (.region [1, 2, 3] [eI 3 (.box (.t 0)), qI 6 (.mv (.c .nils)), qI 7 (.mv (.c (.int .i64 0)))])
  (.seq (.seq (.region [1, 2, 3, 8] [qI 9 (.mv (.t 1)), qI 10 (.mv (.t 2)), eI 11 (.buildSl 1 2 [.nils] [(0, 1, (.t 9)), (1, 1, (.t 10))]), eI 12 (.call 97 [(.t 3), (.t 11)]), qI 8 (.mv (.t 12))])
  (.seq (.region [1, 2, 3, 8, 14] [qI 13 (.mv (.t 8)), qI 14 (.bin .neq .other (.t 13) (.c (.int .i64 0)))])
  (.cond (.t 14) (.seq (.region [6, 7] [qI 15 (.mv (.t 8)), qI 6 (.mv (.c .nils)), qI 7 (.mv (.t 15))])
  .ret) .skip)))
  (.seq (.region [6, 7] [qI 16 (.mv (.t 2)), eI 17 (.call 102 [(.t 3), (.c (.int .i64 (-1))), (.t 16)]), qI 18 (.mv (.t 1)), qI 19 (.mv (.t 2)), eI 20 (.buildSl 1 3 [.nils] [(0, 1, (.t 17)), (1, 1, (.t 18)), (2, 1, (.t 19))]), eI 21 (.call 106 [(.t 3), (.t 20)]), qI 6 (.mv (.t 21)), qI 7 (.mv (.c (.int .i64 0)))])
  .ret)))⟩
theorem cf38 : cF Tryz.prog Tryz.f38 = some if38 := by kernel_rfl
def if39 : IFn := ⟨[0, 1, 2], [(.tmp 6), (.tmp 7)], (.seq (.region [1, 2, 3] [eI 3 (.box (.t 0)), qI 6 (.mv (.c .nils)), qI 7 (.mv (.c (.int .i64 0)))])
  (.seq (.seq (.region [1, 2, 3, 8] [qI 9 (.load true 3 (.t 3)), qI 10 (.mv (.t 1)), qI 11 (.mv (.t 2)), eI 12 (.buildSl 1 2 [.nils] [(0, 1, (.t 10)), (1, 1, (.t 11))]), eI 13 (.call 99 [(.t 9), (.t 12)]), qI 8 (.mv (.t 13))])
  (.seq (.region [1, 2, 3, 8, 15] [qI 14 (.mv (.t 8)), qI 15 (.bin .neq .other (.t 14) (.c (.int .i64 0)))])
  (.cond (.t 15) (.seq (.region [6, 7] [qI 16 (.mv (.t 8)), qI 6 (.mv (.c .nils)), qI 7 (.mv (.t 16))])
  .ret) .skip)))
  (.seq (.region [6, 7] [qI 17 (.load true 3 (.t 3)), qI 18 (.mv (.t 1)), qI 19 (.mv (.t 2)), eI 20 (.call 121 [(.t 17), (.t 18), (.t 19)]), qI 6 (.mv (.t 20)), qI 7 (.mv (.c (.int .i64 0)))])
  .ret)))⟩
theorem cf39 : cF Tryz.prog Tryz.f39 = some if39 := by kernel_rfl
def if40 : IFn := ⟨[0, 1, 2], [(.tmp 6), (.tmp 7)], (.seq (.region [1, 2, 3] [eI 3 (.box (.t 0)), qI 6 (.mv (.c .nils)), qI 7 (.mv (.c (.int .i64 0)))])
  (.seq (.seq (.region [1, 2, 3, 8] [qI 9 (.mv (.t 1)), qI 10 (.mv (.t 2)), eI 11 (.buildSl 1 2 [.nils] [(0, 1, (.t 9)), (1, 1, (.t 10))]), eI 12 (.call 97 [(.t 3), (.t 11)]), qI 8 (.mv (.t 12))])
  (.seq (.region [1, 2, 3, 8, 14] [qI 13 (.mv (.t 8)), qI 14 (.bin .neq .other (.t 13) (.c (.int .i64 0)))])
  (.cond (.t 14) (.seq (.region [6, 7] [qI 15 (.mv (.t 8)), qI 6 (.mv (.c .nils)), qI 7 (.mv (.t 15))])
  .ret) .skip)))
  (.seq (.region [6, 7] [qI 16 (.mv (.t 1)), qI 17 (.mv (.t 2)), eI 18 (.call 109 [(.t 3), (.t 16), (.t 17)]), qI 6 (.mv (.t 18)), qI 7 (.mv (.c (.int .i64 0)))])
  .ret)))⟩
theorem cf40 : cF Tryz.prog Tryz.f40 = some if40 := by kernel_rfl
def if41 : IFn := ⟨[0, 1, 2], [(.tmp 6), (.tmp 7)], (.seq (.region [1, 2, 3] [eI 3 (.box (.t 0)), qI 6 (.mv (.c .nils)), qI 7 (.mv (.c (.int .i64 0)))])
  (.seq (.seq (.region [1, 2, 3, 8] [qI 9 (.load true 3 (.t 3)), qI 10 (.mv (.t 1)), qI 11 (.mv (.t 2)), eI 12 (.buildSl 1 2 [.nils] [(0, 1, (.t 10)), (1, 1, (.t 11))]), eI 13 (.call 99 [(.t 9), (.t 12)]), qI 8 (.mv (.t 13))])
  (.seq (.region [1, 2, 3, 8, 15] [qI 14 (.mv (.t 8)), qI 15 (.bin .neq .other (.t 14) (.c (.int .i64 0)))])
  (.cond (.t 15) (.seq (.region [6, 7] [qI 16 (.mv (.t 8)), qI 6 (.mv (.c .nils)), qI 7 (.mv (.t 16))])
  .ret) .skip)))
  (.seq (.region [6, 7] [qI 17 (.load true 3 (.t 3)), qI 18 (.mv (.t 1)), qI 19 (.mv (.t 2)), eI 20 (.call 122 [(.t 17), (.t 18), (.t 19)]), qI 6 (.mv (.t 20)), qI 7 (.mv (.c (.int .i64 0)))])
  .ret)))⟩
theorem cf41 : cF Tryz.prog Tryz.f41 = some if41 := by kernel_rfl
def if57 : IFn := ⟨[0], [(.tmp 2)], (.seq (.region [1] [eI 1 (.box (.t 0)), qI 2 (.mv (.c (.bool false)))])
  (.seq (.seq (.region [1, 9] [qI 7 (.load true 3 (.t 1)), eI 8 (.call 143 [(.t 7)]), qI 9 (.un .not (.t 8))])
  (.cond (.t 9) (.seq (.region [2] [qI 2 (.mv (.c (.bool false)))])
  .ret) .skip))
  (.seq (.region [3] [eI 11 (.call 144 [(.t 1)]), qI 10 (.mv (.t 11)), qI 12 (.extract (.t 10) 0), qI 13 (.extract (.t 10) 1), qI 14 (.extract (.t 10) 2), qI 15 (.extract (.t 10) 3), qI 3 (.mv (.t 12)), qI 4 (.mv (.t 13)), qI 5 (.mv (.t 14)), qI 6 (.mv (.t 15))])
  (.seq (.region [2] [qI 16 (.mv (.t 3)), qI 17 (.bin .eql .other (.t 16) (.c (.int .i64 0))), qI 2 (.mv (.t 17))])
  .ret))))⟩
theorem cf57 : cF Tryz.prog Tryz.f57 = some if57 := by kernel_rfl
def if96 : IFn := ⟨[0], [(.cell 2 true 3), (.tmp 3), (.tmp 4)], (.seq (.region [0, 2] [eI 2 (.alloc [(.int .i64 0), .nils, .nils]), qI 3 (.mv (.c .nils)), qI 4 (.mv (.c .nils))])
  (.seq (.region [2, 5] [qI 8 (.mv (.t 0)), eI 9 (.call 189 [(.t 8)]), qI 5 (.mv (.t 9))])
  (.seq (.region [2, 5, 6] [qI 10 (.mv (.t 5)), eI 11 (.call 190 [(.t 10)]), eI 6 (.alloc [(.int .i64 0), .nils, .nils]), nI (.store 3 (.t 6) (.t 11))])
  (.seq (.region [2, 5, 6, 7] [qI 12 (.mv (.t 5)), qI 13 (.load true 3 (.t 6)), eI 14 (.call 191 [(.t 12), (.t 13)]), qI 7 (.mv (.t 14))])
  (.seq (.draw [2, 3, 4] [] [qD 15 (.load true 3 (.t 6)) 0, qD 16 (.mv (.t 7)) 1, qD 17 (.mv (.t 5)) 2, qD 18 (.load true 3 (.t 6)) 3, eD 19 (.call 191 [(.t 17), (.t 18)]) 4 [0], ⟨nI (.store 3 (.t 2) (.t 15)), 5, []⟩, qD 3 (.mv (.t 16)) 6, qD 4 (.mv (.t 19)) 7])
  .ret)))))⟩
theorem cf96 : cF Tryz.prog Tryz.f96 = some if96 := by kernel_rfl
def if97 : IFn := ⟨[0, 1], [(.tmp 4)], (.seq (.region [0, 1] [qI 4 (.mv (.c (.int .i64 0)))])
  (.seq (.seq (.region [0, 8] [qI 5 (.mv (.t 0)), qI 6 (.mv (.t 1)), eI 7 (.call 101 [(.t 5), (.t 6)]), qI 8 (.un .not (.t 7))])
  (.cond (.t 8) (.seq (.region [4] [qI 4 (.mv (.c (.int .i64 1)))])
  .ret) .skip))
  (.seq (.seq (.region [11] [qI 9 (.mv (.t 0)), eI 10 (.call 166 [(.t 9)]), qI 11 (.un .not (.t 10))])
  (.cond (.t 11) (.seq (.region [4] [qI 4 (.mv (.c (.int .i64 5)))])
  .ret) .skip))
  (.seq (.region [4] [qI 4 (.mv (.c (.int .i64 0)))])
  .ret))))⟩
theorem cf97 : cF Tryz.prog Tryz.f97 = some if97 := by kernel_rfl
def if98 : IFn := ⟨[0, 1, 2], [(.tmp 6)], (.seq (.region [0, 1, 2] [qI 6 (.mv (.c .nils))])
  (.seq (.region [0, 7] [qI 8 (.mv (.t 0)), qI 9 (.mv (.t 1)), qI 10 (.mv (.t 2)), eI 11 (.call 111 [(.t 8), (.t 9), (.t 10)]), qI 7 (.mv (.t 11))])
  (.seq (.draw [6] [] [qD 12 (.mv (.t 0)) 0, qD 13 (.mv (.t 0)) 1, qD 14 (.mv (.t 7)) 2, qD 15 (.indexAddr 1 (.t 14) (.c (.int .i64 0))) 3, qD 16 (.load false 1 (.t 15)) 4, qD 17 (.mv (.t 7)) 5, qD 18 (.indexAddr 1 (.t 17) (.c (.int .i64 1))) 6, qD 19 (.load false 1 (.t 18)) 7, qD 21 (.mv (.t 7)) 9, qD 22 (.indexAddr 1 (.t 21) (.c (.int .i64 2))) 10, qD 23 (.load false 1 (.t 22)) 11, eD 20 (.call 114 [(.t 13), (.t 16), (.t 19)]) 8 [11], eD 24 (.call 114 [(.t 12), (.t 20), (.t 23)]) 12 [], qD 6 (.mv (.t 24)) 13])
  .ret)))⟩
theorem cf98 : cF Tryz.prog Tryz.f98 = some if98 := by kernel_rfl
def if99 : IFn := ⟨[0, 1], [(.tmp 4)], (.seq (.region [1, 2] [eI 2 (.box (.t 0)), qI 4 (.mv (.c (.int .i64 0)))])
  (.seq (.seq (.region [2, 13] [qI 5 (.load true 3 (.t 2)), eI 6 (.call 103 [(.t 5)]), qI 7 (.un .not (.t 6)), qI 8 (.mv (.t 7)), ⟨(some 9), .load true 3 (.t 2), true, (some (8, false))⟩, ⟨(some 10), .mv (.t 1), true, (some (8, false))⟩, ⟨(some 11), .call 125 [(.t 9), (.t 10)], false, (some (8, false))⟩, ⟨(some 12), .un .not (.t 11), true, (some (8, false))⟩, qI 13 (.pick (.t 8) (.c (.bool true)) (.t 12))])
  (.cond (.t 13) (.seq (.region [4] [qI 4 (.mv (.c (.int .i64 1)))])
  .ret) .skip))
  (.seq (.seq (.region [16] [qI 14 (.load true 3 (.t 2)), eI 15 (.call 158 [(.t 14)]), qI 16 (.un .not (.t 15))])
  (.cond (.t 16) (.seq (.region [4] [qI 4 (.mv (.c (.int .i64 5)))])
  .ret) .skip))
  (.seq (.region [4] [qI 4 (.mv (.c (.int .i64 0)))])
  .ret))))⟩
theorem cf99 : cF Tryz.prog Tryz.f99 = some if99 := by kernel_rfl
def if100 : IFn := ⟨[0, 1, 2], [(.tmp 6)], (.seq (.region [1, 2, 3] [eI 3 (.box (.t 0)), qI 6 (.mv (.c .nils))])
  (.seq (.region [3, 7] [qI 8 (.load true 3 (.t 3)), qI 9 (.mv (.t 1)), qI 10 (.mv (.t 2)), eI 11 (.call 113 [(.t 8), (.t 9), (.t 10)]), qI 7 (.mv (.t 11))])
  (.seq (.draw [6] [] [qD 12 (.load true 3 (.t 3)) 0, qD 13 (.load true 3 (.t 3)) 1, qD 14 (.mv (.t 7)) 2, qD 15 (.indexAddr 1 (.t 14) (.c (.int .i64 0))) 3, qD 16 (.load false 1 (.t 15)) 4, qD 17 (.mv (.t 7)) 5, qD 18 (.indexAddr 1 (.t 17) (.c (.int .i64 1))) 6, qD 19 (.load false 1 (.t 18)) 7, qD 21 (.mv (.t 7)) 9, qD 22 (.indexAddr 1 (.t 21) (.c (.int .i64 2))) 10, qD 23 (.load false 1 (.t 22)) 11, eD 20 (.call 105 [(.t 13), (.c (.int .i64 1)), (.t 16), (.c (.int .i64 1)), (.t 19)]) 8 [0, 11], eD 24 (.call 105 [(.t 12), (.c (.int .i64 1)), (.t 20), (.c (.int .i64 1)), (.t 23)]) 12 [], qD 6 (.mv (.t 24)) 13])
  .ret)))⟩
theorem cf100 : cF Tryz.prog Tryz.f100 = some if100 := by kernel_rfl
def if101 : IFn := ⟨[0, 1], [(.tmp 4)], (.seq (.region [0, 1] [qI 4 (.mv (.c (.bool false)))])
  (.seq (.seq (.region [0, 1, 11] [qI 7 (.mv (.t 0)), qI 8 (.nilCheck (.t 7)), qI 9 (.load true 3 (.t 8)), eI 10 (.call 57 [(.t 9)]), qI 11 (.un .not (.t 10))])
  (.cond (.t 11) (.seq (.region [4] [qI 4 (.mv (.c (.bool false)))])
  .ret) .skip))
  (.seq (.seq (.region [0, 12, 13, 14] [qI 12 (.mv (.t 1)), qI 13 (.len (.t 12)), qI 14 (.mv (.c (.int .i64 0)))])
  (.block 0 (.loop [0, 12, 13, 14] (.seq (.region [0, 12, 13, 14, 15] [qI 15 (.bin .lss .other (.t 14) (.t 13))])
  (.seq (.cond (.t 15) .skip (.exit 0))
  (.seq (.block 1 (.seq (.region [0, 6, 12, 13, 14] [qI 16 (.indexAddr 1 (.t 12) (.t 14)), qI 17 (.load false 1 (.t 16)), qI 6 (.mv (.t 17))])
  (.seq (.region [0, 12, 13, 14, 21] [qI 18 (.mv (.t 0)), qI 19 (.mv (.t 6)), eI 20 (.call 145 [(.t 18), (.t 19)]), qI 21 (.un .not (.t 20))])
  (.cond (.t 21) (.seq (.region [4] [qI 4 (.mv (.c (.bool false)))])
  .ret) .skip))))
  (.region [0, 12, 13, 14] [qI 22 (.bin .add .other (.t 14) (.c (.int .i64 1))), qI 14 (.mv (.t 22))])))))))
  (.seq (.region [4] [qI 4 (.mv (.c (.bool true)))])
  .ret))))⟩
theorem cf101 : cF Tryz.prog Tryz.f101 = some if101 := by kernel_rfl
def if102 : IFn := ⟨[0, 1, 2], [(.tmp 6)], (.seq (.region [0, 1, 2] [qI 6 (.mv (.c .nils))])
  (.seq (.region [0, 1, 2, 7] [qI 8 (.mv (.t 2)), qI 9 (.len (.t 8)), eI 10 (.makeSl 1 8 [(.int .i64 0)] (.t 9) (.t 9)), qI 7 (.mv (.t 10))])
  (.seq (.region [0, 7] [qI 11 (.mv (.t 7)), qI 12 (.mv (.t 2)), qI 13 (.mv (.t 1)), qI 14 (.un .neg (.t 13)), eI 15 (.call 192 [(.t 11), (.t 12), (.t 14)])])
  (.seq (.region [6] [qI 16 (.mv (.t 0)), qI 17 (.mv (.t 7)), eI 18 (.call 193 [(.t 16), (.t 17)]), qI 6 (.mv (.t 18))])
  .ret))))⟩
theorem cf102 : cF Tryz.prog Tryz.f102 = some if102 := by kernel_rfl
def if103 : IFn := ⟨[0], [(.tmp 2)], (.seq (.region [1] [eI 1 (.box (.t 0)), qI 2 (.mv (.c (.bool false)))])
  (.seq (.seq (.region [1, 9] [qI 7 (.load true 3 (.t 1)), eI 8 (.call 194 [(.t 7)]), qI 9 (.un .not (.t 8))])
  (.cond (.t 9) (.seq (.region [2] [qI 2 (.mv (.c (.bool false)))])
  .ret) .skip))
  (.seq (.region [3] [qI 11 (.load true 3 (.t 1)), eI 12 (.call 195 [(.t 11)]), qI 10 (.mv (.t 12)), qI 13 (.extract (.t 10) 0), qI 14 (.extract (.t 10) 1), qI 15 (.extract (.t 10) 2), qI 16 (.extract (.t 10) 3), qI 3 (.mv (.t 13)), qI 4 (.mv (.t 14)), qI 5 (.mv (.t 15)), qI 6 (.mv (.t 16))])
  (.seq (.region [2] [qI 17 (.mv (.t 3)), qI 18 (.bin .eql .other (.t 17) (.c (.int .i64 0))), qI 2 (.mv (.t 18))])
  .ret))))⟩
theorem cf103 : cF Tryz.prog Tryz.f103 = some if103 := by kernel_rfl
def if104 : IFn := ⟨[0, 1], [(.tmp 4)], (.seq (.region [1, 2] [eI 2 (.box (.t 0)), qI 4 (.mv (.c (.bool false)))])
  (.seq (.region [4] [qI 5 (.mv (.t 1)), qI 6 (.fieldAddr 0 (.t 2)), qI 7 (.load false 1 (.t 6)), qI 8 (.fieldAddr 1 (.t 2)), qI 9 (.load false 1 (.t 8)), qI 10 (.len (.t 9)), eI 11 (.call 196 [(.t 5), (.t 7), (.t 10)]), qI 4 (.mv (.t 11))])
  .ret))⟩
theorem cf104 : cF Tryz.prog Tryz.f104 = some if104 := by kernel_rfl
def if105 : IFn := ⟨[0, 1, 2, 3, 4], [(.tmp 10)], (.seq (.region [1, 2, 3, 4, 5] [eI 5 (.box (.t 0)), qI 10 (.mv (.c .nils))])
  (.seq (.region [1, 2, 3, 4, 5, 11] [qI 13 (.mv (.t 2)), qI 14 (.len (.t 13)), eI 15 (.makeSl 1 8 [(.int .i64 0)] (.t 14) (.t 14)), qI 11 (.mv (.t 15))])
  (.seq (.seq (.region [1, 2, 3, 4, 5, 11, 12] [qI 12 (.mv (.c (.int .i64 0)))])
  (.block 0 (.loop [1, 2, 3, 4, 5, 11, 12] (.seq (.seq (.region [1, 2, 3, 4, 5, 11, 12, 19] [qI 16 (.mv (.t 12)), qI 17 (.mv (.t 2)), qI 18 (.len (.t 17)), qI 19 (.bin .lss .other (.t 16) (.t 18))])
  (.cond (.t 19) .skip (.exit 0)))
  (.seq (.block 1 (.draw [1, 2, 3, 4, 5, 11, 12] [] [qD 22 (.mv (.t 11)) 0, qD 23 (.mv (.t 12)) 1, qD 24 (.mv (.t 1)) 2, qD 25 (.mv (.t 2)) 3, qD 26 (.mv (.t 12)) 4, qD 27 (.indexAddr 1 (.t 25) (.t 26)) 5, qD 28 (.load false 1 (.t 27)) 6, qD 29 (.bin .mul .other (.t 24) (.t 28)) 7, qD 30 (.mv (.t 3)) 8, qD 31 (.mv (.t 4)) 9, qD 32 (.mv (.t 12)) 10, qD 33 (.indexAddr 1 (.t 31) (.t 32)) 11, qD 34 (.load false 1 (.t 33)) 12, qD 35 (.bin .mul .other (.t 30) (.t 34)) 13, qD 36 (.bin .add .other (.t 29) (.t 35)) 14, qD 37 (.indexAddr 1 (.t 22) (.t 23)) 15, ⟨nI (.store 1 (.t 37) (.t 36)), 16, []⟩]))
  (.region [1, 2, 3, 4, 5, 11, 12] [qI 20 (.mv (.t 12)), qI 21 (.bin .add .other (.t 20) (.c (.int .i64 1))), qI 12 (.mv (.t 21))]))))))
  (.seq (.region [10] [qI 38 (.load true 3 (.t 5)), qI 39 (.mv (.t 11)), eI 40 (.call 197 [(.t 38), (.t 39)]), qI 10 (.mv (.t 40))])
  .ret))))⟩
theorem cf105 : cF Tryz.prog Tryz.f105 = some if105 := by kernel_rfl
def if106 : IFn := ⟨[0, 1], [(.tmp 4)], (.seq (.region [0, 1] [qI 4 (.mv (.c .nils))])
  (.seq (.region [0, 1, 5] [qI 8 (.mv (.t 0)), qI 9 (.nilCheck (.t 8)), qI 10 (.fieldAddr 1 (.t 9)), qI 11 (.load false 1 (.t 10)), qI 12 (.len (.t 11)), eI 13 (.makeSl 1 8 [(.int .i64 0)] (.t 12) (.t 12)), qI 5 (.mv (.t 13))])
  (.seq (.seq (.region [0, 5, 14, 15, 16] [qI 14 (.mv (.t 1)), qI 15 (.len (.t 14)), qI 16 (.mv (.c (.int .i64 0)))])
  (.block 0 (.loop [0, 5, 14, 15, 16] (.seq (.region [0, 5, 14, 15, 16, 17] [qI 17 (.bin .lss .other (.t 16) (.t 15))])
  (.seq (.cond (.t 17) .skip (.exit 0))
  (.seq (.block 1 (.seq (.region [0, 5, 7, 14, 15, 16] [qI 18 (.indexAddr 1 (.t 14) (.t 16)), qI 19 (.load false 1 (.t 18)), qI 7 (.mv (.t 19))])
  (.region [0, 5, 14, 15, 16] [qI 20 (.mv (.t 0)), qI 21 (.mv (.t 5)), qI 22 (.mv (.t 7)), eI 23 (.call 98 [(.t 20), (.t 21), (.t 22)]), qI 5 (.mv (.t 23))])))
  (.region [0, 5, 14, 15, 16] [qI 24 (.bin .add .other (.t 16) (.c (.int .i64 1))), qI 16 (.mv (.t 24))])))))))
  (.seq (.region [4] [qI 25 (.mv (.t 5)), qI 4 (.mv (.t 25))])
  .ret))))⟩
theorem cf106 : cF Tryz.prog Tryz.f106 = some if106 := by kernel_rfl
def if107 : IFn := ⟨[0, 1, 2], [(.tmp 6)], (.seq (.region [0, 1, 2] [qI 6 (.mv (.c (.bool false)))])
  (.seq (.region [6] [qI 7 (.mv (.t 0)), qI 8 (.mv (.t 1)), qI 9 (.bin .geq .other (.t 7) (.t 8)), qI 10 (.mv (.t 9)), ⟨(some 11), .mv (.t 0), true, (some (10, true))⟩, ⟨(some 12), .mv (.t 2), true, (some (10, true))⟩, ⟨(some 13), .bin .leq .other (.t 11) (.t 12), true, (some (10, true))⟩, qI 14 (.pick (.t 10) (.t 13) (.c (.bool false))), qI 6 (.mv (.t 14))])
  .ret))⟩
theorem cf107 : cF Tryz.prog Tryz.f107 = some if107 := by kernel_rfl
def if108 : IFn := ⟨[0, 1, 2], [(.tmp 6)], (.seq (.region [0, 1, 2] [qI 6 (.mv (.c (.bool false)))])
  (.seq (.region [6] [qI 7 (.mv (.t 0)), qI 8 (.mv (.t 1)), qI 9 (.bin .geq .other (.t 7) (.t 8)), qI 10 (.mv (.t 9)), ⟨(some 11), .mv (.t 0), true, (some (10, true))⟩, ⟨(some 12), .mv (.t 2), true, (some (10, true))⟩, ⟨(some 13), .bin .leq .other (.t 11) (.t 12), true, (some (10, true))⟩, qI 14 (.pick (.t 10) (.t 13) (.c (.bool false))), qI 6 (.mv (.t 14))])
  .ret))⟩
theorem cf108 : cF Tryz.prog Tryz.f108 = some if108 := by kernel_rfl
def if109 : IFn := ⟨[0, 1, 2], [(.tmp 6)], (.seq (.region [0, 1, 2] [qI 6 (.mv (.c .nils))])
  (.seq (.region [6] [qI 7 (.mv (.t 0)), qI 8 (.mv (.t 0)), qI 9 (.mv (.t 1)), eI 10 (.call 102 [(.t 8), (.c (.int .i64 (-1))), (.t 9)]), qI 11 (.mv (.t 0)), qI 12 (.mv (.t 2)), eI 13 (.call 102 [(.t 11), (.c (.int .i64 (-1))), (.t 12)]), qI 14 (.mv (.t 1)), qI 15 (.mv (.t 2)), eI 16 (.buildSl 1 4 [.nils] [(0, 1, (.t 10)), (1, 1, (.t 13)), (2, 1, (.t 14)), (3, 1, (.t 15))]), eI 17 (.call 106 [(.t 7), (.t 16)]), qI 6 (.mv (.t 17))])
  .ret))⟩
theorem cf109 : cF Tryz.prog Tryz.f109 = some if109 := by kernel_rfl
def if110 : IFn := ⟨[0, 1, 2], [(.tmp 6)], (.seq (.region [0, 1, 2] [qI 6 (.mv (.c .nils))])
  (.seq (.seq (.region [0, 1, 2, 11] [qI 10 (.mv (.t 1)), eI 11 (.call 117 [(.t 10)])])
  (.cond (.t 11) (.seq (.region [6] [qI 12 (.mv (.t 1)), eI 13 (.call 198 [(.t 12)]), qI 6 (.mv (.t 13))])
  .ret) .skip))
  (.seq (.region [0, 1, 2, 7] [qI 14 (.mv (.t 0)), qI 15 (.nilCheck (.t 14)), qI 16 (.fieldAddr 0 (.t 15)), qI 17 (.load false 1 (.t 16)), qI 18 (.mv (.t 1)), qI 19 (.len (.t 18)), eI 20 (.call 153 [(.t 17), (.t 19)]), qI 7 (.mv (.t 20))])
  (.seq (.region [0, 1, 8] [qI 22 (.mv (.t 2)), qI 23 (.mv (.t 7)), eI 24 (.call 200 [(.t 22), (.t 23)]), qI 25 (.mv (.t 7)), eI 26 (.call 199 [(.t 24), (.t 25)]), qI 21 (.mv (.t 26)), qI 27 (.extract (.t 21) 0), qI 28 (.extract (.t 21) 1), qI 8 (.mv (.t 27)), qI 9 (.mv (.t 28))])
  (.seq (.region [6] [qI 29 (.mv (.t 0)), qI 30 (.mv (.t 8)), qI 31 (.mv (.t 1)), eI 32 (.call 102 [(.t 29), (.t 30), (.t 31)]), qI 6 (.mv (.t 32))])
  .ret)))))⟩
theorem cf110 : cF Tryz.prog Tryz.f110 = some if110 := by kernel_rfl
def if111 : IFn := ⟨[0, 1, 2], [(.tmp 6)], (.seq (.region [0, 1, 2] [qI 6 (.mv (.c .nils))])
  (.seq (.region [0, 1, 2, 7] [qI 9 (.mv (.t 0)), qI 10 (.mv (.t 1)), qI 11 (.mv (.t 2)), eI 12 (.call 115 [(.t 9), (.t 10), (.t 11)]), qI 7 (.mv (.t 12))])
  (.seq (.region [0, 1, 2, 7, 8] [qI 13 (.mv (.t 0)), qI 14 (.mv (.t 0)), qI 15 (.mv (.t 1)), qI 16 (.mv (.t 7)), eI 17 (.call 115 [(.t 14), (.t 15), (.t 16)]), qI 18 (.mv (.t 0)), qI 19 (.mv (.t 2)), qI 20 (.mv (.t 0)), qI 21 (.mv (.t 7)), eI 22 (.call 102 [(.t 20), (.c (.int .i64 (-1))), (.t 21)]), eI 23 (.call 115 [(.t 18), (.t 19), (.t 22)]), eI 24 (.call 114 [(.t 13), (.t 17), (.t 23)]), qI 8 (.mv (.t 24))])
  (.seq (.region [6] [qI 25 (.mv (.t 0)), qI 26 (.mv (.t 1)), qI 27 (.mv (.t 2)), eI 28 (.call 114 [(.t 25), (.t 26), (.t 27)]), qI 29 (.mv (.t 0)), qI 30 (.mv (.t 7)), eI 31 (.call 110 [(.t 29), (.t 30), (.c (.int .i64 2))]), qI 32 (.mv (.t 0)), qI 33 (.mv (.t 8)), eI 34 (.call 110 [(.t 32), (.t 33), (.c (.int .i64 12))]), eI 35 (.buildSl 1 3 [.nils] [(0, 1, (.t 28)), (1, 1, (.t 31)), (2, 1, (.t 34))]), qI 6 (.mv (.t 35))])
  .ret))))⟩
theorem cf111 : cF Tryz.prog Tryz.f111 = some if111 := by kernel_rfl
def if112 : IFn := ⟨[0], [(.tmp 2)], (.seq (.region [0] [qI 2 (.mv (.c .nils))])
  (.seq (.region [0, 3] [eI 5 (.buildSl 1 0 [.nils] []), qI 3 (.mv (.t 5))])
  (.seq (.seq (.region [0, 3, 4] [qI 4 (.mv (.c (.int .i64 0)))])
  (.block 0 (.loop [0, 3, 4] (.seq (.seq (.region [0, 3, 4, 9] [qI 6 (.mv (.t 4)), qI 7 (.mv (.t 0)), qI 8 (.len (.t 7)), qI 9 (.bin .lss .other (.t 6) (.t 8))])
  (.cond (.t 9) .skip (.exit 0)))
  (.seq (.block 1 (.region [0, 3, 4] [qI 12 (.mv (.t 3)), qI 13 (.mv (.t 0)), qI 14 (.mv (.t 4)), qI 15 (.indexAddr 1 (.t 13) (.t 14)), qI 16 (.load false 1 (.t 15)), eI 17 (.call 118 [(.t 16)]), eI 18 (.buildSl 1 1 [.nils] [(0, 1, (.t 17))]), eI 19 (.append 1 24 (.t 12) (.t 18)), qI 3 (.mv (.t 19))]))
  (.region [0, 3, 4] [qI 10 (.mv (.t 4)), qI 11 (.bin .add .other (.t 10) (.c (.int .i64 1))), qI 4 (.mv (.t 11))]))))))
  (.seq (.region [2] [qI 20 (.mv (.t 3)), qI 2 (.mv (.t 20))])
  .ret))))⟩
theorem cf112 : cF Tryz.prog Tryz.f112 = some if112 := by kernel_rfl
def if113 : IFn := ⟨[0, 1, 2], [(.tmp 6)], (.seq (.region [1, 2, 3] [eI 3 (.box (.t 0)), qI 6 (.mv (.c .nils))])
  (.seq (.region [1, 2, 3, 7] [qI 9 (.load true 3 (.t 3)), qI 10 (.mv (.t 1)), qI 11 (.mv (.t 2)), eI 12 (.call 116 [(.t 9), (.t 10), (.t 11)]), qI 7 (.mv (.t 12))])
  (.seq (.draw [1, 2, 3, 7, 8] [] [qD 13 (.load true 3 (.t 3)) 0, qD 14 (.load true 3 (.t 3)) 1, qD 15 (.mv (.t 1)) 2, qD 16 (.mv (.t 7)) 3, qD 18 (.load true 3 (.t 3)) 5, qD 19 (.mv (.t 2)) 6, qD 20 (.mv (.t 7)) 7, eD 17 (.call 116 [(.t 14), (.t 15), (.t 16)]) 4 [0, 5], eD 21 (.call 116 [(.t 18), (.t 19), (.t 20)]) 8 [0], eD 22 (.call 105 [(.t 13), (.c (.int .i64 1)), (.t 17), (.c (.int .i64 (-1))), (.t 21)]) 9 [], qD 8 (.mv (.t 22)) 10])
  (.seq (.draw [6] [] [qD 23 (.load true 3 (.t 3)) 0, qD 24 (.mv (.t 1)) 1, qD 25 (.mv (.t 2)) 2, qD 27 (.load true 3 (.t 3)) 4, qD 28 (.mv (.t 7)) 5, qD 30 (.load true 3 (.t 3)) 7, qD 31 (.mv (.t 8)) 8, eD 26 (.call 105 [(.t 23), (.c (.int .i64 1)), (.t 24), (.c (.int .i64 1)), (.t 25)]) 3 [4, 7], eD 29 (.call 120 [(.t 27), (.t 28), (.c (.int .i64 2))]) 6 [7], eD 32 (.call 120 [(.t 30), (.t 31), (.c (.int .i64 12))]) 9 [], eD 33 (.buildSl 1 3 [.nils] [(0, 1, (.t 26)), (1, 1, (.t 29)), (2, 1, (.t 32))]) 10 [], qD 6 (.mv (.t 33)) 11])
  .ret))))⟩
theorem cf113 : cF Tryz.prog Tryz.f113 = some if113 := by kernel_rfl
def if114 : IFn := ⟨[0, 1, 2], [(.tmp 6)], (.seq (.region [0, 1, 2] [qI 6 (.mv (.c .nils))])
  (.seq (.region [0, 2, 7] [qI 8 (.mv (.t 1)), eI 9 (.call 198 [(.t 8)]), qI 7 (.mv (.t 9))])
  (.seq (.region [0, 7] [qI 10 (.mv (.t 7)), qI 11 (.mv (.t 2)), eI 12 (.call 192 [(.t 10), (.t 11), (.c (.int .i64 (-1)))])])
  (.seq (.region [6] [qI 13 (.mv (.t 0)), qI 14 (.mv (.t 7)), eI 15 (.call 193 [(.t 13), (.t 14)]), qI 6 (.mv (.t 15))])
  .ret))))⟩
theorem cf114 : cF Tryz.prog Tryz.f114 = some if114 := by kernel_rfl
def if115 : IFn := ⟨[0, 1, 2], [(.tmp 6)], (.seq (.region [0, 1, 2] [qI 6 (.mv (.c .nils))])
  (.seq (.region [0, 1, 2, 7] [qI 13 (.mv (.t 0)), qI 14 (.nilCheck (.t 13)), qI 15 (.fieldAddr 1 (.t 14)), qI 16 (.load false 1 (.t 15)), qI 17 (.len (.t 16)), eI 18 (.makeSl 1 8 [(.int .i64 0)] (.t 17) (.t 17)), qI 7 (.mv (.t 18))])
  (.seq (.seq (.region [0, 1, 2, 7, 22, 23, 24] [qI 19 (.mv (.t 0)), qI 20 (.nilCheck (.t 19)), qI 21 (.fieldAddr 2 (.t 20)), qI 22 (.load false 1 (.t 21)), qI 23 (.len (.t 22)), qI 24 (.mv (.c (.int .i64 0)))])
  (.block 0 (.loop [0, 1, 2, 7, 22, 23, 24] (.seq (.region [0, 1, 2, 7, 22, 23, 24, 25] [qI 25 (.bin .lss .other (.t 24) (.t 23))])
  (.seq (.cond (.t 25) .skip (.exit 0))
  (.seq (.block 1 (.seq (.region [0, 1, 2, 7, 8, 9, 22, 23, 24] [qI 26 (.mv (.t 24)), qI 27 (.indexAddr 1 (.t 22) (.t 24)), qI 28 (.load false 1 (.t 27)), qI 8 (.mv (.t 26)), qI 9 (.mv (.t 28))])
  (.seq (.region [0, 1, 2, 7, 8, 22, 23, 24, 29, 30, 31] [qI 29 (.mv (.t 9)), qI 30 (.len (.t 29)), qI 31 (.mv (.c (.int .i64 0)))])
  (.block 2 (.loop [0, 1, 2, 7, 8, 22, 23, 24, 29, 30, 31] (.seq (.region [0, 1, 2, 7, 8, 22, 23, 24, 29, 30, 31, 32] [qI 32 (.bin .lss .other (.t 31) (.t 30))])
  (.seq (.cond (.t 32) .skip (.exit 2))
  (.seq (.block 3 (.seq (.region [0, 1, 2, 7, 8, 10, 11, 22, 23, 24, 29, 30, 31] [qI 33 (.mv (.t 31)), qI 34 (.indexAddr 1 (.t 29) (.t 31)), qI 35 (.load false 1 (.t 34)), qI 10 (.mv (.t 33)), qI 11 (.mv (.t 35))])
  (.seq (.region [0, 1, 2, 7, 8, 11, 12, 22, 23, 24, 29, 30, 31] [qI 36 (.mv (.t 8)), qI 37 (.bin .add .other (.t 36) (.c (.int .i64 1))), qI 38 (.mv (.t 10)), qI 39 (.bin .add .other (.t 37) (.t 38)), qI 12 (.mv (.t 39))])
  (.draw [0, 1, 2, 7, 8, 22, 23, 24, 29, 30, 31] [] [qD 40 (.mv (.t 7)) 0, qD 41 (.mv (.t 11)) 1, qD 42 (.mv (.t 1)) 2, qD 43 (.mv (.t 12)) 3, qD 44 (.indexAddr 1 (.t 42) (.t 43)) 4, qD 45 (.load false 1 (.t 44)) 5, qD 46 (.mv (.t 2)) 6, qD 47 (.mv (.t 8)) 7, qD 48 (.indexAddr 1 (.t 46) (.t 47)) 8, qD 49 (.load false 1 (.t 48)) 9, qD 50 (.bin .mul .other (.t 45) (.t 49)) 10, qD 51 (.mv (.t 1)) 11, qD 52 (.mv (.t 8)) 12, qD 53 (.indexAddr 1 (.t 51) (.t 52)) 13, qD 54 (.load false 1 (.t 53)) 14, qD 55 (.mv (.t 2)) 15, qD 56 (.mv (.t 12)) 16, qD 57 (.indexAddr 1 (.t 55) (.t 56)) 17, qD 58 (.load false 1 (.t 57)) 18, qD 59 (.bin .mul .other (.t 54) (.t 58)) 19, qD 60 (.bin .sub .other (.t 50) (.t 59)) 20, eD 61 (.call 192 [(.t 40), (.t 41), (.t 60)]) 21 []]))))
  (.region [0, 1, 2, 7, 8, 22, 23, 24, 29, 30, 31] [qI 62 (.bin .add .other (.t 31) (.c (.int .i64 1))), qI 31 (.mv (.t 62))])))))))))
  (.region [0, 1, 2, 7, 22, 23, 24] [qI 63 (.bin .add .other (.t 24) (.c (.int .i64 1))), qI 24 (.mv (.t 63))])))))))
  (.seq (.region [6] [qI 64 (.mv (.t 0)), qI 65 (.mv (.t 7)), eI 66 (.call 193 [(.t 64), (.t 65)]), qI 6 (.mv (.t 66))])
  .ret))))⟩
theorem cf115 : cF Tryz.prog Tryz.f115 = some if115 := by kernel_rfl
def if116 : IFn := ⟨[0, 1, 2], [(.tmp 6)], (.seq (.region [1, 2, 3] [eI 3 (.box (.t 0)), qI 6 (.mv (.c .nils))])
  (.seq (.region [1, 2, 3, 7] [qI 10 (.load true 3 (.t 3)), eI 11 (.call 201 [(.t 10)]), qI 7 (.mv (.t 11))])
  (.seq (.seq (.region [1, 2, 3, 7, 8] [qI 8 (.mv (.c (.int .i64 0)))])
  (.block 0 (.loop [1, 2, 3, 7, 8] (.seq (.seq (.region [1, 2, 3, 7, 8, 15] [qI 12 (.mv (.t 8)), qI 13 (.mv (.t 1)), qI 14 (.len (.t 13)), qI 15 (.bin .lss .other (.t 12) (.t 14))])
  (.cond (.t 15) .skip (.exit 0)))
  (.seq (.block 1 (.seq (.region [1, 2, 3, 7, 8, 9] [qI 18 (.mv (.t 8)), qI 19 (.bin .add .other (.t 18) (.c (.int .i64 1))), qI 9 (.mv (.t 19))])
  (.block 2 (.loop [1, 2, 3, 7, 8, 9] (.seq (.seq (.region [1, 2, 3, 7, 8, 9, 23] [qI 20 (.mv (.t 9)), qI 21 (.mv (.t 1)), qI 22 (.len (.t 21)), qI 23 (.bin .lss .other (.t 20) (.t 22))])
  (.cond (.t 23) .skip (.exit 2)))
  (.seq (.block 3 (.draw [1, 2, 3, 7, 8, 9] [] [qD 26 (.load true 3 (.t 3)) 0, qD 27 (.mv (.t 7)) 1, qD 28 (.mv (.t 1)) 2, qD 29 (.mv (.t 8)) 3, qD 30 (.indexAddr 1 (.t 28) (.t 29)) 4, qD 31 (.load false 1 (.t 30)) 5, qD 32 (.mv (.t 2)) 6, qD 33 (.mv (.t 9)) 7, qD 34 (.indexAddr 1 (.t 32) (.t 33)) 8, qD 35 (.load false 1 (.t 34)) 9, qD 36 (.bin .mul .other (.t 31) (.t 35)) 10, qD 37 (.mv (.t 1)) 11, qD 38 (.mv (.t 9)) 12, qD 39 (.indexAddr 1 (.t 37) (.t 38)) 13, qD 40 (.load false 1 (.t 39)) 14, qD 41 (.mv (.t 2)) 15, qD 42 (.mv (.t 8)) 16, qD 43 (.indexAddr 1 (.t 41) (.t 42)) 17, qD 44 (.load false 1 (.t 43)) 18, qD 45 (.bin .mul .other (.t 40) (.t 44)) 19, qD 46 (.bin .sub .other (.t 36) (.t 45)) 20, qD 47 (.fieldAddr 2 (.t 3)) 21, qD 48 (.load false 1 (.t 47)) 22, qD 49 (.mv (.t 8)) 23, qD 50 (.indexAddr 1 (.t 48) (.t 49)) 24, qD 51 (.load false 1 (.t 50)) 25, qD 52 (.mv (.t 9)) 26, qD 53 (.mv (.t 8)) 27, qD 54 (.bin .sub .other (.t 52) (.t 53)) 28, qD 55 (.bin .sub .other (.t 54) (.c (.int .i64 1))) 29, qD 56 (.indexAddr 1 (.t 51) (.t 55)) 30, qD 57 (.load false 1 (.t 56)) 31, eD 58 (.call 105 [(.t 26), (.c (.int .i64 1)), (.t 27), (.t 46), (.t 57)]) 32 [], qD 7 (.mv (.t 58)) 33]))
  (.region [1, 2, 3, 7, 8, 9] [qI 24 (.mv (.t 9)), qI 25 (.bin .add .other (.t 24) (.c (.int .i64 1))), qI 9 (.mv (.t 25))])))))))
  (.region [1, 2, 3, 7, 8] [qI 16 (.mv (.t 8)), qI 17 (.bin .add .other (.t 16) (.c (.int .i64 1))), qI 8 (.mv (.t 17))]))))))
  (.seq (.region [6] [qI 59 (.mv (.t 7)), qI 6 (.mv (.t 59))])
  .ret))))⟩
theorem cf116 : cF Tryz.prog Tryz.f116 = some if116 := by kernel_rfl
def if117 : IFn := ⟨[0], [(.tmp 2)], (.seq (.region [0] [qI 2 (.mv (.c (.bool false)))])
  (.seq (.seq (.region [5, 6, 7] [qI 5 (.mv (.t 0)), qI 6 (.len (.t 5)), qI 7 (.mv (.c (.int .i64 0)))])
  (.block 0 (.loop [5, 6, 7] (.seq (.region [5, 6, 7, 8] [qI 8 (.bin .lss .other (.t 7) (.t 6))])
  (.seq (.cond (.t 8) .skip (.exit 0))
  (.seq (.block 1 (.seq (.region [4, 5, 6, 7] [qI 9 (.indexAddr 1 (.t 5) (.t 7)), qI 10 (.load false 1 (.t 9)), qI 4 (.mv (.t 10))])
  (.seq (.region [5, 6, 7, 12] [qI 11 (.mv (.t 4)), qI 12 (.bin .neq .other (.t 11) (.c (.int .i64 0)))])
  (.cond (.t 12) (.seq (.region [2] [qI 2 (.mv (.c (.bool false)))])
  .ret) .skip))))
  (.region [5, 6, 7] [qI 13 (.bin .add .other (.t 7) (.c (.int .i64 1))), qI 7 (.mv (.t 13))])))))))
  (.seq (.region [2] [qI 2 (.mv (.c (.bool true)))])
  .ret)))⟩
theorem cf117 : cF Tryz.prog Tryz.f117 = some if117 := by kernel_rfl
def if118 : IFn := ⟨[0], [(.tmp 2)], (.seq (.region [0] [qI 2 (.mv (.c .nils))])
  (.seq (.region [2] [eI 3 (.buildSl 1 0 [(.int .i64 0)] []), qI 4 (.mv (.t 0)), eI 5 (.append 1 8 (.t 3) (.t 4)), qI 2 (.mv (.t 5))])
  .ret))⟩
theorem cf118 : cF Tryz.prog Tryz.f118 = some if118 := by kernel_rfl
def if119 : IFn := ⟨[0], [(.tmp 2)], (.seq (.region [0] [qI 2 (.mv (.c (.bool false)))])
  (.seq (.seq (.region [0, 3] [qI 3 (.mv (.c (.int .i64 0)))])
  (.block 0 (.loop [0, 3] (.seq (.seq (.region [0, 3, 7] [qI 4 (.mv (.t 3)), qI 5 (.mv (.t 0)), qI 6 (.len (.t 5)), qI 7 (.bin .lss .other (.t 4) (.t 6))])
  (.cond (.t 7) .skip (.exit 0)))
  (.seq (.block 1 (.seq (.region [0, 3, 14] [qI 10 (.mv (.t 0)), qI 11 (.mv (.t 3)), qI 12 (.indexAddr 1 (.t 10) (.t 11)), qI 13 (.load false 1 (.t 12)), qI 14 (.bin .neq .other (.t 13) (.c (.int .i64 0)))])
  (.cond (.t 14) (.seq (.region [2] [qI 2 (.mv (.c (.bool false)))])
  .ret) .skip)))
  (.region [0, 3] [qI 8 (.mv (.t 3)), qI 9 (.bin .add .other (.t 8) (.c (.int .i64 1))), qI 3 (.mv (.t 9))]))))))
  (.seq (.region [2] [qI 2 (.mv (.c (.bool true)))])
  .ret)))⟩
theorem cf119 : cF Tryz.prog Tryz.f119 = some if119 := by kernel_rfl
def if120 : IFn := ⟨[0, 1, 2], [(.tmp 6)], (.seq (.region [1, 2, 3] [eI 3 (.box (.t 0)), qI 6 (.mv (.c .nils))])
  (.seq (.seq (.region [1, 2, 3, 10] [qI 9 (.mv (.t 1)), eI 10 (.call 119 [(.t 9)])])
  (.cond (.t 10) (.seq (.region [6] [qI 11 (.mv (.t 1)), qI 6 (.mv (.t 11))])
  .ret) .skip))
  (.seq (.region [1, 2, 3, 7] [qI 12 (.load true 3 (.t 3)), qI 13 (.mv (.t 1)), eI 14 (.call 202 [(.t 12), (.t 13)]), qI 7 (.mv (.t 14))])
  (.seq (.region [1, 2, 3, 7, 8] [qI 8 (.mv (.c (.int .i64 1)))])
  (.seq (.block 0 (.loop [1, 2, 3, 7, 8] (.seq (.seq (.region [1, 2, 3, 7, 8, 27] [qI 15 (.mv (.t 8)), qI 16 (.mv (.t 7)), qI 17 (.bin .lss .other (.t 15) (.t 16)), qI 18 (.mv (.t 17)), ⟨(some 19), .mv (.t 2), true, (some (18, true))⟩, ⟨(some 20), .mv (.t 7), true, (some (18, true))⟩, ⟨(some 21), .call 203 [(.t 19), (.t 20)], false, (some (18, true))⟩, ⟨(some 22), .mv (.t 8), true, (some (18, true))⟩, ⟨(some 23), .bin .mul .other (.t 21) (.t 22), true, (some (18, true))⟩, ⟨(some 24), .mv (.t 7), true, (some (18, true))⟩, ⟨(some 25), .bin .rem .other (.t 23) (.t 24), true, (some (18, true))⟩, ⟨(some 26), .bin .neq .other (.t 25) (.c (.int .i64 1)), true, (some (18, true))⟩, qI 27 (.pick (.t 18) (.t 26) (.c (.bool false)))])
  (.cond (.t 27) .skip (.exit 0)))
  (.block 1 (.region [1, 2, 3, 7, 8] [qI 28 (.mv (.t 8)), qI 29 (.bin .add .other (.t 28) (.c (.int .i64 1))), qI 8 (.mv (.t 29))])))))
  (.seq (.region [6] [qI 30 (.load true 3 (.t 3)), qI 31 (.mv (.t 8)), qI 32 (.mv (.t 1)), qI 33 (.mv (.t 1)), eI 34 (.call 105 [(.t 30), (.t 31), (.t 32), (.c (.int .i64 0)), (.t 33)]), qI 6 (.mv (.t 34))])
  .ret))))))⟩
theorem cf120 : cF Tryz.prog Tryz.f120 = some if120 := by kernel_rfl
def if121 : IFn := ⟨[0, 1, 2], [(.tmp 6)], (.seq (.region [1, 2, 3] [eI 3 (.box (.t 0)), qI 6 (.mv (.c .nils))])
  (.seq (.draw [6] [] [qD 7 (.load true 3 (.t 3)) 0, qD 8 (.load true 3 (.t 3)) 1, qD 9 (.mv (.t 2)) 2, qD 11 (.mv (.t 1)) 4, qD 12 (.mv (.t 2)) 5, eD 10 (.call 205 [(.t 8), (.t 9)]) 3 [0], eD 13 (.buildSl 1 3 [.nils] [(0, 1, (.t 10)), (1, 1, (.t 11)), (2, 1, (.t 12))]) 6 [0], eD 14 (.call 204 [(.t 7), (.t 13)]) 7 [], qD 6 (.mv (.t 14)) 8])
  .ret))⟩
theorem cf121 : cF Tryz.prog Tryz.f121 = some if121 := by kernel_rfl
def if122 : IFn := ⟨[0, 1, 2], [(.tmp 6)], (.seq (.region [1, 2, 3] [eI 3 (.box (.t 0)), qI 6 (.mv (.c .nils))])
  (.seq (.draw [6] [] [qD 7 (.load true 3 (.t 3)) 0, qD 8 (.load true 3 (.t 3)) 1, qD 9 (.mv (.t 1)) 2, qD 11 (.load true 3 (.t 3)) 4, qD 12 (.mv (.t 2)) 5, qD 14 (.mv (.t 1)) 7, qD 15 (.mv (.t 2)) 8, eD 10 (.call 205 [(.t 8), (.t 9)]) 3 [0, 4], eD 13 (.call 205 [(.t 11), (.t 12)]) 6 [0], eD 16 (.buildSl 1 4 [.nils] [(0, 1, (.t 10)), (1, 1, (.t 13)), (2, 1, (.t 14)), (3, 1, (.t 15))]) 9 [0], eD 17 (.call 204 [(.t 7), (.t 16)]) 10 [], qD 6 (.mv (.t 17)) 11])
  .ret))⟩
theorem cf122 : cF Tryz.prog Tryz.f122 = some if122 := by kernel_rfl
def if125 : IFn := ⟨[0, 1], [(.tmp 4)], (.seq (.region [1, 2] [eI 2 (.box (.t 0)), qI 4 (.mv (.c (.bool false)))])
  (.seq (.seq (.region [1, 2, 5] [qI 5 (.mv (.c (.int .i64 0)))])
  (.block 0 (.loop [1, 2, 5] (.seq (.seq (.region [1, 2, 5, 9] [qI 6 (.mv (.t 5)), qI 7 (.mv (.t 1)), qI 8 (.len (.t 7)), qI 9 (.bin .lss .other (.t 6) (.t 8))])
  (.cond (.t 9) .skip (.exit 0)))
  (.seq (.block 1 (.seq (.draw [1, 2, 5, 18] [] [qD 12 (.load true 3 (.t 2)) 0, qD 13 (.mv (.t 1)) 1, qD 14 (.mv (.t 5)) 2, qD 15 (.indexAddr 1 (.t 13) (.t 14)) 3, qD 16 (.load false 1 (.t 15)) 4, eD 17 (.call 104 [(.t 12), (.t 16)]) 5 [], qD 18 (.un .not (.t 17)) 6])
  (.cond (.t 18) (.seq (.region [4] [qI 4 (.mv (.c (.bool false)))])
  .ret) .skip)))
  (.region [1, 2, 5] [qI 10 (.mv (.t 5)), qI 11 (.bin .add .other (.t 10) (.c (.int .i64 1))), qI 5 (.mv (.t 11))]))))))
  (.seq (.region [4] [qI 4 (.mv (.c (.bool true)))])
  .ret)))⟩
theorem cf125 : cF Tryz.prog Tryz.f125 = some if125 := by kernel_rfl
def if129 : IFn := ⟨[0], [(.tmp 2)], (.seq (.region [0] [qI 2 (.mv (.c .nils))])
  (.seq (.region [0, 3] [qI 3 (.mv (.c .nils))])
  (.seq (.seq (.region [0, 3, 9, 10] [qI 5 (.mv (.t 0)), qI 6 (.nilCheck (.t 5)), qI 7 (.fieldAddr 1 (.t 6)), qI 8 (.load false 1 (.t 7)), qI 9 (.len (.t 8)), qI 10 (.mv (.c (.int .i64 0)))])
  (.block 0 (.loop [0, 3, 9, 10] (.seq (.region [0, 3, 9, 10, 11] [qI 11 (.bin .lss .other (.t 10) (.t 9))])
  (.seq (.cond (.t 11) .skip (.exit 0))
  (.seq (.block 1 (.seq (.region [0, 3, 4, 9, 10] [qI 12 (.mv (.t 10)), qI 4 (.mv (.t 12))])
  (.region [0, 3, 9, 10] [qI 13 (.mv (.t 3)), qI 14 (.mv (.t 0)), qI 15 (.nilCheck (.t 14)), qI 16 (.fieldAddr 1 (.t 15)), qI 17 (.load false 1 (.t 16)), qI 18 (.len (.t 17)), qI 19 (.mv (.t 4)), eI 20 (.call 211 [(.t 18), (.t 19)]), eI 21 (.buildSl 1 1 [.nils] [(0, 1, (.t 20))]), eI 22 (.append 1 24 (.t 13) (.t 21)), qI 3 (.mv (.t 22))])))
  (.region [0, 3, 9, 10] [qI 23 (.bin .add .other (.t 10) (.c (.int .i64 1))), qI 10 (.mv (.t 23))])))))))
  (.seq (.region [2] [qI 24 (.mv (.t 3)), qI 2 (.mv (.t 24))])
  .ret))))⟩
theorem cf129 : cF Tryz.prog Tryz.f129 = some if129 := by kernel_rfl
def if131 : IFn := ⟨[0, 1], [(.tmp 4)], (.seq (.region [0, 1] [qI 4 (.mv (.c .nils))])
  (.seq (.region [0, 1, 5] [qI 13 (.mv (.t 0)), qI 14 (.nilCheck (.t 13)), qI 15 (.fieldAddr 1 (.t 14)), qI 16 (.load false 1 (.t 15)), qI 17 (.len (.t 16)), eI 18 (.makeSl 1 24 [.nils] (.t 17) (.t 17)), qI 5 (.mv (.t 18))])
  (.seq (.region [0, 5, 6] [qI 19 (.mv (.t 1)), eI 20 (.call 213 [(.t 19)]), qI 6 (.mv (.t 20))])
  (.seq (.block 0 (.loop [0, 5, 6] (.seq (.seq (.region [0, 5, 6, 23] [qI 21 (.mv (.t 6)), qI 22 (.len (.t 21)), qI 23 (.bin .gtr .other (.t 22) (.c (.int .i64 0)))])
  (.cond (.t 23) .skip (.exit 0)))
  (.block 1 (.seq (.region [0, 5, 6, 7] [qI 24 (.mv (.t 6)), qI 25 (.indexAddr 1 (.t 24) (.c (.int .i64 0))), qI 26 (.load false 1 (.t 25)), qI 7 (.mv (.t 26))])
  (.seq (.region [0, 5, 6, 7] [qI 27 (.mv (.t 6)), qI 28 (.slice 1 (.t 27) (some (.c (.int .i64 1))) none none), qI 6 (.mv (.t 28))])
  (.seq (.region [0, 5, 6, 7, 8] [qI 29 (.mv (.t 7)), eI 30 (.call 214 [(.t 29)]), qI 8 (.mv (.t 30))])
  (.seq (.block 2 (.loop [0, 5, 6, 7, 8] (.seq (.seq (.region [0, 5, 6, 7, 8, 41] [qI 31 (.mv (.t 8)), qI 32 (.mv (.t 7)), qI 33 (.len (.t 32)), qI 34 (.bin .lss .other (.t 31) (.t 33)), qI 35 (.mv (.t 34)), ⟨(some 36), .mv (.t 5), true, (some (35, true))⟩, ⟨(some 37), .mv (.t 8), true, (some (35, true))⟩, ⟨(some 38), .indexAddr 1 (.t 36) (.t 37), true, (some (35, true))⟩, ⟨(some 39), .load false 1 (.t 38), true, (some (35, true))⟩, ⟨(some 40), .bin .neq .slice (.t 39) (.c .nils), true, (some (35, true))⟩, qI 41 (.pick (.t 35) (.t 40) (.c (.bool false)))])
  (.cond (.t 41) .skip (.exit 2)))
  (.block 3 (.seq (.draw [0, 5, 6, 7] [] [qD 42 (.mv (.t 0)) 0, qD 43 (.mv (.t 7)) 1, qD 44 (.mv (.t 0)) 2, qD 45 (.mv (.t 7)) 3, qD 46 (.mv (.t 8)) 4, qD 47 (.indexAddr 1 (.t 45) (.t 46)) 5, qD 48 (.load false 1 (.t 47)) 6, qD 49 (.un .neg (.t 48)) 7, qD 50 (.mv (.t 5)) 8, qD 51 (.mv (.t 8)) 9, qD 52 (.indexAddr 1 (.t 50) (.t 51)) 10, qD 53 (.load false 1 (.t 52)) 11, eD 54 (.call 102 [(.t 44), (.t 49), (.t 53)]) 12 [], eD 55 (.call 114 [(.t 42), (.t 43), (.t 54)]) 13 [], qD 7 (.mv (.t 55)) 14])
  (.region [0, 5, 6, 7, 8] [qI 56 (.mv (.t 7)), eI 57 (.call 214 [(.t 56)]), qI 8 (.mv (.t 57))]))))))
  (.seq (.seq (.region [0, 5, 6, 7, 8, 61] [qI 58 (.mv (.t 8)), qI 59 (.mv (.t 7)), qI 60 (.len (.t 59)), qI 61 (.bin .eql .other (.t 58) (.t 60))])
  (.cond (.t 61) (.exit 1) .skip))
  (.seq (.draw [0, 5, 6, 7, 8, 9] [] [qD 63 (.mv (.t 7)) 0, qD 64 (.mv (.t 8)) 1, qD 65 (.indexAddr 1 (.t 63) (.t 64)) 2, qD 66 (.load false 1 (.t 65)) 3, qD 67 (.mv (.t 0)) 4, qD 68 (.nilCheck (.t 67)) 5, qD 69 (.fieldAddr 0 (.t 68)) 6, qD 70 (.load false 1 (.t 69)) 7, eD 71 (.call 199 [(.t 66), (.t 70)]) 8 [], qD 62 (.mv (.t 71)) 9, qD 72 (.extract (.t 62) 0) 10, qD 73 (.extract (.t 62) 1) 11, qD 9 (.mv (.t 72)) 12, qD 10 (.mv (.t 73)) 13])
  (.seq (.region [0, 5, 6, 8] [qI 74 (.mv (.t 5)), qI 75 (.mv (.t 8)), qI 76 (.mv (.t 0)), qI 77 (.mv (.t 9)), qI 78 (.mv (.t 7)), eI 79 (.call 102 [(.t 76), (.t 77), (.t 78)]), qI 80 (.indexAddr 1 (.t 74) (.t 75)), nI (.store 1 (.t 80) (.t 79))])
  (.draw [0, 5, 6] [] [qD 81 (.mv (.t 6)) 0, qD 82 (.mv (.t 0)) 1, qD 83 (.mv (.t 0)) 2, qD 84 (.nilCheck (.t 83)) 3, qD 85 (.fieldAddr 0 (.t 84)) 4, qD 86 (.load false 1 (.t 85)) 5, qD 87 (.mv (.t 5)) 6, qD 88 (.mv (.t 8)) 7, qD 89 (.indexAddr 1 (.t 87) (.t 88)) 8, qD 90 (.load false 1 (.t 89)) 9, eD 91 (.call 102 [(.t 82), (.t 86), (.t 90)]) 10 [], eD 92 (.buildSl 1 1 [.nils] [(0, 1, (.t 91))]) 11 [], eD 93 (.append 1 24 (.t 81) (.t 92)) 12 [], qD 6 (.mv (.t 93)) 13]))))))))))))
  (.seq (.region [0, 5, 11] [qI 11 (.mv (.c .nils))])
  (.seq (.seq (.region [0, 5, 11, 12] [qI 94 (.mv (.t 5)), qI 95 (.len (.t 94)), qI 96 (.bin .sub .other (.t 95) (.c (.int .i64 1))), qI 12 (.mv (.t 96))])
  (.block 4 (.loop [0, 5, 11, 12] (.seq (.seq (.region [0, 5, 11, 12, 98] [qI 97 (.mv (.t 12)), qI 98 (.bin .geq .other (.t 97) (.c (.int .i64 0)))])
  (.cond (.t 98) .skip (.exit 4)))
  (.seq (.block 5 (.seq (.region [0, 5, 11, 12, 105] [qI 101 (.mv (.t 5)), qI 102 (.mv (.t 12)), qI 103 (.indexAddr 1 (.t 101) (.t 102)), qI 104 (.load false 1 (.t 103)), qI 105 (.bin .neq .slice (.t 104) (.c .nils))])
  (.cond (.t 105) (.region [0, 5, 11, 12] [qI 106 (.mv (.t 0)), qI 107 (.mv (.t 11)), qI 108 (.mv (.t 5)), qI 109 (.mv (.t 12)), qI 110 (.indexAddr 1 (.t 108) (.t 109)), qI 111 (.load false 1 (.t 110)), eI 112 (.call 210 [(.t 106), (.t 107), (.t 111)]), eI 113 (.buildSl 1 1 [.nils] [(0, 1, (.t 112))]), qI 114 (.mv (.t 11)), eI 115 (.append 1 24 (.t 113) (.t 114)), qI 11 (.mv (.t 115))]) .skip)))
  (.region [0, 5, 11, 12] [qI 99 (.mv (.t 12)), qI 100 (.bin .sub .other (.t 99) (.c (.int .i64 1))), qI 12 (.mv (.t 100))]))))))
  (.seq (.region [4] [qI 116 (.mv (.t 11)), qI 4 (.mv (.t 116))])
  .ret)))))))⟩
theorem cf131 : cF Tryz.prog Tryz.f131 = some if131 := by kernel_rfl
def if136 : IFn := ⟨[0, 1, 2], [(.tmp 6)], (.seq (.region [0, 1, 2] [qI 6 (.mv (.c .nils))])
  (.seq (.region [0, 1, 2, 7] [qI 7 (.mv (.c .nils))])
  (.seq (.seq (.region [0, 2, 7, 12, 13, 14] [qI 12 (.mv (.t 1)), qI 13 (.len (.t 12)), qI 14 (.mv (.c (.int .i64 0)))])
  (.block 0 (.loop [0, 2, 7, 12, 13, 14] (.seq (.region [0, 2, 7, 12, 13, 14, 15] [qI 15 (.bin .lss .other (.t 14) (.t 13))])
  (.seq (.cond (.t 15) .skip (.exit 0))
  (.seq (.block 1 (.seq (.region [0, 2, 7, 9, 12, 13, 14] [qI 16 (.indexAddr 1 (.t 12) (.t 14)), qI 17 (.load false 1 (.t 16)), qI 9 (.mv (.t 17))])
  (.seq (.region [0, 2, 7, 9, 12, 13, 14, 18, 19, 20] [qI 18 (.mv (.t 2)), qI 19 (.len (.t 18)), qI 20 (.mv (.c (.int .i64 0)))])
  (.block 2 (.loop [0, 2, 7, 9, 12, 13, 14, 18, 19, 20] (.seq (.region [0, 2, 7, 9, 12, 13, 14, 18, 19, 20, 21] [qI 21 (.bin .lss .other (.t 20) (.t 19))])
  (.seq (.cond (.t 21) .skip (.exit 2))
  (.seq (.block 3 (.seq (.region [0, 2, 7, 9, 11, 12, 13, 14, 18, 19, 20] [qI 22 (.indexAddr 1 (.t 18) (.t 20)), qI 23 (.load false 1 (.t 22)), qI 11 (.mv (.t 23))])
  (.region [0, 2, 7, 9, 12, 13, 14, 18, 19, 20] [qI 24 (.mv (.t 7)), qI 25 (.mv (.t 0)), qI 26 (.mv (.t 9)), qI 27 (.mv (.t 11)), eI 28 (.call 115 [(.t 25), (.t 26), (.t 27)]), eI 29 (.buildSl 1 1 [.nils] [(0, 1, (.t 28))]), eI 30 (.append 1 24 (.t 24) (.t 29)), qI 7 (.mv (.t 30))])))
  (.region [0, 2, 7, 9, 12, 13, 14, 18, 19, 20] [qI 31 (.bin .add .other (.t 20) (.c (.int .i64 1))), qI 20 (.mv (.t 31))])))))))))
  (.region [0, 2, 7, 12, 13, 14] [qI 32 (.bin .add .other (.t 14) (.c (.int .i64 1))), qI 14 (.mv (.t 32))])))))))
  (.seq (.region [6] [qI 33 (.mv (.t 7)), qI 6 (.mv (.t 33))])
  .ret))))⟩
theorem cf136 : cF Tryz.prog Tryz.f136 = some if136 := by kernel_rfl
def if143 : IFn := ⟨[0], [(.tmp 2)], (.seq (.region [1] [eI 1 (.box (.t 0)), qI 2 (.mv (.c (.bool false)))])
  (.seq (.region [1, 3] [qI 8 (.fieldAddr 1 (.t 1)), qI 9 (.load false 1 (.t 8)), qI 10 (.len (.t 9)), qI 3 (.mv (.t 10))])
  (.seq (.seq (.region [1, 3, 32] [qI 11 (.mv (.t 3)), qI 12 (.bin .gtr .other (.t 11) (.c (.int .i64 6))), qI 13 (.mv (.t 12)), ⟨(some 14), .fieldAddr 2 (.t 1), true, (some (13, false))⟩, ⟨(some 15), .load false 1 (.t 14), true, (some (13, false))⟩, ⟨(some 16), .len (.t 15), true, (some (13, false))⟩, ⟨(some 17), .mv (.t 3), true, (some (13, false))⟩, ⟨(some 18), .bin .neq .other (.t 16) (.t 17), true, (some (13, false))⟩, qI 19 (.pick (.t 13) (.c (.bool true)) (.t 18)), qI 20 (.mv (.t 19)), ⟨(some 21), .fieldAddr 0 (.t 1), true, (some (20, false))⟩, ⟨(some 22), .load false 1 (.t 21), true, (some (20, false))⟩, ⟨(some 23), .call 225 [(.t 22)], false, (some (20, false))⟩, ⟨(some 24), .un .not (.t 23), true, (some (20, false))⟩, qI 25 (.pick (.t 20) (.c (.bool true)) (.t 24)), qI 26 (.mv (.t 25)), ⟨(some 27), .fieldAddr 0 (.t 1), true, (some (26, false))⟩, ⟨(some 28), .load false 1 (.t 27), true, (some (26, false))⟩, ⟨(some 29), .mv (.t 3), true, (some (26, false))⟩, ⟨(some 30), .call 153 [(.t 28), (.t 29)], false, (some (26, false))⟩, ⟨(some 31), .bin .gtr .other (.t 30) (.c (.int .i64 729)), true, (some (26, false))⟩, qI 32 (.pick (.t 26) (.c (.bool true)) (.t 31))])
  (.cond (.t 32) (.seq (.region [2] [qI 2 (.mv (.c (.bool false)))])
  .ret) .skip))
  (.seq (.seq (.region [1, 3, 34, 35, 36] [qI 33 (.fieldAddr 1 (.t 1)), qI 34 (.load false 1 (.t 33)), qI 35 (.len (.t 34)), qI 36 (.mv (.c (.int .i64 0)))])
  (.block 0 (.loop [1, 3, 34, 35, 36] (.seq (.region [1, 3, 34, 35, 36, 37] [qI 37 (.bin .lss .other (.t 36) (.t 35))])
  (.seq (.cond (.t 37) .skip (.exit 0))
  (.seq (.block 1 (.seq (.region [1, 3, 4, 5, 34, 35, 36] [qI 38 (.mv (.t 36)), qI 39 (.indexAddr 1 (.t 34) (.t 36)), qI 40 (.load false 1 (.t 39)), qI 4 (.mv (.t 38)), qI 5 (.mv (.t 40))])
  (.seq (.seq (.region [1, 3, 4, 34, 35, 36, 64] [qI 41 (.mv (.t 5)), eI 42 (.call 145 [(.t 1), (.t 41)]), qI 43 (.un .not (.t 42)), qI 44 (.mv (.t 43)), ⟨(some 45), .mv (.t 5), true, (some (44, false))⟩, ⟨(some 46), .mv (.t 4), true, (some (44, false))⟩, ⟨(some 47), .bin .add .other (.t 46) (.c (.int .i64 1)), true, (some (44, false))⟩, ⟨(some 48), .slice 1 (.t 45) none (some (.t 47)) none, true, (some (44, false))⟩, ⟨(some 49), .call 117 [(.t 48)], false, (some (44, false))⟩, ⟨(some 50), .un .not (.t 49), true, (some (44, false))⟩, qI 51 (.pick (.t 44) (.c (.bool true)) (.t 50)), qI 52 (.mv (.t 51)), ⟨(some 53), .fieldAddr 2 (.t 1), true, (some (52, false))⟩, ⟨(some 54), .load false 1 (.t 53), true, (some (52, false))⟩, ⟨(some 55), .mv (.t 4), true, (some (52, false))⟩, ⟨(some 56), .indexAddr 1 (.t 54) (.t 55), true, (some (52, false))⟩, ⟨(some 57), .load false 1 (.t 56), true, (some (52, false))⟩, ⟨(some 58), .len (.t 57), true, (some (52, false))⟩, ⟨(some 59), .mv (.t 3), true, (some (52, false))⟩, ⟨(some 60), .bin .sub .other (.t 59) (.c (.int .i64 1)), true, (some (52, false))⟩, ⟨(some 61), .mv (.t 4), true, (some (52, false))⟩, ⟨(some 62), .bin .sub .other (.t 60) (.t 61), true, (some (52, false))⟩, ⟨(some 63), .bin .neq .other (.t 58) (.t 62), true, (some (52, false))⟩, qI 64 (.pick (.t 52) (.c (.bool true)) (.t 63))])
  (.cond (.t 64) (.seq (.region [2] [qI 2 (.mv (.c (.bool false)))])
  .ret) .skip))
  (.seq (.region [1, 3, 4, 34, 35, 36, 69, 70, 71] [qI 65 (.fieldAddr 2 (.t 1)), qI 66 (.load false 1 (.t 65)), qI 67 (.mv (.t 4)), qI 68 (.indexAddr 1 (.t 66) (.t 67)), qI 69 (.load false 1 (.t 68)), qI 70 (.len (.t 69)), qI 71 (.mv (.c (.int .i64 0)))])
  (.block 2 (.loop [1, 3, 4, 34, 35, 36, 69, 70, 71] (.seq (.region [1, 3, 4, 34, 35, 36, 69, 70, 71, 72] [qI 72 (.bin .lss .other (.t 71) (.t 70))])
  (.seq (.cond (.t 72) .skip (.exit 2))
  (.seq (.block 3 (.seq (.region [1, 3, 4, 6, 7, 34, 35, 36, 69, 70, 71] [qI 73 (.mv (.t 71)), qI 74 (.indexAddr 1 (.t 69) (.t 71)), qI 75 (.load false 1 (.t 74)), qI 6 (.mv (.t 73)), qI 7 (.mv (.t 75))])
  (.seq (.region [1, 3, 4, 34, 35, 36, 69, 70, 71, 88] [qI 76 (.mv (.t 7)), eI 77 (.call 145 [(.t 1), (.t 76)]), qI 78 (.un .not (.t 77)), qI 79 (.mv (.t 78)), ⟨(some 80), .mv (.t 7), true, (some (79, false))⟩, ⟨(some 81), .mv (.t 4), true, (some (79, false))⟩, ⟨(some 82), .mv (.t 6), true, (some (79, false))⟩, ⟨(some 83), .bin .add .other (.t 81) (.t 82), true, (some (79, false))⟩, ⟨(some 84), .bin .add .other (.t 83) (.c (.int .i64 2)), true, (some (79, false))⟩, ⟨(some 85), .slice 1 (.t 80) none (some (.t 84)) none, true, (some (79, false))⟩, ⟨(some 86), .call 117 [(.t 85)], false, (some (79, false))⟩, ⟨(some 87), .un .not (.t 86), true, (some (79, false))⟩, qI 88 (.pick (.t 79) (.c (.bool true)) (.t 87))])
  (.cond (.t 88) (.seq (.region [2] [qI 2 (.mv (.c (.bool false)))])
  .ret) .skip))))
  (.region [1, 3, 4, 34, 35, 36, 69, 70, 71] [qI 89 (.bin .add .other (.t 71) (.c (.int .i64 1))), qI 71 (.mv (.t 89))]))))))))))
  (.region [1, 3, 34, 35, 36] [qI 90 (.bin .add .other (.t 36) (.c (.int .i64 1))), qI 36 (.mv (.t 90))])))))))
  (.seq (.region [2] [qI 2 (.mv (.c (.bool true)))])
  .ret)))))⟩
theorem cf143 : cF Tryz.prog Tryz.f143 = some if143 := by kernel_rfl
def if144 : IFn := ⟨[0], [(.tmp 2), (.tmp 3), (.tmp 4), (.tmp 5)], (.seq (.region [0] [qI 2 (.mv (.c (.int .i64 0))), qI 3 (.mv (.c (.int .i64 0))), qI 4 (.mv (.c (.int .i64 0))), qI 5 (.mv (.c (.int .i64 0)))])
  (.seq (.region [0, 6] [qI 18 (.mv (.t 0)), qI 19 (.nilCheck (.t 18)), qI 20 (.fieldAddr 1 (.t 19)), qI 21 (.load false 1 (.t 20)), qI 22 (.len (.t 21)), qI 6 (.mv (.t 22))])
  (.seq (.seq (.region [0, 6, 23, 24] [qI 23 (.mv (.t 6)), qI 24 (.mv (.c (.int .i64 0)))])
  (.block 0 (.loop [0, 6, 23, 24] (.seq (.region [0, 6, 23, 24, 25] [qI 25 (.bin .lss .other (.t 24) (.t 23))])
  (.seq (.cond (.t 25) .skip (.exit 0))
  (.seq (.block 1 (.seq (.region [0, 6, 7, 23, 24] [qI 26 (.mv (.t 24)), qI 7 (.mv (.t 26))])
  (.seq (.region [0, 6, 7, 23, 24, 27, 28] [qI 27 (.mv (.t 6)), qI 28 (.mv (.c (.int .i64 0)))])
  (.block 2 (.loop [0, 6, 7, 23, 24, 27, 28] (.seq (.region [0, 6, 7, 23, 24, 27, 28, 29] [qI 29 (.bin .lss .other (.t 28) (.t 27))])
  (.seq (.cond (.t 29) .skip (.exit 2))
  (.seq (.block 3 (.seq (.region [0, 6, 7, 8, 23, 24, 27, 28] [qI 30 (.mv (.t 28)), qI 8 (.mv (.t 30))])
  (.seq (.region [0, 6, 7, 8, 9, 10, 23, 24, 27, 28] [qI 31 (.mv (.t 6)), qI 32 (.mv (.t 7)), eI 33 (.call 211 [(.t 31), (.t 32)]), qI 34 (.mv (.t 6)), qI 35 (.mv (.t 8)), eI 36 (.call 211 [(.t 34), (.t 35)]), qI 9 (.mv (.t 33)), qI 10 (.mv (.t 36))])
  (.seq (.draw [0, 6, 7, 8, 23, 24, 27, 28, 58] [] [qD 37 (.mv (.t 0)) 0, qD 38 (.mv (.t 0)) 1, qD 39 (.nilCheck (.t 38)) 2, qD 40 (.fieldAddr 0 (.t 39)) 3, qD 41 (.load false 1 (.t 40)) 4, qD 42 (.mv (.t 0)) 5, qD 43 (.mv (.t 9)) 6, qD 44 (.mv (.t 10)) 7, qD 47 (.mv (.t 0)) 10, qD 48 (.mv (.t 0)) 11, qD 49 (.nilCheck (.t 48)) 12, qD 50 (.fieldAddr 1 (.t 49)) 13, qD 51 (.load false 1 (.t 50)) 14, qD 52 (.mv (.t 7)) 15, qD 53 (.indexAddr 1 (.t 51) (.t 52)) 16, qD 54 (.load false 1 (.t 53)) 17, qD 55 (.mv (.t 10)) 18, eD 45 (.call 115 [(.t 42), (.t 43), (.t 44)]) 8 [4, 14, 17], eD 46 (.call 102 [(.t 37), (.t 41), (.t 45)]) 9 [14, 17], eD 56 (.call 115 [(.t 47), (.t 54), (.t 55)]) 19 [], eD 57 (.call 226 [(.t 46), (.t 56)]) 20 [], qD 58 (.un .not (.t 57)) 21])
  (.cond (.t 58) (.seq (.region [2, 3, 4, 5] [qI 59 (.mv (.t 7)), qI 60 (.mv (.t 8)), qI 2 (.mv (.c (.int .i64 1))), qI 3 (.mv (.t 59)), qI 4 (.mv (.t 60)), qI 5 (.mv (.c (.int .i64 0)))])
  .ret) .skip)))))
  (.region [0, 6, 7, 23, 24, 27, 28] [qI 61 (.bin .add .other (.t 28) (.c (.int .i64 1))), qI 28 (.mv (.t 61))])))))))))
  (.region [0, 6, 23, 24] [qI 62 (.bin .add .other (.t 24) (.c (.int .i64 1))), qI 24 (.mv (.t 62))])))))))
  (.seq (.seq (.region [0, 6, 63, 64] [qI 63 (.mv (.t 6)), qI 64 (.mv (.c (.int .i64 0)))])
  (.block 4 (.loop [0, 6, 63, 64] (.seq (.region [0, 6, 63, 64, 65] [qI 65 (.bin .lss .other (.t 64) (.t 63))])
  (.seq (.cond (.t 65) .skip (.exit 4))
  (.seq (.block 5 (.seq (.region [0, 6, 11, 63, 64] [qI 66 (.mv (.t 64)), qI 11 (.mv (.t 66))])
  (.seq (.region [0, 6, 11, 12, 63, 64] [qI 67 (.mv (.t 11)), qI 68 (.bin .add .other (.t 67) (.c (.int .i64 1))), qI 12 (.mv (.t 68))])
  (.block 6 (.loop [0, 6, 11, 12, 63, 64] (.seq (.seq (.region [0, 6, 11, 12, 63, 64, 71] [qI 69 (.mv (.t 12)), qI 70 (.mv (.t 6)), qI 71 (.bin .lss .other (.t 69) (.t 70))])
  (.cond (.t 71) .skip (.exit 6)))
  (.seq (.block 7 (.seq (.region [0, 6, 11, 12, 13, 63, 64] [qI 74 (.mv (.t 12)), qI 75 (.bin .add .other (.t 74) (.c (.int .i64 1))), qI 13 (.mv (.t 75))])
  (.block 8 (.loop [0, 6, 11, 12, 13, 63, 64] (.seq (.seq (.region [0, 6, 11, 12, 13, 63, 64, 78] [qI 76 (.mv (.t 13)), qI 77 (.mv (.t 6)), qI 78 (.bin .lss .other (.t 76) (.t 77))])
  (.cond (.t 78) .skip (.exit 8)))
  (.seq (.block 9 (.seq (.region [0, 6, 11, 12, 13, 14, 15, 16, 63, 64] [qI 81 (.mv (.t 6)), qI 82 (.mv (.t 11)), eI 83 (.call 211 [(.t 81), (.t 82)]), qI 84 (.mv (.t 6)), qI 85 (.mv (.t 12)), eI 86 (.call 211 [(.t 84), (.t 85)]), qI 87 (.mv (.t 6)), qI 88 (.mv (.t 13)), eI 89 (.call 211 [(.t 87), (.t 88)]), qI 14 (.mv (.t 83)), qI 15 (.mv (.t 86)), qI 16 (.mv (.t 89))])
  (.seq (.region [0, 6, 11, 12, 13, 14, 15, 16, 17, 63, 64] [qI 90 (.mv (.t 0)), qI 91 (.mv (.t 0)), qI 92 (.mv (.t 0)), qI 93 (.mv (.t 14)), qI 94 (.mv (.t 15)), eI 95 (.call 115 [(.t 92), (.t 93), (.t 94)]), qI 96 (.mv (.t 16)), eI 97 (.call 115 [(.t 91), (.t 95), (.t 96)]), qI 98 (.mv (.t 0)), qI 99 (.mv (.t 0)), qI 100 (.mv (.t 15)), qI 101 (.mv (.t 16)), eI 102 (.call 115 [(.t 99), (.t 100), (.t 101)]), qI 103 (.mv (.t 14)), eI 104 (.call 115 [(.t 98), (.t 102), (.t 103)]), eI 105 (.call 114 [(.t 90), (.t 97), (.t 104)]), qI 17 (.mv (.t 105))])
  (.seq (.region [0, 6, 11, 12, 13, 63, 64, 117] [qI 106 (.mv (.t 0)), qI 107 (.mv (.t 17)), qI 108 (.mv (.t 0)), qI 109 (.mv (.t 0)), qI 110 (.mv (.t 16)), qI 111 (.mv (.t 14)), eI 112 (.call 115 [(.t 109), (.t 110), (.t 111)]), qI 113 (.mv (.t 15)), eI 114 (.call 115 [(.t 108), (.t 112), (.t 113)]), eI 115 (.call 114 [(.t 106), (.t 107), (.t 114)]), eI 116 (.call 117 [(.t 115)]), qI 117 (.un .not (.t 116))])
  (.cond (.t 117) (.seq (.region [2, 3, 4, 5] [qI 118 (.mv (.t 11)), qI 119 (.mv (.t 12)), qI 120 (.mv (.t 13)), qI 2 (.mv (.c (.int .i64 2))), qI 3 (.mv (.t 118)), qI 4 (.mv (.t 119)), qI 5 (.mv (.t 120))])
  .ret) .skip)))))
  (.region [0, 6, 11, 12, 13, 63, 64] [qI 79 (.mv (.t 13)), qI 80 (.bin .add .other (.t 79) (.c (.int .i64 1))), qI 13 (.mv (.t 80))])))))))
  (.region [0, 6, 11, 12, 63, 64] [qI 72 (.mv (.t 12)), qI 73 (.bin .add .other (.t 72) (.c (.int .i64 1))), qI 12 (.mv (.t 73))]))))))))
  (.region [0, 6, 63, 64] [qI 121 (.bin .add .other (.t 64) (.c (.int .i64 1))), qI 64 (.mv (.t 121))])))))))
  (.seq (.region [2, 3, 4, 5] [qI 2 (.mv (.c (.int .i64 0))), qI 3 (.mv (.c (.int .i64 0))), qI 4 (.mv (.c (.int .i64 0))), qI 5 (.mv (.c (.int .i64 0)))])
  .ret)))))⟩
theorem cf144 : cF Tryz.prog Tryz.f144 = some if144 := by kernel_rfl
def if145 : IFn := ⟨[0, 1], [(.tmp 4)], (.seq (.region [0, 1] [qI 4 (.mv (.c (.bool false)))])
  (.seq (.draw [4] [] [qD 5 (.mv (.t 1)) 0, qD 6 (.mv (.t 0)) 1, qD 7 (.nilCheck (.t 6)) 2, qD 8 (.fieldAddr 0 (.t 7)) 3, qD 9 (.load false 1 (.t 8)) 4, qD 10 (.mv (.t 0)) 5, qD 11 (.nilCheck (.t 10)) 6, qD 12 (.fieldAddr 1 (.t 11)) 7, qD 13 (.load false 1 (.t 12)) 8, qD 14 (.len (.t 13)) 9, eD 15 (.call 227 [(.t 5), (.t 9), (.t 14)]) 10 [], qD 4 (.mv (.t 15)) 11])
  .ret))⟩
theorem cf145 : cF Tryz.prog Tryz.f145 = some if145 := by kernel_rfl
def if150 : IFn := ⟨[0, 1], [(.tmp 4)], (.seq (.region [1, 2] [eI 2 (.box (.t 0)), qI 4 (.mv (.c .nils))])
  (.seq (.region [1, 2, 5] [eI 10 (.buildSl 1 0 [.nils] []), qI 5 (.mv (.t 10))])
  (.seq (.seq (.region [1, 2, 5, 6] [qI 6 (.mv (.c (.int .i64 0)))])
  (.block 0 (.loop [1, 2, 5, 6] (.seq (.seq (.region [1, 2, 5, 6, 14] [qI 11 (.mv (.t 6)), qI 12 (.mv (.t 1)), qI 13 (.len (.t 12)), qI 14 (.bin .lss .other (.t 11) (.t 13))])
  (.cond (.t 14) .skip (.exit 0)))
  (.seq (.block 1 (.seq (.draw [1, 2, 5, 6, 7] [] [qD 17 (.load true 3 (.t 2)) 0, qD 18 (.mv (.t 5)) 1, qD 19 (.mv (.t 1)) 2, qD 20 (.mv (.t 6)) 3, qD 21 (.indexAddr 1 (.t 19) (.t 20)) 4, qD 22 (.load false 1 (.t 21)) 5, eD 23 (.call 228 [(.t 17), (.t 18), (.t 22)]) 6 [], qD 7 (.mv (.t 23)) 7])
  (.block 2 (.loop [1, 2, 5, 6, 7] (.seq (.seq (.region [1, 2, 5, 6, 7, 26] [qI 24 (.mv (.t 7)), eI 25 (.call 119 [(.t 24)]), qI 26 (.un .not (.t 25))])
  (.cond (.t 26) .skip (.exit 2)))
  (.block 3 (.seq (.draw [1, 2, 5, 6, 7] [] [qD 27 (.load true 3 (.t 2)) 0, qD 28 (.mv (.t 7)) 1, qD 29 (.mv (.t 7)) 2, qD 33 (.fieldAddr 0 (.t 2)) 6, qD 34 (.load false 1 (.t 33)) 7, qD 36 (.mv (.t 7)) 9, qD 37 (.mv (.t 7)) 10, eD 30 (.call 236 [(.t 29)]) 3 [0, 7], qD 31 (.indexAddr 1 (.t 28) (.t 30)) 4, qD 32 (.load false 1 (.t 31)) 5, eD 35 (.call 235 [(.t 32), (.t 34)]) 8 [0], eD 38 (.call 105 [(.t 27), (.t 35), (.t 36), (.c (.int .i64 0)), (.t 37)]) 11 [], qD 7 (.mv (.t 38)) 12])
  (.seq (.region [1, 2, 5, 6, 7] [qI 39 (.mv (.t 5)), qI 40 (.mv (.t 7)), eI 41 (.call 237 [(.t 39), (.t 40)]), qI 5 (.mv (.t 41))])
  (.draw [1, 2, 5, 6, 7] [] [qD 42 (.load true 3 (.t 2)) 0, qD 43 (.mv (.t 5)) 1, qD 44 (.load true 3 (.t 2)) 2, qD 45 (.fieldAddr 0 (.t 2)) 3, qD 46 (.load false 1 (.t 45)) 4, qD 47 (.mv (.t 7)) 5, qD 48 (.mv (.t 7)) 6, eD 49 (.call 105 [(.t 44), (.t 46), (.t 47), (.c (.int .i64 0)), (.t 48)]) 7 [0], eD 50 (.call 228 [(.t 42), (.t 43), (.t 49)]) 8 [], qD 7 (.mv (.t 50)) 9])))))))))
  (.region [1, 2, 5, 6] [qI 15 (.mv (.t 6)), qI 16 (.bin .add .other (.t 15) (.c (.int .i64 1))), qI 6 (.mv (.t 16))]))))))
  (.seq (.region [2, 5, 8] [eI 51 (.buildSl 1 0 [.nils] []), qI 8 (.mv (.t 51))])
  (.seq (.seq (.region [2, 5, 8, 9] [qI 9 (.mv (.c (.int .i64 0)))])
  (.block 4 (.loop [2, 5, 8, 9] (.seq (.seq (.region [2, 5, 8, 9, 55] [qI 52 (.mv (.t 9)), qI 53 (.mv (.t 5)), qI 54 (.len (.t 53)), qI 55 (.bin .lss .other (.t 52) (.t 54))])
  (.cond (.t 55) .skip (.exit 4)))
  (.seq (.block 5 (.draw [2, 5, 8, 9] [] [qD 58 (.mv (.t 8)) 0, qD 59 (.load true 3 (.t 2)) 1, qD 60 (.mv (.t 5)) 2, qD 61 (.mv (.t 9)) 3, qD 62 (.bin .add .other (.t 61) (.c (.int .i64 1))) 4, qD 63 (.slice 1 (.t 60) (some (.t 62)) none none) 5, qD 64 (.mv (.t 5)) 6, qD 65 (.mv (.t 9)) 7, qD 66 (.indexAddr 1 (.t 64) (.t 65)) 8, qD 67 (.load false 1 (.t 66)) 9, eD 68 (.call 228 [(.t 59), (.t 63), (.t 67)]) 10 [], eD 69 (.buildSl 1 1 [.nils] [(0, 1, (.t 68))]) 11 [], eD 70 (.append 1 24 (.t 58) (.t 69)) 12 [], qD 8 (.mv (.t 70)) 13]))
  (.region [2, 5, 8, 9] [qI 56 (.mv (.t 9)), qI 57 (.bin .add .other (.t 56) (.c (.int .i64 1))), qI 9 (.mv (.t 57))]))))))
  (.seq (.region [4] [qI 71 (.mv (.t 8)), qI 4 (.mv (.t 71))])
  .ret))))))⟩
theorem cf150 : cF Tryz.prog Tryz.f150 = some if150 := by kernel_rfl
def if153 : IFn := ⟨[0, 1], [(.tmp 4)], (.seq (.region [0, 1] [qI 4 (.mv (.c (.int .i64 0)))])
  (.seq (.region [0, 1, 5] [qI 5 (.mv (.c (.int .i64 1)))])
  (.seq (.seq (.region [0, 5, 6, 7] [qI 6 (.mv (.t 1)), qI 7 (.mv (.c (.int .i64 0)))])
  (.block 0 (.loop [0, 5, 6, 7] (.seq (.region [0, 5, 6, 7, 8] [qI 8 (.bin .lss .other (.t 7) (.t 6))])
  (.seq (.cond (.t 8) .skip (.exit 0))
  (.seq (.block 1 (.region [0, 5, 6, 7] [qI 9 (.mv (.t 5)), qI 10 (.mv (.t 0)), qI 11 (.bin .mul .other (.t 9) (.t 10)), qI 5 (.mv (.t 11))]))
  (.region [0, 5, 6, 7] [qI 12 (.bin .add .other (.t 7) (.c (.int .i64 1))), qI 7 (.mv (.t 12))])))))))
  (.seq (.region [4] [qI 13 (.mv (.t 5)), qI 4 (.mv (.t 13))])
  .ret))))⟩
theorem cf153 : cF Tryz.prog Tryz.f153 = some if153 := by kernel_rfl
-- BAD 154 loop.example/g01076/impl.fromPrimary
def if155 : IFn := ⟨[0], [(.tmp 2)], (.seq (.region [1] [eI 1 (.box (.t 0)), qI 2 (.mv (.c .nils))])
  (.seq (.region [2] [qI 3 (.load false 1 (.t 1)), eI 4 (.call 129 [(.t 3)]), qI 5 (.makeFunc 243 [] [(.t 1)]), eI 6 (.call 242 [(.t 4), (.t 5)]), qI 2 (.mv (.t 6))])
  .ret))⟩
theorem cf155 : cF Tryz.prog Tryz.f155 = some if155 := by kernel_rfl
def if158 : IFn := ⟨[0], [(.tmp 2)], (.seq (.region [1] [eI 1 (.box (.t 0)), qI 2 (.mv (.c (.bool false)))])
  (.seq (.draw [2] [] [qD 3 (.load true 3 (.t 1)) 0, qD 5 (.fieldAddr 0 (.t 1)) 2, qD 6 (.load false 1 (.t 5)) 3, eD 4 (.call 244 [(.t 3)]) 1 [3], qD 7 (.bin .lss .other (.t 4) (.t 6)) 4, qD 2 (.mv (.t 7)) 5])
  .ret))⟩
theorem cf158 : cF Tryz.prog Tryz.f158 = some if158 := by kernel_rfl
def if160 : IFn := ⟨[0, 1, 2], [(.tmp 6)], (.seq (.region [1, 2, 3] [eI 3 (.box (.t 0)), qI 6 (.mv (.c .nils))])
  (.seq (.region [1, 2, 3, 7] [eI 10 (.buildSl 1 0 [.nils] []), qI 7 (.mv (.t 10))])
  (.seq (.seq (.region [1, 2, 3, 7, 8] [qI 8 (.mv (.c (.int .i64 0)))])
  (.block 0 (.loop [1, 2, 3, 7, 8] (.seq (.seq (.region [1, 2, 3, 7, 8, 14] [qI 11 (.mv (.t 8)), qI 12 (.mv (.t 1)), qI 13 (.len (.t 12)), qI 14 (.bin .lss .other (.t 11) (.t 13))])
  (.cond (.t 14) .skip (.exit 0)))
  (.seq (.block 1 (.seq (.region [1, 2, 3, 7, 8, 9] [qI 9 (.mv (.c (.int .i64 0)))])
  (.block 2 (.loop [1, 2, 3, 7, 8, 9] (.seq (.seq (.region [1, 2, 3, 7, 8, 9, 20] [qI 17 (.mv (.t 9)), qI 18 (.mv (.t 2)), qI 19 (.len (.t 18)), qI 20 (.bin .lss .other (.t 17) (.t 19))])
  (.cond (.t 20) .skip (.exit 2)))
  (.seq (.block 3 (.draw [1, 2, 3, 7, 8, 9] [] [qD 23 (.mv (.t 7)) 0, qD 24 (.load true 3 (.t 3)) 1, qD 25 (.mv (.t 1)) 2, qD 26 (.mv (.t 8)) 3, qD 27 (.indexAddr 1 (.t 25) (.t 26)) 4, qD 28 (.load false 1 (.t 27)) 5, qD 29 (.mv (.t 2)) 6, qD 30 (.mv (.t 9)) 7, qD 31 (.indexAddr 1 (.t 29) (.t 30)) 8, qD 32 (.load false 1 (.t 31)) 9, eD 33 (.call 116 [(.t 24), (.t 28), (.t 32)]) 10 [], eD 34 (.buildSl 1 1 [.nils] [(0, 1, (.t 33))]) 11 [], eD 35 (.append 1 24 (.t 23) (.t 34)) 12 [], qD 7 (.mv (.t 35)) 13]))
  (.region [1, 2, 3, 7, 8, 9] [qI 21 (.mv (.t 9)), qI 22 (.bin .add .other (.t 21) (.c (.int .i64 1))), qI 9 (.mv (.t 22))])))))))
  (.region [1, 2, 3, 7, 8] [qI 15 (.mv (.t 8)), qI 16 (.bin .add .other (.t 15) (.c (.int .i64 1))), qI 8 (.mv (.t 16))]))))))
  (.seq (.region [6] [qI 36 (.load true 3 (.t 3)), qI 37 (.mv (.t 7)), eI 38 (.call 150 [(.t 36), (.t 37)]), qI 6 (.mv (.t 38))])
  .ret))))⟩
theorem cf160 : cF Tryz.prog Tryz.f160 = some if160 := by kernel_rfl
def if166 : IFn := ⟨[0], [(.tmp 2)], (.seq (.region [0] [qI 2 (.mv (.c (.bool false)))])
  (.seq (.draw [2] [] [qD 3 (.mv (.t 0)) 0, qD 7 (.mv (.t 0)) 4, qD 8 (.nilCheck (.t 7)) 5, qD 9 (.fieldAddr 0 (.t 8)) 6, qD 10 (.load false 1 (.t 9)) 7, eD 4 (.call 155 [(.t 3)]) 1 [7], qD 5 (.len (.t 4)) 2, qD 6 (.bin .sub .other (.t 5) (.c (.int .i64 1))) 3, qD 11 (.bin .lss .other (.t 6) (.t 10)) 8, qD 2 (.mv (.t 11)) 9])
  .ret))⟩
theorem cf166 : cF Tryz.prog Tryz.f166 = some if166 := by kernel_rfl
def if189 : IFn := ⟨[0], [(.tmp 2)], (.seq (.region [0] [qI 2 (.mv (.c .nilp))])
  (.seq (.region [0, 3] [qI 5 (.mv (.t 0)), qI 6 (.build [.nils, (.int .i64 0), (.int .i64 0)] [(0, 1, (.t 5)), (2, 1, (.c (.int .i64 76001)))]), eI 7 (.box (.t 6)), qI 3 (.mv (.t 7))])
  (.seq (.seq (.region [0, 3, 4] [qI 4 (.mv (.c (.int .i64 0)))])
  (.block 0 (.loop [0, 3, 4] (.seq (.seq (.region [0, 3, 4, 15] [qI 8 (.mv (.t 4)), qI 9 (.mv (.t 0)), qI 10 (.len (.t 9)), qI 11 (.bin .lss .other (.t 8) (.t 10)), qI 12 (.mv (.t 11)), ⟨(some 13), .mv (.t 4), true, (some (12, true))⟩, ⟨(some 14), .bin .lss .other (.t 13) (.c (.int .i64 64)), true, (some (12, true))⟩, qI 15 (.pick (.t 12) (.t 14) (.c (.bool false)))])
  (.cond (.t 15) .skip (.exit 0)))
  (.seq (.block 1 (.draw [0, 3, 4] [] [qD 18 (.mv (.t 3)) 0, qD 19 (.mv (.t 3)) 1, qD 20 (.nilCheck (.t 19)) 2, qD 21 (.fieldAddr 2 (.t 20)) 3, qD 22 (.load false 1 (.t 21)) 4, qD 23 (.bin .mul .other (.t 22) (.c (.int .i64 71))) 5, qD 24 (.mv (.t 0)) 6, qD 25 (.mv (.t 4)) 7, qD 26 (.indexAddr 1 (.t 24) (.t 25)) 8, qD 27 (.load false 1 (.t 26)) 9, qD 28 (.conv .i64 (.t 27)) 10, qD 29 (.bin .add .other (.t 23) (.t 28)) 11, qD 30 (.bin .rem .other (.t 29) (.c (.int .i64 2147483647))) 12, qD 31 (.nilCheck (.t 18)) 13, qD 32 (.fieldAddr 2 (.t 31)) 14, ⟨nI (.store 1 (.t 32) (.t 30)), 15, []⟩]))
  (.region [0, 3, 4] [qI 16 (.mv (.t 4)), qI 17 (.bin .add .other (.t 16) (.c (.int .i64 1))), qI 4 (.mv (.t 17))]))))))
  (.seq (.region [2] [qI 33 (.mv (.t 3)), qI 2 (.mv (.t 33))])
  .ret))))⟩
theorem cf189 : cF Tryz.prog Tryz.f189 = some if189 := by kernel_rfl
def if190 : IFn := ⟨[0], [(.cell 2 true 3)], (.seq (.region [0, 2] [eI 2 (.alloc [(.int .i64 0), .nils, .nils])])
  (.seq (.seq (.region [0, 2, 5] [qI 3 (.mv (.t 0)), eI 4 (.call 230 [(.t 3), (.c (.int .i64 10))]), qI 5 (.bin .eql .other (.t 4) (.c (.int .i64 0)))])
  (.cond (.t 5) (.seq (.region [2] [qI 6 (.mv (.t 0)), eI 7 (.call 206 [(.t 6)]), nI (.store 3 (.t 2) (.t 7))])
  .ret) .skip))
  (.seq (.region [2] [qI 8 (.mv (.t 0)), eI 9 (.call 266 [(.t 8)]), nI (.store 3 (.t 2) (.t 9))])
  .ret)))⟩
theorem cf190 : cF Tryz.prog Tryz.f190 = some if190 := by kernel_rfl
def if191 : IFn := ⟨[0, 1], [(.tmp 4)], (.seq (.region [0, 3] [eI 3 (.box (.t 1)), qI 4 (.mv (.c .nils))])
  (.seq (.region [0, 3, 5] [eI 7 (.buildSl 1 0 [(.int .i64 0)] []), qI 5 (.mv (.t 7))])
  (.seq (.seq (.region [0, 3, 5, 6] [qI 6 (.mv (.c (.int .i64 0)))])
  (.block 0 (.loop [0, 3, 5, 6] (.seq (.seq (.region [0, 3, 5, 6, 12] [qI 8 (.mv (.t 6)), qI 9 (.fieldAddr 1 (.t 3)), qI 10 (.load false 1 (.t 9)), qI 11 (.len (.t 10)), qI 12 (.bin .lss .other (.t 8) (.t 11))])
  (.cond (.t 12) .skip (.exit 0)))
  (.seq (.block 1 (.region [0, 3, 5, 6] [qI 15 (.mv (.t 5)), qI 16 (.mv (.t 0)), qI 17 (.fieldAddr 0 (.t 3)), qI 18 (.load false 1 (.t 17)), eI 19 (.call 230 [(.t 16), (.t 18)]), eI 20 (.buildSl 1 1 [(.int .i64 0)] [(0, 1, (.t 19))]), eI 21 (.append 1 8 (.t 15) (.t 20)), qI 5 (.mv (.t 21))]))
  (.region [0, 3, 5, 6] [qI 13 (.mv (.t 6)), qI 14 (.bin .add .other (.t 13) (.c (.int .i64 1))), qI 6 (.mv (.t 14))]))))))
  (.seq (.seq (.region [0, 3, 5, 24] [qI 22 (.mv (.t 0)), eI 23 (.call 230 [(.t 22), (.c (.int .i64 40))]), qI 24 (.bin .eql .other (.t 23) (.c (.int .i64 0)))])
  (.cond (.t 24) (.region [0, 3, 5] [qI 25 (.mv (.t 5)), eI 26 (.buildSl 1 1 [(.int .i64 0)] [(0, 1, (.c (.int .i64 0)))]), eI 27 (.append 1 8 (.t 25) (.t 26)), qI 5 (.mv (.t 27))]) .skip))
  (.seq (.seq (.region [3, 5, 35] [qI 28 (.mv (.t 0)), eI 29 (.call 230 [(.t 28), (.c (.int .i64 40))]), qI 30 (.bin .eql .other (.t 29) (.c (.int .i64 0))), qI 31 (.mv (.t 30)), ⟨(some 32), .mv (.t 5), true, (some (31, true))⟩, ⟨(some 33), .len (.t 32), true, (some (31, true))⟩, ⟨(some 34), .bin .gtr .other (.t 33) (.c (.int .i64 0)), true, (some (31, true))⟩, qI 35 (.pick (.t 31) (.t 34) (.c (.bool false)))])
  (.cond (.t 35) (.region [5] [qI 36 (.mv (.t 5)), qI 37 (.fieldAddr 0 (.t 3)), qI 38 (.load false 1 (.t 37)), qI 39 (.indexAddr 1 (.t 36) (.c (.int .i64 0))), nI (.store 1 (.t 39) (.t 38))]) .skip))
  (.seq (.region [4] [qI 40 (.mv (.t 5)), qI 4 (.mv (.t 40))])
  .ret))))))⟩
theorem cf191 : cF Tryz.prog Tryz.f191 = some if191 := by kernel_rfl
def if192 : IFn := ⟨[0, 1, 2], [], (.seq (.region [0, 1, 2, 8, 9] [qI 7 (.mv (.t 0)), qI 8 (.len (.t 7)), qI 9 (.mv (.c (.int .i64 0)))])
  (.block 0 (.loop [0, 1, 2, 8, 9] (.seq (.region [0, 1, 2, 8, 9, 10] [qI 10 (.bin .lss .other (.t 9) (.t 8))])
  (.seq (.cond (.t 10) .skip (.exit 0))
  (.seq (.block 1 (.seq (.region [0, 1, 2, 6, 8, 9] [qI 11 (.mv (.t 9)), qI 6 (.mv (.t 11))])
  (.draw [0, 1, 2, 8, 9] [] [qD 12 (.mv (.t 0)) 0, qD 13 (.mv (.t 6)) 1, qD 14 (.indexAddr 1 (.t 12) (.t 13)) 2, qD 15 (.load false 1 (.t 14)) 3, qD 16 (.mv (.t 2)) 4, qD 17 (.mv (.t 1)) 5, qD 18 (.mv (.t 6)) 6, qD 19 (.indexAddr 1 (.t 17) (.t 18)) 7, qD 20 (.load false 1 (.t 19)) 8, qD 21 (.bin .mul .other (.t 16) (.t 20)) 9, qD 22 (.bin .sub .other (.t 15) (.t 21)) 10, qD 23 (.indexAddr 1 (.t 12) (.t 13)) 11, ⟨nI (.store 1 (.t 23) (.t 22)), 12, []⟩])))
  (.region [0, 1, 2, 8, 9] [qI 24 (.bin .add .other (.t 9) (.c (.int .i64 1))), qI 9 (.mv (.t 24))])))))))⟩
theorem cf192 : cF Tryz.prog Tryz.f192 = some if192 := by kernel_rfl
def if193 : IFn := ⟨[0, 1], [(.tmp 4)], (.seq (.region [0, 1] [qI 4 (.mv (.c .nils))])
  (.seq (.region [0, 5] [qI 11 (.mv (.t 1)), eI 12 (.call 198 [(.t 11)]), qI 5 (.mv (.t 12))])
  (.seq (.seq (.region [0, 5, 16, 17, 18] [qI 13 (.mv (.t 0)), qI 14 (.nilCheck (.t 13)), qI 15 (.fieldAddr 1 (.t 14)), qI 16 (.load false 1 (.t 15)), qI 17 (.len (.t 16)), qI 18 (.mv (.c (.int .i64 0)))])
  (.block 0 (.loop [0, 5, 16, 17, 18] (.seq (.region [0, 5, 16, 17, 18, 19] [qI 19 (.bin .lss .other (.t 18) (.t 17))])
  (.seq (.cond (.t 19) .skip (.exit 0))
  (.seq (.block 1 (.seq (.region [0, 5, 6, 7, 16, 17, 18] [qI 20 (.mv (.t 18)), qI 21 (.indexAddr 1 (.t 16) (.t 18)), qI 22 (.load false 1 (.t 21)), qI 6 (.mv (.t 20)), qI 7 (.mv (.t 22))])
  (.seq (.draw [0, 5, 6, 7, 8, 16, 17, 18] [] [qD 23 (.mv (.t 5)) 0, qD 24 (.mv (.t 6)) 1, qD 25 (.indexAddr 1 (.t 23) (.t 24)) 2, qD 26 (.load false 1 (.t 25)) 3, qD 27 (.mv (.t 0)) 4, qD 28 (.nilCheck (.t 27)) 5, qD 29 (.fieldAddr 0 (.t 28)) 6, qD 30 (.load false 1 (.t 29)) 7, eD 31 (.call 267 [(.t 26), (.t 30)]) 8 [], qD 8 (.mv (.t 31)) 9])
  (.seq (.draw [0, 5, 7, 8, 16, 17, 18] [] [qD 32 (.mv (.t 5)) 0, qD 33 (.mv (.t 6)) 1, qD 34 (.indexAddr 1 (.t 32) (.t 33)) 2, qD 35 (.load false 1 (.t 34)) 3, qD 36 (.mv (.t 8)) 4, qD 37 (.mv (.t 0)) 5, qD 38 (.nilCheck (.t 37)) 6, qD 39 (.fieldAddr 0 (.t 38)) 7, qD 40 (.load false 1 (.t 39)) 8, qD 41 (.bin .mul .other (.t 36) (.t 40)) 9, qD 42 (.bin .sub .other (.t 35) (.t 41)) 10, qD 43 (.indexAddr 1 (.t 32) (.t 33)) 11, ⟨nI (.store 1 (.t 43) (.t 42)), 12, []⟩])
  (.seq (.region [0, 5, 8, 16, 17, 18, 44, 45, 46] [qI 44 (.mv (.t 7)), qI 45 (.len (.t 44)), qI 46 (.mv (.c (.int .i64 0)))])
  (.block 2 (.loop [0, 5, 8, 16, 17, 18, 44, 45, 46] (.seq (.region [0, 5, 8, 16, 17, 18, 44, 45, 46, 47] [qI 47 (.bin .lss .other (.t 46) (.t 45))])
  (.seq (.cond (.t 47) .skip (.exit 2))
  (.seq (.block 3 (.seq (.region [0, 5, 8, 9, 10, 16, 17, 18, 44, 45, 46] [qI 48 (.mv (.t 46)), qI 49 (.indexAddr 1 (.t 44) (.t 46)), qI 50 (.load false 1 (.t 49)), qI 9 (.mv (.t 48)), qI 10 (.mv (.t 50))])
  (.region [0, 5, 8, 16, 17, 18, 44, 45, 46] [qI 51 (.mv (.t 5)), qI 52 (.mv (.t 9)), qI 53 (.indexAddr 1 (.t 51) (.t 52)), qI 54 (.load false 1 (.t 53)), qI 55 (.mv (.t 8)), qI 56 (.mv (.t 10)), qI 57 (.bin .mul .other (.t 55) (.t 56)), qI 58 (.bin .add .other (.t 54) (.t 57)), qI 59 (.indexAddr 1 (.t 51) (.t 52)), nI (.store 1 (.t 59) (.t 58))])))
  (.region [0, 5, 8, 16, 17, 18, 44, 45, 46] [qI 60 (.bin .add .other (.t 46) (.c (.int .i64 1))), qI 46 (.mv (.t 60))])))))))))))
  (.region [0, 5, 16, 17, 18] [qI 61 (.bin .add .other (.t 18) (.c (.int .i64 1))), qI 18 (.mv (.t 61))])))))))
  (.seq (.region [4] [qI 62 (.mv (.t 5)), qI 4 (.mv (.t 62))])
  .ret))))⟩
theorem cf193 : cF Tryz.prog Tryz.f193 = some if193 := by kernel_rfl
def if194 : IFn := ⟨[0], [(.tmp 2)], (.seq (.region [1] [eI 1 (.box (.t 0)), qI 2 (.mv (.c (.bool false)))])
  (.seq (.region [1, 3] [qI 7 (.fieldAddr 1 (.t 1)), qI 8 (.load false 1 (.t 7)), qI 9 (.len (.t 8)), qI 3 (.mv (.t 9))])
  (.seq (.seq (.region [1, 3, 31] [qI 10 (.fieldAddr 0 (.t 1)), qI 11 (.load false 1 (.t 10)), eI 12 (.call 268 [(.t 11)]), qI 13 (.un .not (.t 12)), qI 14 (.mv (.t 13)), ⟨(some 15), .mv (.t 3), true, (some (14, false))⟩, ⟨(some 16), .bin .gtr .other (.t 15) (.c (.int .i64 6)), true, (some (14, false))⟩, qI 17 (.pick (.t 14) (.c (.bool true)) (.t 16)), qI 18 (.mv (.t 17)), ⟨(some 19), .fieldAddr 2 (.t 1), true, (some (18, false))⟩, ⟨(some 20), .load false 1 (.t 19), true, (some (18, false))⟩, ⟨(some 21), .len (.t 20), true, (some (18, false))⟩, ⟨(some 22), .mv (.t 3), true, (some (18, false))⟩, ⟨(some 23), .bin .neq .other (.t 21) (.t 22), true, (some (18, false))⟩, qI 24 (.pick (.t 18) (.c (.bool true)) (.t 23)), qI 25 (.mv (.t 24)), ⟨(some 26), .fieldAddr 0 (.t 1), true, (some (25, false))⟩, ⟨(some 27), .load false 1 (.t 26), true, (some (25, false))⟩, ⟨(some 28), .mv (.t 3), true, (some (25, false))⟩, ⟨(some 29), .call 219 [(.t 27), (.t 28)], false, (some (25, false))⟩, ⟨(some 30), .bin .gtr .other (.t 29) (.c (.int .i64 729)), true, (some (25, false))⟩, qI 31 (.pick (.t 25) (.c (.bool true)) (.t 30))])
  (.cond (.t 31) (.seq (.region [2] [qI 2 (.mv (.c (.bool false)))])
  .ret) .skip))
  (.seq (.seq (.region [1, 3, 4] [qI 4 (.mv (.c (.int .i64 0)))])
  (.block 0 (.loop [1, 3, 4] (.seq (.seq (.region [1, 3, 4, 34] [qI 32 (.mv (.t 4)), qI 33 (.mv (.t 3)), qI 34 (.bin .lss .other (.t 32) (.t 33))])
  (.cond (.t 34) .skip (.exit 0)))
  (.seq (.block 1 (.seq (.seq (.draw [1, 3, 4, 69] [] [qD 37 (.fieldAddr 1 (.t 1)) 0, qD 38 (.load false 1 (.t 37)) 1, qD 39 (.mv (.t 4)) 2, qD 40 (.indexAddr 1 (.t 38) (.t 39)) 3, qD 41 (.load false 1 (.t 40)) 4, qD 42 (.fieldAddr 0 (.t 1)) 5, qD 43 (.load false 1 (.t 42)) 6, qD 44 (.mv (.t 3)) 7, eD 45 (.call 196 [(.t 41), (.t 43), (.t 44)]) 8 [], qD 46 (.un .not (.t 45)) 9, qD 47 (.mv (.t 46)) 10, ⟨⟨(some 48), .fieldAddr 1 (.t 1), true, (some (47, false))⟩, 11, []⟩, ⟨⟨(some 49), .load false 1 (.t 48), true, (some (47, false))⟩, 12, []⟩, ⟨⟨(some 50), .mv (.t 4), true, (some (47, false))⟩, 13, []⟩, ⟨⟨(some 51), .indexAddr 1 (.t 49) (.t 50), true, (some (47, false))⟩, 14, []⟩, ⟨⟨(some 52), .load false 1 (.t 51), true, (some (47, false))⟩, 15, []⟩, ⟨⟨(some 53), .mv (.t 4), true, (some (47, false))⟩, 16, []⟩, ⟨⟨(some 54), .call 269 [(.t 52), (.t 53)], false, (some (47, false))⟩, 17, []⟩, ⟨⟨(some 55), .un .not (.t 54), true, (some (47, false))⟩, 18, []⟩, qD 56 (.pick (.t 47) (.c (.bool true)) (.t 55)) 19, qD 57 (.mv (.t 56)) 20, ⟨⟨(some 58), .fieldAddr 2 (.t 1), true, (some (57, false))⟩, 21, []⟩, ⟨⟨(some 59), .load false 1 (.t 58), true, (some (57, false))⟩, 22, []⟩, ⟨⟨(some 60), .mv (.t 4), true, (some (57, false))⟩, 23, []⟩, ⟨⟨(some 61), .indexAddr 1 (.t 59) (.t 60), true, (some (57, false))⟩, 24, []⟩, ⟨⟨(some 62), .load false 1 (.t 61), true, (some (57, false))⟩, 25, []⟩, ⟨⟨(some 63), .len (.t 62), true, (some (57, false))⟩, 26, []⟩, ⟨⟨(some 64), .mv (.t 3), true, (some (57, false))⟩, 27, []⟩, ⟨⟨(some 65), .bin .sub .other (.t 64) (.c (.int .i64 1)), true, (some (57, false))⟩, 28, []⟩, ⟨⟨(some 66), .mv (.t 4), true, (some (57, false))⟩, 29, []⟩, ⟨⟨(some 67), .bin .sub .other (.t 65) (.t 66), true, (some (57, false))⟩, 30, []⟩, ⟨⟨(some 68), .bin .neq .other (.t 63) (.t 67), true, (some (57, false))⟩, 31, []⟩, qD 69 (.pick (.t 57) (.c (.bool true)) (.t 68)) 32])
  (.cond (.t 69) (.seq (.region [2] [qI 2 (.mv (.c (.bool false)))])
  .ret) .skip))
  (.seq (.region [1, 3, 4, 5] [qI 70 (.mv (.t 4)), qI 71 (.bin .add .other (.t 70) (.c (.int .i64 1))), qI 5 (.mv (.t 71))])
  (.block 2 (.loop [1, 3, 4, 5] (.seq (.seq (.region [1, 3, 4, 5, 74] [qI 72 (.mv (.t 5)), qI 73 (.mv (.t 3)), qI 74 (.bin .lss .other (.t 72) (.t 73))])
  (.cond (.t 74) .skip (.exit 2)))
  (.seq (.block 3 (.seq (.region [1, 3, 4, 5, 6] [qI 77 (.fieldAddr 2 (.t 1)), qI 78 (.load false 1 (.t 77)), qI 79 (.mv (.t 4)), qI 80 (.indexAddr 1 (.t 78) (.t 79)), qI 81 (.load false 1 (.t 80)), qI 82 (.mv (.t 5)), qI 83 (.mv (.t 4)), qI 84 (.bin .sub .other (.t 82) (.t 83)), qI 85 (.bin .sub .other (.t 84) (.c (.int .i64 1))), qI 86 (.indexAddr 1 (.t 81) (.t 85)), qI 87 (.load false 1 (.t 86)), qI 6 (.mv (.t 87))])
  (.seq (.region [1, 3, 4, 5, 99] [qI 88 (.mv (.t 6)), qI 89 (.fieldAddr 0 (.t 1)), qI 90 (.load false 1 (.t 89)), qI 91 (.mv (.t 3)), eI 92 (.call 196 [(.t 88), (.t 90), (.t 91)]), qI 93 (.un .not (.t 92)), qI 94 (.mv (.t 93)), ⟨(some 95), .mv (.t 6), true, (some (94, false))⟩, ⟨(some 96), .mv (.t 5), true, (some (94, false))⟩, ⟨(some 97), .call 269 [(.t 95), (.t 96)], false, (some (94, false))⟩, ⟨(some 98), .un .not (.t 97), true, (some (94, false))⟩, qI 99 (.pick (.t 94) (.c (.bool true)) (.t 98))])
  (.cond (.t 99) (.seq (.region [2] [qI 2 (.mv (.c (.bool false)))])
  .ret) .skip))))
  (.region [1, 3, 4, 5] [qI 75 (.mv (.t 5)), qI 76 (.bin .add .other (.t 75) (.c (.int .i64 1))), qI 5 (.mv (.t 76))]))))))))
  (.region [1, 3, 4] [qI 35 (.mv (.t 4)), qI 36 (.bin .add .other (.t 35) (.c (.int .i64 1))), qI 4 (.mv (.t 36))]))))))
  (.seq (.region [2] [qI 2 (.mv (.c (.bool true)))])
  .ret)))))⟩
theorem cf194 : cF Tryz.prog Tryz.f194 = some if194 := by kernel_rfl
def if195 : IFn := ⟨[0], [(.tmp 2), (.tmp 3), (.tmp 4), (.tmp 5)], (.seq (.region [1] [eI 1 (.box (.t 0)), qI 2 (.mv (.c (.int .i64 0))), qI 3 (.mv (.c (.int .i64 0))), qI 4 (.mv (.c (.int .i64 0))), qI 5 (.mv (.c (.int .i64 0)))])
  (.seq (.region [1, 6] [qI 17 (.fieldAddr 1 (.t 1)), qI 18 (.load false 1 (.t 17)), qI 19 (.len (.t 18)), qI 6 (.mv (.t 19))])
  (.seq (.seq (.region [1, 6, 7] [qI 7 (.mv (.c (.int .i64 0)))])
  (.block 0 (.loop [1, 6, 7] (.seq (.seq (.region [1, 6, 7, 22] [qI 20 (.mv (.t 7)), qI 21 (.mv (.t 6)), qI 22 (.bin .lss .other (.t 20) (.t 21))])
  (.cond (.t 22) .skip (.exit 0)))
  (.seq (.block 1 (.seq (.region [1, 6, 7, 8] [qI 8 (.mv (.c (.int .i64 0)))])
  (.block 2 (.loop [1, 6, 7, 8] (.seq (.seq (.region [1, 6, 7, 8, 27] [qI 25 (.mv (.t 8)), qI 26 (.mv (.t 6)), qI 27 (.bin .lss .other (.t 25) (.t 26))])
  (.cond (.t 27) .skip (.exit 2)))
  (.seq (.block 3 (.seq (.draw [1, 6, 7, 8, 9] [] [qD 30 (.load true 3 (.t 1)) 0, qD 31 (.fieldAddr 0 (.t 1)) 1, qD 32 (.load false 1 (.t 31)) 2, qD 33 (.load true 3 (.t 1)) 3, qD 34 (.load true 3 (.t 1)) 4, qD 35 (.mv (.t 7)) 5, qD 37 (.load true 3 (.t 1)) 7, qD 38 (.mv (.t 8)) 8, qD 41 (.load true 3 (.t 1)) 11, eD 36 (.call 231 [(.t 34), (.t 35)]) 6 [0, 2, 3, 7, 11], eD 39 (.call 231 [(.t 37), (.t 38)]) 9 [0, 2, 3, 11], eD 40 (.call 116 [(.t 33), (.t 36), (.t 39)]) 10 [0, 2, 11], eD 42 (.call 201 [(.t 41)]) 12 [0, 2], eD 43 (.call 105 [(.t 30), (.t 32), (.t 40), (.c (.int .i64 0)), (.t 42)]) 13 [], qD 9 (.mv (.t 43)) 14])
  (.seq (.draw [1, 6, 7, 8, 56] [] [qD 44 (.mv (.t 9)) 0, qD 45 (.load true 3 (.t 1)) 1, qD 46 (.fieldAddr 1 (.t 1)) 2, qD 47 (.load false 1 (.t 46)) 3, qD 48 (.mv (.t 7)) 4, qD 49 (.indexAddr 1 (.t 47) (.t 48)) 5, qD 50 (.load false 1 (.t 49)) 6, qD 51 (.load true 3 (.t 1)) 7, qD 52 (.mv (.t 8)) 8, eD 53 (.call 231 [(.t 51), (.t 52)]) 9 [1, 3, 6], eD 54 (.call 116 [(.t 45), (.t 50), (.t 53)]) 10 [], eD 55 (.call 233 [(.t 44), (.t 54)]) 11 [], qD 56 (.un .not (.t 55)) 12])
  (.cond (.t 56) (.seq (.region [2, 3, 4, 5] [qI 57 (.mv (.t 7)), qI 58 (.mv (.t 8)), qI 2 (.mv (.c (.int .i64 1))), qI 3 (.mv (.t 57)), qI 4 (.mv (.t 58)), qI 5 (.mv (.c (.int .i64 0)))])
  .ret) .skip))))
  (.region [1, 6, 7, 8] [qI 28 (.mv (.t 8)), qI 29 (.bin .add .other (.t 28) (.c (.int .i64 1))), qI 8 (.mv (.t 29))])))))))
  (.region [1, 6, 7] [qI 23 (.mv (.t 7)), qI 24 (.bin .add .other (.t 23) (.c (.int .i64 1))), qI 7 (.mv (.t 24))]))))))
  (.seq (.seq (.region [1, 6, 10] [qI 10 (.mv (.c (.int .i64 0)))])
  (.block 4 (.loop [1, 6, 10] (.seq (.seq (.region [1, 6, 10, 61] [qI 59 (.mv (.t 10)), qI 60 (.mv (.t 6)), qI 61 (.bin .lss .other (.t 59) (.t 60))])
  (.cond (.t 61) .skip (.exit 4)))
  (.seq (.block 5 (.seq (.region [1, 6, 10, 11] [qI 64 (.mv (.t 10)), qI 65 (.bin .add .other (.t 64) (.c (.int .i64 1))), qI 11 (.mv (.t 65))])
  (.block 6 (.loop [1, 6, 10, 11] (.seq (.seq (.region [1, 6, 10, 11, 68] [qI 66 (.mv (.t 11)), qI 67 (.mv (.t 6)), qI 68 (.bin .lss .other (.t 66) (.t 67))])
  (.cond (.t 68) .skip (.exit 6)))
  (.seq (.block 7 (.seq (.region [1, 6, 10, 11, 12] [qI 71 (.mv (.t 11)), qI 72 (.bin .add .other (.t 71) (.c (.int .i64 1))), qI 12 (.mv (.t 72))])
  (.block 8 (.loop [1, 6, 10, 11, 12] (.seq (.seq (.region [1, 6, 10, 11, 12, 75] [qI 73 (.mv (.t 12)), qI 74 (.mv (.t 6)), qI 75 (.bin .lss .other (.t 73) (.t 74))])
  (.cond (.t 75) .skip (.exit 8)))
  (.seq (.block 9 (.seq (.draw [1, 6, 10, 11, 12, 13, 14, 15] [] [qD 78 (.load true 3 (.t 1)) 0, qD 79 (.mv (.t 10)) 1, qD 81 (.load true 3 (.t 1)) 3, qD 82 (.mv (.t 11)) 4, qD 84 (.load true 3 (.t 1)) 6, qD 85 (.mv (.t 12)) 7, eD 80 (.call 231 [(.t 78), (.t 79)]) 2 [3, 6], eD 83 (.call 231 [(.t 81), (.t 82)]) 5 [6], eD 86 (.call 231 [(.t 84), (.t 85)]) 8 [], qD 13 (.mv (.t 80)) 9, qD 14 (.mv (.t 83)) 10, qD 15 (.mv (.t 86)) 11])
  (.seq (.draw [1, 6, 10, 11, 12, 13, 14, 15, 16] [] [qD 87 (.load true 3 (.t 1)) 0, qD 88 (.load true 3 (.t 1)) 1, qD 89 (.load true 3 (.t 1)) 2, qD 90 (.mv (.t 13)) 3, qD 91 (.mv (.t 14)) 4, qD 93 (.mv (.t 15)) 6, qD 95 (.load true 3 (.t 1)) 8, qD 96 (.load true 3 (.t 1)) 9, qD 97 (.mv (.t 14)) 10, qD 98 (.mv (.t 15)) 11, qD 100 (.mv (.t 13)) 13, eD 92 (.call 116 [(.t 89), (.t 90), (.t 91)]) 5 [0, 1, 8, 9], eD 94 (.call 116 [(.t 88), (.t 92), (.t 93)]) 7 [0, 8, 9], eD 99 (.call 116 [(.t 96), (.t 97), (.t 98)]) 12 [0, 8], eD 101 (.call 116 [(.t 95), (.t 99), (.t 100)]) 14 [0], eD 102 (.call 105 [(.t 87), (.c (.int .i64 1)), (.t 94), (.c (.int .i64 1)), (.t 101)]) 15 [], qD 16 (.mv (.t 102)) 16])
  (.seq (.draw [1, 6, 10, 11, 12, 114] [] [qD 103 (.load true 3 (.t 1)) 0, qD 104 (.mv (.t 16)) 1, qD 105 (.load true 3 (.t 1)) 2, qD 106 (.load true 3 (.t 1)) 3, qD 107 (.mv (.t 15)) 4, qD 108 (.mv (.t 13)) 5, qD 110 (.mv (.t 14)) 7, eD 109 (.call 116 [(.t 106), (.t 107), (.t 108)]) 6 [0, 2], eD 111 (.call 116 [(.t 105), (.t 109), (.t 110)]) 8 [0], eD 112 (.call 105 [(.t 103), (.c (.int .i64 1)), (.t 104), (.c (.int .i64 1)), (.t 111)]) 9 [], eD 113 (.call 119 [(.t 112)]) 10 [], qD 114 (.un .not (.t 113)) 11])
  (.cond (.t 114) (.seq (.region [2, 3, 4, 5] [qI 115 (.mv (.t 10)), qI 116 (.mv (.t 11)), qI 117 (.mv (.t 12)), qI 2 (.mv (.c (.int .i64 2))), qI 3 (.mv (.t 115)), qI 4 (.mv (.t 116)), qI 5 (.mv (.t 117))])
  .ret) .skip)))))
  (.region [1, 6, 10, 11, 12] [qI 76 (.mv (.t 12)), qI 77 (.bin .add .other (.t 76) (.c (.int .i64 1))), qI 12 (.mv (.t 77))])))))))
  (.region [1, 6, 10, 11] [qI 69 (.mv (.t 11)), qI 70 (.bin .add .other (.t 69) (.c (.int .i64 1))), qI 11 (.mv (.t 70))])))))))
  (.region [1, 6, 10] [qI 62 (.mv (.t 10)), qI 63 (.bin .add .other (.t 62) (.c (.int .i64 1))), qI 10 (.mv (.t 63))]))))))
  (.seq (.region [2, 3, 4, 5] [qI 2 (.mv (.c (.int .i64 0))), qI 3 (.mv (.c (.int .i64 0))), qI 4 (.mv (.c (.int .i64 0))), qI 5 (.mv (.c (.int .i64 0)))])
  .ret)))))⟩
theorem cf195 : cF Tryz.prog Tryz.f195 = some if195 := by kernel_rfl
def if196 : IFn := ⟨[0, 1, 2], [(.tmp 6)], (.seq (.region [0, 1, 2] [qI 6 (.mv (.c (.bool false)))])
  (.seq (.seq (.region [0, 1, 2, 11] [qI 8 (.mv (.t 0)), qI 9 (.len (.t 8)), qI 10 (.mv (.t 2)), qI 11 (.bin .neq .other (.t 9) (.t 10))])
  (.cond (.t 11) (.seq (.region [6] [qI 6 (.mv (.c (.bool false)))])
  .ret) .skip))
  (.seq (.seq (.region [0, 1, 2, 7] [qI 7 (.mv (.c (.int .i64 0)))])
  (.block 0 (.loop [0, 1, 2, 7] (.seq (.seq (.region [0, 1, 2, 7, 14] [qI 12 (.mv (.t 7)), qI 13 (.mv (.t 2)), qI 14 (.bin .lss .other (.t 12) (.t 13))])
  (.cond (.t 14) .skip (.exit 0)))
  (.seq (.block 1 (.seq (.region [0, 1, 2, 7, 24] [qI 17 (.mv (.t 0)), qI 18 (.mv (.t 7)), qI 19 (.indexAddr 1 (.t 17) (.t 18)), qI 20 (.load false 1 (.t 19)), qI 21 (.mv (.t 1)), qI 22 (.bin .sub .other (.t 21) (.c (.int .i64 1))), eI 23 (.call 108 [(.t 20), (.c (.int .i64 0)), (.t 22)]), qI 24 (.un .not (.t 23))])
  (.cond (.t 24) (.seq (.region [6] [qI 6 (.mv (.c (.bool false)))])
  .ret) .skip)))
  (.region [0, 1, 2, 7] [qI 15 (.mv (.t 7)), qI 16 (.bin .add .other (.t 15) (.c (.int .i64 1))), qI 7 (.mv (.t 16))]))))))
  (.seq (.region [6] [qI 6 (.mv (.c (.bool true)))])
  .ret))))⟩
theorem cf196 : cF Tryz.prog Tryz.f196 = some if196 := by kernel_rfl
def if197 : IFn := ⟨[0, 1], [(.tmp 4)], (.seq (.region [1, 2] [eI 2 (.box (.t 0)), qI 4 (.mv (.c .nils))])
  (.seq (.region [2, 5] [qI 9 (.mv (.t 1)), eI 10 (.call 118 [(.t 9)]), qI 5 (.mv (.t 10))])
  (.seq (.seq (.region [2, 5, 6] [qI 6 (.mv (.c (.int .i64 0)))])
  (.block 0 (.loop [2, 5, 6] (.seq (.seq (.region [2, 5, 6, 14] [qI 11 (.mv (.t 6)), qI 12 (.mv (.t 5)), qI 13 (.len (.t 12)), qI 14 (.bin .lss .other (.t 11) (.t 13))])
  (.cond (.t 14) .skip (.exit 0)))
  (.seq (.block 1 (.seq (.draw [2, 5, 6, 7] [] [qD 17 (.mv (.t 5)) 0, qD 18 (.mv (.t 6)) 1, qD 19 (.indexAddr 1 (.t 17) (.t 18)) 2, qD 20 (.load false 1 (.t 19)) 3, qD 21 (.fieldAddr 0 (.t 2)) 4, qD 22 (.load false 1 (.t 21)) 5, eD 23 (.call 270 [(.t 20), (.t 22)]) 6 [], qD 7 (.mv (.t 23)) 7])
  (.seq (.draw [2, 5, 6, 7] [] [qD 24 (.mv (.t 5)) 0, qD 25 (.mv (.t 6)) 1, qD 26 (.mv (.t 5)) 2, qD 27 (.mv (.t 6)) 3, qD 28 (.indexAddr 1 (.t 26) (.t 27)) 4, qD 29 (.load false 1 (.t 28)) 5, qD 30 (.mv (.t 7)) 6, qD 31 (.fieldAddr 0 (.t 2)) 7, qD 32 (.load false 1 (.t 31)) 8, qD 33 (.bin .mul .other (.t 30) (.t 32)) 9, qD 34 (.bin .sub .other (.t 29) (.t 33)) 10, qD 35 (.indexAddr 1 (.t 24) (.t 25)) 11, ⟨nI (.store 1 (.t 35) (.t 34)), 12, []⟩])
  (.seq (.region [2, 5, 6, 7, 8] [qI 36 (.mv (.t 6)), qI 37 (.bin .add .other (.t 36) (.c (.int .i64 1))), qI 8 (.mv (.t 37))])
  (.block 2 (.loop [2, 5, 6, 7, 8] (.seq (.seq (.region [2, 5, 6, 7, 8, 41] [qI 38 (.mv (.t 8)), qI 39 (.mv (.t 5)), qI 40 (.len (.t 39)), qI 41 (.bin .lss .other (.t 38) (.t 40))])
  (.cond (.t 41) .skip (.exit 2)))
  (.seq (.block 3 (.draw [2, 5, 6, 7, 8] [] [qD 44 (.mv (.t 5)) 0, qD 45 (.mv (.t 8)) 1, qD 46 (.mv (.t 5)) 2, qD 47 (.mv (.t 8)) 3, qD 48 (.indexAddr 1 (.t 46) (.t 47)) 4, qD 49 (.load false 1 (.t 48)) 5, qD 50 (.mv (.t 7)) 6, qD 51 (.fieldAddr 1 (.t 2)) 7, qD 52 (.load false 1 (.t 51)) 8, qD 53 (.mv (.t 6)) 9, qD 54 (.indexAddr 1 (.t 52) (.t 53)) 10, qD 55 (.load false 1 (.t 54)) 11, qD 56 (.mv (.t 8)) 12, qD 57 (.indexAddr 1 (.t 55) (.t 56)) 13, qD 58 (.load false 1 (.t 57)) 14, qD 59 (.bin .mul .other (.t 50) (.t 58)) 15, qD 60 (.bin .add .other (.t 49) (.t 59)) 16, qD 61 (.indexAddr 1 (.t 44) (.t 45)) 17, ⟨nI (.store 1 (.t 61) (.t 60)), 18, []⟩]))
  (.region [2, 5, 6, 7, 8] [qI 42 (.mv (.t 8)), qI 43 (.bin .add .other (.t 42) (.c (.int .i64 1))), qI 8 (.mv (.t 43))])))))))))
  (.region [2, 5, 6] [qI 15 (.mv (.t 6)), qI 16 (.bin .add .other (.t 15) (.c (.int .i64 1))), qI 6 (.mv (.t 16))]))))))
  (.seq (.region [4] [qI 62 (.mv (.t 5)), qI 4 (.mv (.t 62))])
  .ret))))⟩
theorem cf197 : cF Tryz.prog Tryz.f197 = some if197 := by kernel_rfl
def if198 : IFn := ⟨[0], [(.tmp 2)], (.seq (.region [0] [qI 2 (.mv (.c .nils))])
  (.seq (.seq (.region [0, 4] [qI 3 (.mv (.t 0)), qI 4 (.bin .eql .slice (.t 3) (.c .nils))])
  (.cond (.t 4) (.seq (.region [2] [qI 2 (.mv (.c .nils))])
  .ret) .skip))
  (.seq (.region [2] [eI 5 (.buildSl 1 0 [(.int .i64 0)] []), qI 6 (.mv (.t 0)), eI 7 (.append 1 8 (.t 5) (.t 6)), qI 2 (.mv (.t 7))])
  .ret)))⟩
theorem cf198 : cF Tryz.prog Tryz.f198 = some if198 := by kernel_rfl
def if199 : IFn := ⟨[0, 1], [(.tmp 4), (.tmp 5)], (.seq (.region [0, 1] [qI 4 (.mv (.c (.int .i64 0))), qI 5 (.mv (.c (.bool false)))])
  (.seq (.region [1, 6, 7, 8, 9] [qI 11 (.mv (.t 1)), qI 12 (.mv (.t 0)), qI 6 (.mv (.t 11)), qI 7 (.mv (.t 12)), qI 8 (.mv (.c (.int .i64 0))), qI 9 (.mv (.c (.int .i64 1)))])
  (.seq (.block 0 (.loop [1, 6, 7, 8, 9] (.seq (.seq (.region [1, 6, 7, 8, 9, 14] [qI 13 (.mv (.t 7)), qI 14 (.bin .neq .other (.t 13) (.c (.int .i64 0)))])
  (.cond (.t 14) .skip (.exit 0)))
  (.block 1 (.seq (.region [1, 6, 7, 8, 9, 10] [qI 15 (.mv (.t 6)), qI 16 (.mv (.t 7)), qI 17 (.bin .quo .other (.t 15) (.t 16)), qI 10 (.mv (.t 17))])
  (.seq (.region [1, 6, 7, 8, 9, 10] [qI 18 (.mv (.t 7)), qI 19 (.mv (.t 6)), qI 20 (.mv (.t 10)), qI 21 (.mv (.t 7)), qI 22 (.bin .mul .other (.t 20) (.t 21)), qI 23 (.bin .sub .other (.t 19) (.t 22)), qI 6 (.mv (.t 18)), qI 7 (.mv (.t 23))])
  (.region [1, 6, 7, 8, 9] [qI 24 (.mv (.t 9)), qI 25 (.mv (.t 8)), qI 26 (.mv (.t 10)), qI 27 (.mv (.t 9)), qI 28 (.bin .mul .other (.t 26) (.t 27)), qI 29 (.bin .sub .other (.t 25) (.t 28)), qI 8 (.mv (.t 24)), qI 9 (.mv (.t 29))])))))))
  (.seq (.region [4, 5] [qI 30 (.mv (.t 8)), qI 31 (.mv (.t 1)), eI 32 (.call 200 [(.t 30), (.t 31)]), qI 33 (.mv (.t 6)), qI 34 (.bin .eql .other (.t 33) (.c (.int .i64 1))), qI 4 (.mv (.t 32)), qI 5 (.mv (.t 34))])
  .ret))))⟩
theorem cf199 : cF Tryz.prog Tryz.f199 = some if199 := by kernel_rfl
def if200 : IFn := ⟨[0, 1], [(.tmp 4)], (.seq (.region [0, 1] [qI 4 (.mv (.c (.int .i64 0)))])
  (.seq (.region [4] [qI 5 (.mv (.t 0)), qI 6 (.mv (.t 1)), qI 7 (.bin .rem .other (.t 5) (.t 6)), qI 8 (.mv (.t 1)), qI 9 (.bin .add .other (.t 7) (.t 8)), qI 10 (.mv (.t 1)), qI 11 (.bin .rem .other (.t 9) (.t 10)), qI 4 (.mv (.t 11))])
  .ret))⟩
theorem cf200 : cF Tryz.prog Tryz.f200 = some if200 := by kernel_rfl
def if201 : IFn := ⟨[0], [(.tmp 2)], (.seq (.region [1] [eI 1 (.box (.t 0)), qI 2 (.mv (.c .nils))])
  (.seq (.region [2] [qI 3 (.fieldAddr 1 (.t 1)), qI 4 (.load false 1 (.t 3)), qI 5 (.len (.t 4)), eI 6 (.makeSl 1 8 [(.int .i64 0)] (.t 5) (.t 5)), qI 2 (.mv (.t 6))])
  .ret))⟩
theorem cf201 : cF Tryz.prog Tryz.f201 = some if201 := by kernel_rfl
def if202 : IFn := ⟨[0, 1], [(.tmp 4)], (.seq (.region [1, 2] [eI 2 (.box (.t 0)), qI 4 (.mv (.c (.int .i64 0)))])
  (.seq (.region [1, 2, 5] [qI 5 (.mv (.c (.int .i64 1)))])
  (.seq (.block 0 (.loop [1, 2, 5] (.seq (.seq (.region [1, 2, 5, 8] [qI 6 (.mv (.t 1)), eI 7 (.call 119 [(.t 6)]), qI 8 (.un .not (.t 7))])
  (.cond (.t 8) .skip (.exit 0)))
  (.block 1 (.seq (.region [1, 2, 5] [qI 9 (.load true 3 (.t 2)), qI 10 (.fieldAddr 0 (.t 2)), qI 11 (.load false 1 (.t 10)), qI 12 (.mv (.t 1)), qI 13 (.mv (.t 1)), eI 14 (.call 105 [(.t 9), (.t 11), (.t 12), (.c (.int .i64 0)), (.t 13)]), qI 1 (.mv (.t 14))])
  (.region [1, 2, 5] [qI 15 (.mv (.t 5)), qI 16 (.fieldAddr 0 (.t 2)), qI 17 (.load false 1 (.t 16)), qI 18 (.bin .mul .other (.t 15) (.t 17)), qI 5 (.mv (.t 18))]))))))
  (.seq (.region [4] [qI 19 (.mv (.t 5)), qI 4 (.mv (.t 19))])
  .ret))))⟩
theorem cf202 : cF Tryz.prog Tryz.f202 = some if202 := by kernel_rfl
def if203 : IFn := ⟨[0, 1], [(.tmp 4)], (.seq (.region [0, 1] [qI 4 (.mv (.c (.int .i64 0)))])
  (.seq (.region [1, 5] [qI 6 (.mv (.t 0)), qI 7 (.mv (.t 1)), qI 8 (.bin .rem .other (.t 6) (.t 7)), qI 5 (.mv (.t 8))])
  (.seq (.seq (.region [1, 5, 10] [qI 9 (.mv (.t 5)), qI 10 (.bin .lss .other (.t 9) (.c (.int .i64 0)))])
  (.cond (.t 10) (.region [5] [qI 11 (.mv (.t 5)), qI 12 (.mv (.t 1)), qI 13 (.bin .add .other (.t 11) (.t 12)), qI 5 (.mv (.t 13))]) .skip))
  (.seq (.region [4] [qI 14 (.mv (.t 5)), qI 4 (.mv (.t 14))])
  .ret))))⟩
theorem cf203 : cF Tryz.prog Tryz.f203 = some if203 := by kernel_rfl
def if204 : IFn := ⟨[0, 1], [(.tmp 4)], (.seq (.region [1, 2] [eI 2 (.box (.t 0)), qI 4 (.mv (.c .nils))])
  (.seq (.region [1, 2, 5] [qI 7 (.load true 3 (.t 2)), eI 8 (.call 201 [(.t 7)]), qI 5 (.mv (.t 8))])
  (.seq (.seq (.region [1, 2, 5, 6] [qI 6 (.mv (.c (.int .i64 0)))])
  (.block 0 (.loop [1, 2, 5, 6] (.seq (.seq (.region [1, 2, 5, 6, 12] [qI 9 (.mv (.t 6)), qI 10 (.mv (.t 1)), qI 11 (.len (.t 10)), qI 12 (.bin .lss .other (.t 9) (.t 11))])
  (.cond (.t 12) .skip (.exit 0)))
  (.seq (.block 1 (.draw [1, 2, 5, 6] [] [qD 15 (.load true 3 (.t 2)) 0, qD 16 (.mv (.t 5)) 1, qD 17 (.mv (.t 1)) 2, qD 18 (.mv (.t 6)) 3, qD 19 (.indexAddr 1 (.t 17) (.t 18)) 4, qD 20 (.load false 1 (.t 19)) 5, eD 21 (.call 100 [(.t 15), (.t 16), (.t 20)]) 6 [], qD 5 (.mv (.t 21)) 7]))
  (.region [1, 2, 5, 6] [qI 13 (.mv (.t 6)), qI 14 (.bin .add .other (.t 13) (.c (.int .i64 1))), qI 6 (.mv (.t 14))]))))))
  (.seq (.region [4] [qI 22 (.mv (.t 5)), qI 4 (.mv (.t 22))])
  .ret))))⟩
theorem cf204 : cF Tryz.prog Tryz.f204 = some if204 := by kernel_rfl
def if205 : IFn := ⟨[0, 1], [(.tmp 4)], (.seq (.region [1, 2] [eI 2 (.box (.t 0)), qI 4 (.mv (.c .nils))])
  (.seq (.region [4] [qI 5 (.load true 3 (.t 2)), qI 6 (.mv (.t 1)), qI 7 (.mv (.t 1)), eI 8 (.call 105 [(.t 5), (.c (.int .i64 (-1))), (.t 6), (.c (.int .i64 0)), (.t 7)]), qI 4 (.mv (.t 8))])
  .ret))⟩
theorem cf205 : cF Tryz.prog Tryz.f205 = some if205 := by kernel_rfl
def if206 : IFn := ⟨[0], [(.cell 2 true 3)], (.seq (.region [0, 2] [eI 2 (.alloc [(.int .i64 0), .nils, .nils])])
  (.seq (.region [0, 2, 3] [qI 6 (.mv (.t 0)), eI 7 (.call 271 [(.t 6)]), eI 3 (.alloc [(.int .i64 0), .nils, .nils]), nI (.store 3 (.t 3) (.t 7))])
  (.seq (.region [0, 2, 3, 4] [qI 8 (.fieldAddr 1 (.t 3)), qI 9 (.load false 1 (.t 8)), qI 10 (.len (.t 9)), qI 4 (.mv (.t 10))])
  (.seq (.region [0, 2, 3, 5] [qI 11 (.mv (.t 0)), qI 12 (.mv (.t 4)), eI 13 (.call 230 [(.t 11), (.t 12)]), qI 5 (.mv (.t 13))])
  (.seq (.seq (.region [0, 2, 3, 5, 15] [qI 14 (.mv (.t 0)), eI 15 (.call 230 [(.t 14), (.c (.int .i64 24))])])
  (.block 0 (.seq (.region [0, 2, 3, 5, 15, 16] [qI 17 (.bin .eql .other (.t 15) (.c (.int .i64 0))), qI 16 (.mv (.t 17))])
  (.cond (.t 16) (.region [2, 3] [eI 18 (.buildSl 1 5 [(.int .i64 0)] [(0, 1, (.c (.int .i64 1))), (1, 1, (.c (.int .i64 4))), (2, 1, (.c (.int .i64 11))), (3, 1, (.c (.int .i64 7))), (4, 1, (.c (.int .i64 2)))]), qI 19 (.mv (.t 0)), eI 20 (.call 230 [(.t 19), (.c (.int .i64 5))]), qI 21 (.indexAddr 1 (.t 18) (.t 20)), qI 22 (.load false 1 (.t 21)), qI 23 (.fieldAddr 0 (.t 3)), nI (.store 1 (.t 23) (.t 22))]) (.seq (.region [0, 2, 3, 5, 15, 24] [qI 25 (.bin .eql .other (.t 15) (.c (.int .i64 1))), qI 24 (.mv (.t 25))])
  (.cond (.t 24) (.draw [2, 3] [] [qD 26 (.fieldAddr 1 (.t 3)) 0, qD 27 (.load false 1 (.t 26)) 1, qD 28 (.mv (.t 5)) 2, qD 29 (.mv (.t 0)) 3, qD 30 (.load true 3 (.t 3)) 4, qD 31 (.mv (.t 5)) 5, qD 32 (.bin .add .other (.t 31) (.c (.int .i64 1))) 6, eD 33 (.call 272 [(.t 29), (.t 30), (.t 32)]) 7 [1], qD 34 (.indexAddr 1 (.t 27) (.t 28)) 8, ⟨nI (.store 1 (.t 34) (.t 33)), 9, []⟩]) (.seq (.region [0, 2, 3, 5, 15, 35] [qI 36 (.bin .eql .other (.t 15) (.c (.int .i64 2))), qI 35 (.mv (.t 36))])
  (.cond (.t 35) (.draw [2, 3] [] [qD 37 (.fieldAddr 1 (.t 3)) 0, qD 38 (.load false 1 (.t 37)) 1, qD 39 (.mv (.t 5)) 2, qD 40 (.mv (.t 0)) 3, qD 41 (.load true 3 (.t 3)) 4, qD 42 (.mv (.t 5)) 5, eD 43 (.call 272 [(.t 40), (.t 41), (.t 42)]) 6 [1], qD 44 (.indexAddr 1 (.t 38) (.t 39)) 7, ⟨nI (.store 1 (.t 44) (.t 43)), 8, []⟩]) (.seq (.region [0, 2, 3, 5, 15, 45] [qI 46 (.bin .eql .other (.t 15) (.c (.int .i64 3))), qI 45 (.mv (.t 46))])
  (.cond (.t 45) (.seq (.region [0, 2, 3, 5, 53] [qI 47 (.fieldAddr 2 (.t 3)), qI 48 (.load false 1 (.t 47)), qI 49 (.mv (.t 5)), qI 50 (.indexAddr 1 (.t 48) (.t 49)), qI 51 (.load false 1 (.t 50)), qI 52 (.len (.t 51)), qI 53 (.bin .gtr .other (.t 52) (.c (.int .i64 0)))])
  (.cond (.t 53) (.draw [2, 3] [] [qD 54 (.fieldAddr 2 (.t 3)) 0, qD 55 (.load false 1 (.t 54)) 1, qD 56 (.mv (.t 5)) 2, qD 57 (.indexAddr 1 (.t 55) (.t 56)) 3, qD 58 (.load false 1 (.t 57)) 4, qD 59 (.mv (.t 0)) 5, qD 60 (.load true 3 (.t 3)) 6, qD 61 (.mv (.t 5)) 7, qD 62 (.bin .add .other (.t 61) (.c (.int .i64 2))) 8, eD 63 (.call 272 [(.t 59), (.t 60), (.t 62)]) 9 [1, 4], qD 64 (.indexAddr 1 (.t 58) (.c (.int .i64 0))) 10, ⟨nI (.store 1 (.t 64) (.t 63)), 11, []⟩]) .skip)) (.seq (.region [2, 3, 15, 65] [qI 66 (.bin .eql .other (.t 15) (.c (.int .i64 4))), qI 65 (.mv (.t 66))])
  (.cond (.t 65) (.region [2, 3] [qI 67 (.fieldAddr 2 (.t 3)), qI 68 (.load false 1 (.t 67)), qI 69 (.slice 1 (.t 68) (some (.c (.int .i64 1))) none none), qI 70 (.fieldAddr 2 (.t 3)), nI (.store 1 (.t 70) (.t 69))]) (.seq (.region [2, 3, 71] [qI 72 (.bin .eql .other (.t 15) (.c (.int .i64 5))), qI 71 (.mv (.t 72))])
  (.cond (.t 71) (.region [2, 3] [qI 73 (.build [(.int .i64 0), .nils, .nils] [(0, 1, (.c (.int .i64 3)))]), nI (.store 3 (.t 3) (.t 73))]) .skip))))))))))))))
  (.seq (.region [2] [qI 74 (.load true 3 (.t 3)), nI (.store 3 (.t 2) (.t 74))])
  .ret))))))⟩
theorem cf206 : cF Tryz.prog Tryz.f206 = some if206 := by kernel_rfl
def if208 : IFn := ⟨[0, 1], [(.tmp 4)], (.seq (.region [0, 1] [qI 4 (.mv (.c (.bool false)))])
  (.seq (.region [4] [qI 5 (.mv (.t 0)), qI 6 (.mv (.t 1)), eI 7 (.call 273 [(.t 5), (.t 6), (.c (.clo 226 [] []))]), qI 4 (.mv (.t 7))])
  .ret))⟩
theorem cf208 : cF Tryz.prog Tryz.f208 = some if208 := by kernel_rfl
def if210 : IFn := ⟨[0, 1, 2], [(.tmp 6)], (.seq (.region [0, 1, 2] [qI 6 (.mv (.c .nils))])
  (.seq (.region [0, 1, 7] [qI 10 (.mv (.t 2)), eI 11 (.call 198 [(.t 10)]), qI 7 (.mv (.t 11))])
  (.seq (.seq (.region [0, 1, 7, 13, 14, 15] [qI 12 (.mv (.t 1)), eI 13 (.call 223 [(.t 12)]), qI 14 (.len (.t 13)), qI 15 (.mv (.c (.int .i64 0)))])
  (.block 0 (.loop [0, 1, 7, 13, 14, 15] (.seq (.region [0, 1, 7, 13, 14, 15, 16] [qI 16 (.bin .lss .other (.t 15) (.t 14))])
  (.seq (.cond (.t 16) .skip (.exit 0))
  (.seq (.block 1 (.seq (.region [0, 1, 7, 8, 9, 13, 14, 15] [qI 17 (.mv (.t 15)), qI 18 (.indexAddr 1 (.t 13) (.t 15)), qI 19 (.load false 1 (.t 18)), qI 8 (.mv (.t 17)), qI 9 (.mv (.t 19))])
  (.draw [0, 1, 7, 13, 14, 15] [] [qD 20 (.mv (.t 0)) 0, qD 21 (.mv (.t 7)) 1, qD 22 (.mv (.t 0)) 2, qD 23 (.mv (.t 7)) 3, qD 24 (.mv (.t 9)) 4, qD 25 (.indexAddr 1 (.t 23) (.t 24)) 5, qD 26 (.load false 1 (.t 25)) 6, qD 27 (.un .neg (.t 26)) 7, qD 28 (.mv (.t 1)) 8, qD 29 (.mv (.t 8)) 9, qD 30 (.indexAddr 1 (.t 28) (.t 29)) 10, qD 31 (.load false 1 (.t 30)) 11, eD 32 (.call 102 [(.t 22), (.t 27), (.t 31)]) 12 [], eD 33 (.call 114 [(.t 20), (.t 21), (.t 32)]) 13 [], qD 7 (.mv (.t 33)) 14])))
  (.region [0, 1, 7, 13, 14, 15] [qI 34 (.bin .add .other (.t 15) (.c (.int .i64 1))), qI 15 (.mv (.t 34))])))))))
  (.seq (.region [6] [qI 35 (.mv (.t 7)), qI 6 (.mv (.t 35))])
  .ret))))⟩
theorem cf210 : cF Tryz.prog Tryz.f210 = some if210 := by kernel_rfl
def if211 : IFn := ⟨[0, 1], [(.tmp 4)], (.seq (.region [0, 1] [qI 4 (.mv (.c .nils))])
  (.seq (.region [1, 5] [qI 6 (.mv (.t 0)), eI 7 (.makeSl 1 8 [(.int .i64 0)] (.t 6) (.t 6)), qI 5 (.mv (.t 7))])
  (.seq (.region [5] [qI 8 (.mv (.t 5)), qI 9 (.mv (.t 1)), qI 10 (.indexAddr 1 (.t 8) (.t 9)), nI (.store 1 (.t 10) (.c (.int .i64 1)))])
  (.seq (.region [4] [qI 11 (.mv (.t 5)), qI 4 (.mv (.t 11))])
  .ret))))⟩
theorem cf211 : cF Tryz.prog Tryz.f211 = some if211 := by kernel_rfl
def if212 : IFn := ⟨[0], [(.tmp 2)], (.seq (.region [1] [eI 1 (.box (.t 0)), qI 2 (.mv (.c .nils))])
  (.seq (.region [1, 3] [eI 5 (.buildSl 1 0 [.nils] []), qI 3 (.mv (.t 5))])
  (.seq (.seq (.region [1, 3, 4] [qI 4 (.mv (.c (.int .i64 0)))])
  (.block 0 (.loop [1, 3, 4] (.seq (.seq (.region [1, 3, 4, 10] [qI 6 (.mv (.t 4)), qI 7 (.fieldAddr 1 (.t 1)), qI 8 (.load false 1 (.t 7)), qI 9 (.len (.t 8)), qI 10 (.bin .lss .other (.t 6) (.t 9))])
  (.cond (.t 10) .skip (.exit 0)))
  (.seq (.block 1 (.region [1, 3, 4] [qI 13 (.mv (.t 3)), qI 14 (.load true 3 (.t 1)), qI 15 (.mv (.t 4)), eI 16 (.call 231 [(.t 14), (.t 15)]), eI 17 (.buildSl 1 1 [.nils] [(0, 1, (.t 16))]), eI 18 (.append 1 24 (.t 13) (.t 17)), qI 3 (.mv (.t 18))]))
  (.region [1, 3, 4] [qI 11 (.mv (.t 4)), qI 12 (.bin .add .other (.t 11) (.c (.int .i64 1))), qI 4 (.mv (.t 12))]))))))
  (.seq (.region [2] [qI 19 (.mv (.t 3)), qI 2 (.mv (.t 19))])
  .ret))))⟩
theorem cf212 : cF Tryz.prog Tryz.f212 = some if212 := by kernel_rfl
def if213 : IFn := ⟨[0], [(.tmp 2)], (.seq (.region [0] [qI 2 (.mv (.c .nils))])
  (.seq (.seq (.region [0, 4] [qI 3 (.mv (.t 0)), qI 4 (.bin .eql .slice (.t 3) (.c .nils))])
  (.cond (.t 4) (.seq (.region [2] [qI 2 (.mv (.c .nils))])
  .ret) .skip))
  (.seq (.region [2] [eI 5 (.buildSl 1 0 [.nils] []), qI 6 (.mv (.t 0)), eI 7 (.append 1 24 (.t 5) (.t 6)), qI 2 (.mv (.t 7))])
  .ret)))⟩
theorem cf213 : cF Tryz.prog Tryz.f213 = some if213 := by kernel_rfl
def if214 : IFn := ⟨[0], [(.tmp 2)], (.seq (.region [0] [qI 2 (.mv (.c (.int .i64 0)))])
  (.seq (.seq (.region [0, 5, 6, 7] [qI 5 (.mv (.t 0)), qI 6 (.len (.t 5)), qI 7 (.mv (.c (.int .i64 0)))])
  (.block 0 (.loop [0, 5, 6, 7] (.seq (.region [0, 5, 6, 7, 8] [qI 8 (.bin .lss .other (.t 7) (.t 6))])
  (.seq (.cond (.t 8) .skip (.exit 0))
  (.seq (.block 1 (.seq (.region [0, 3, 4, 5, 6, 7] [qI 9 (.mv (.t 7)), qI 10 (.indexAddr 1 (.t 5) (.t 7)), qI 11 (.load false 1 (.t 10)), qI 3 (.mv (.t 9)), qI 4 (.mv (.t 11))])
  (.seq (.region [0, 3, 5, 6, 7, 13] [qI 12 (.mv (.t 4)), qI 13 (.bin .neq .other (.t 12) (.c (.int .i64 0)))])
  (.cond (.t 13) (.seq (.region [2] [qI 14 (.mv (.t 3)), qI 2 (.mv (.t 14))])
  .ret) .skip))))
  (.region [0, 5, 6, 7] [qI 15 (.bin .add .other (.t 7) (.c (.int .i64 1))), qI 7 (.mv (.t 15))])))))))
  (.seq (.region [2] [qI 16 (.mv (.t 0)), qI 17 (.len (.t 16)), qI 2 (.mv (.t 17))])
  .ret)))⟩
theorem cf214 : cF Tryz.prog Tryz.f214 = some if214 := by kernel_rfl
def if219 : IFn := ⟨[0, 1], [(.tmp 4)], (.seq (.region [0, 1] [qI 4 (.mv (.c (.int .i64 0)))])
  (.seq (.region [0, 1, 5] [qI 5 (.mv (.c (.int .i64 1)))])
  (.seq (.seq (.region [0, 1, 5, 6] [qI 6 (.mv (.c (.int .i64 0)))])
  (.block 0 (.loop [0, 1, 5, 6] (.seq (.seq (.region [0, 1, 5, 6, 13] [qI 7 (.mv (.t 6)), qI 8 (.mv (.t 1)), qI 9 (.bin .lss .other (.t 7) (.t 8)), qI 10 (.mv (.t 9)), ⟨(some 11), .mv (.t 5), true, (some (10, true))⟩, ⟨(some 12), .bin .leq .other (.t 11) (.c (.int .i64 729)), true, (some (10, true))⟩, qI 13 (.pick (.t 10) (.t 12) (.c (.bool false)))])
  (.cond (.t 13) .skip (.exit 0)))
  (.seq (.block 1 (.region [0, 1, 5, 6] [qI 16 (.mv (.t 5)), qI 17 (.mv (.t 0)), qI 18 (.bin .mul .other (.t 16) (.t 17)), qI 5 (.mv (.t 18))]))
  (.region [0, 1, 5, 6] [qI 14 (.mv (.t 6)), qI 15 (.bin .add .other (.t 14) (.c (.int .i64 1))), qI 6 (.mv (.t 15))]))))))
  (.seq (.region [4] [qI 19 (.mv (.t 5)), qI 4 (.mv (.t 19))])
  .ret))))⟩
theorem cf219 : cF Tryz.prog Tryz.f219 = some if219 := by kernel_rfl
def if223 : IFn := ⟨[0], [(.tmp 2)], (.seq (.region [0] [qI 2 (.mv (.c .nils))])
  (.seq (.region [0, 3] [qI 3 (.mv (.c .nils))])
  (.seq (.seq (.region [3, 6, 7, 8] [qI 6 (.mv (.t 0)), qI 7 (.len (.t 6)), qI 8 (.mv (.c (.int .i64 0)))])
  (.block 0 (.loop [3, 6, 7, 8] (.seq (.region [3, 6, 7, 8, 9] [qI 9 (.bin .lss .other (.t 8) (.t 7))])
  (.seq (.cond (.t 9) .skip (.exit 0))
  (.seq (.block 1 (.seq (.region [3, 5, 6, 7, 8] [qI 10 (.indexAddr 1 (.t 6) (.t 8)), qI 11 (.load false 1 (.t 10)), qI 5 (.mv (.t 11))])
  (.region [3, 6, 7, 8] [qI 12 (.mv (.t 3)), qI 13 (.mv (.t 5)), eI 14 (.call 275 [(.t 13), (.c (.clo 276 [] []))]), eI 15 (.buildSl 1 1 [(.int .i64 0)] [(0, 1, (.t 14))]), eI 16 (.append 1 8 (.t 12) (.t 15)), qI 3 (.mv (.t 16))])))
  (.region [3, 6, 7, 8] [qI 17 (.bin .add .other (.t 8) (.c (.int .i64 1))), qI 8 (.mv (.t 17))])))))))
  (.seq (.region [2] [qI 18 (.mv (.t 3)), qI 2 (.mv (.t 18))])
  .ret))))⟩
theorem cf223 : cF Tryz.prog Tryz.f223 = some if223 := by kernel_rfl
def if225 : IFn := ⟨[0], [(.tmp 2)], (.seq (.region [0] [qI 2 (.mv (.c (.bool false)))])
  (.seq (.region [2] [qI 3 (.mv (.t 0)), qI 4 (.bin .eql .other (.t 3) (.c (.int .i64 2))), qI 5 (.mv (.t 4)), ⟨(some 6), .mv (.t 0), true, (some (5, false))⟩, ⟨(some 7), .bin .eql .other (.t 6) (.c (.int .i64 3)), true, (some (5, false))⟩, qI 8 (.pick (.t 5) (.c (.bool true)) (.t 7)), qI 9 (.mv (.t 8)), ⟨(some 10), .mv (.t 0), true, (some (9, false))⟩, ⟨(some 11), .bin .eql .other (.t 10) (.c (.int .i64 5)), true, (some (9, false))⟩, qI 12 (.pick (.t 9) (.c (.bool true)) (.t 11)), qI 13 (.mv (.t 12)), ⟨(some 14), .mv (.t 0), true, (some (13, false))⟩, ⟨(some 15), .bin .eql .other (.t 14) (.c (.int .i64 7)), true, (some (13, false))⟩, qI 16 (.pick (.t 13) (.c (.bool true)) (.t 15)), qI 2 (.mv (.t 16))])
  .ret))⟩
theorem cf225 : cF Tryz.prog Tryz.f225 = some if225 := by kernel_rfl
def if226 : IFn := ⟨[0, 1], [(.tmp 4)], (.seq (.region [0, 1] [qI 4 (.mv (.c (.bool false)))])
  (.seq (.seq (.region [0, 1, 10] [qI 6 (.mv (.t 0)), qI 7 (.len (.t 6)), qI 8 (.mv (.t 1)), qI 9 (.len (.t 8)), qI 10 (.bin .neq .other (.t 7) (.t 9))])
  (.cond (.t 10) (.seq (.region [4] [qI 4 (.mv (.c (.bool false)))])
  .ret) .skip))
  (.seq (.seq (.region [0, 1, 12, 13] [qI 11 (.mv (.t 0)), qI 12 (.len (.t 11)), qI 13 (.mv (.c (.int .i64 0)))])
  (.block 0 (.loop [0, 1, 12, 13] (.seq (.region [0, 1, 12, 13, 14] [qI 14 (.bin .lss .other (.t 13) (.t 12))])
  (.seq (.cond (.t 14) .skip (.exit 0))
  (.seq (.block 1 (.seq (.region [0, 1, 5, 12, 13] [qI 15 (.mv (.t 13)), qI 5 (.mv (.t 15))])
  (.seq (.draw [0, 1, 12, 13, 24] [] [qD 16 (.mv (.t 0)) 0, qD 17 (.mv (.t 5)) 1, qD 18 (.indexAddr 1 (.t 16) (.t 17)) 2, qD 19 (.load false 1 (.t 18)) 3, qD 20 (.mv (.t 1)) 4, qD 21 (.mv (.t 5)) 5, qD 22 (.indexAddr 1 (.t 20) (.t 21)) 6, qD 23 (.load false 1 (.t 22)) 7, qD 24 (.bin .neq .other (.t 19) (.t 23)) 8])
  (.cond (.t 24) (.seq (.region [4] [qI 4 (.mv (.c (.bool false)))])
  .ret) .skip))))
  (.region [0, 1, 12, 13] [qI 25 (.bin .add .other (.t 13) (.c (.int .i64 1))), qI 13 (.mv (.t 25))])))))))
  (.seq (.region [4] [qI 4 (.mv (.c (.bool true)))])
  .ret))))⟩
theorem cf226 : cF Tryz.prog Tryz.f226 = some if226 := by kernel_rfl
def if227 : IFn := ⟨[0, 1, 2], [(.tmp 6)], (.seq (.region [0, 1, 2] [qI 6 (.mv (.c (.bool false)))])
  (.seq (.seq (.region [0, 1, 12] [qI 9 (.mv (.t 0)), qI 10 (.len (.t 9)), qI 11 (.mv (.t 2)), qI 12 (.bin .neq .other (.t 10) (.t 11))])
  (.cond (.t 12) (.seq (.region [6] [qI 6 (.mv (.c (.bool false)))])
  .ret) .skip))
  (.seq (.seq (.region [1, 13, 14, 15] [qI 13 (.mv (.t 0)), qI 14 (.len (.t 13)), qI 15 (.mv (.c (.int .i64 0)))])
  (.block 0 (.loop [1, 13, 14, 15] (.seq (.region [1, 13, 14, 15, 16] [qI 16 (.bin .lss .other (.t 15) (.t 14))])
  (.seq (.cond (.t 16) .skip (.exit 0))
  (.seq (.block 1 (.seq (.region [1, 8, 13, 14, 15] [qI 17 (.indexAddr 1 (.t 13) (.t 15)), qI 18 (.load false 1 (.t 17)), qI 8 (.mv (.t 18))])
  (.seq (.region [1, 13, 14, 15, 23] [qI 19 (.mv (.t 8)), qI 20 (.mv (.t 1)), qI 21 (.bin .sub .other (.t 20) (.c (.int .i64 1))), eI 22 (.call 107 [(.t 19), (.c (.int .i64 0)), (.t 21)]), qI 23 (.un .not (.t 22))])
  (.cond (.t 23) (.seq (.region [6] [qI 6 (.mv (.c (.bool false)))])
  .ret) .skip))))
  (.region [1, 13, 14, 15] [qI 24 (.bin .add .other (.t 15) (.c (.int .i64 1))), qI 15 (.mv (.t 24))])))))))
  (.seq (.region [6] [qI 6 (.mv (.c (.bool true)))])
  .ret))))⟩
theorem cf227 : cF Tryz.prog Tryz.f227 = some if227 := by kernel_rfl
def if228 : IFn := ⟨[0, 1, 2], [(.tmp 6)], (.seq (.region [1, 2, 3] [eI 3 (.box (.t 0)), qI 6 (.mv (.c .nils))])
  (.seq (.region [1, 3, 7] [qI 9 (.mv (.t 2)), eI 10 (.call 118 [(.t 9)]), qI 7 (.mv (.t 10))])
  (.seq (.seq (.region [1, 3, 7, 8] [qI 8 (.mv (.c (.int .i64 0)))])
  (.block 0 (.loop [1, 3, 7, 8] (.seq (.seq (.region [1, 3, 7, 8, 14] [qI 11 (.mv (.t 8)), qI 12 (.mv (.t 1)), qI 13 (.len (.t 12)), qI 14 (.bin .lss .other (.t 11) (.t 13))])
  (.cond (.t 14) .skip (.exit 0)))
  (.seq (.block 1 (.draw [1, 3, 7, 8] [] [qD 17 (.load true 3 (.t 3)) 0, qD 18 (.mv (.t 7)) 1, qD 19 (.mv (.t 7)) 2, qD 20 (.mv (.t 1)) 3, qD 21 (.mv (.t 8)) 4, qD 22 (.indexAddr 1 (.t 20) (.t 21)) 5, qD 23 (.load false 1 (.t 22)) 6, qD 28 (.mv (.t 1)) 11, qD 29 (.mv (.t 8)) 12, qD 30 (.indexAddr 1 (.t 28) (.t 29)) 13, qD 31 (.load false 1 (.t 30)) 14, eD 24 (.call 236 [(.t 23)]) 7 [0, 14], qD 25 (.indexAddr 1 (.t 19) (.t 24)) 8, qD 26 (.load false 1 (.t 25)) 9, qD 27 (.un .neg (.t 26)) 10, eD 32 (.call 105 [(.t 17), (.c (.int .i64 1)), (.t 18), (.t 27), (.t 31)]) 15 [], qD 7 (.mv (.t 32)) 16]))
  (.region [1, 3, 7, 8] [qI 15 (.mv (.t 8)), qI 16 (.bin .add .other (.t 15) (.c (.int .i64 1))), qI 8 (.mv (.t 16))]))))))
  (.seq (.region [6] [qI 33 (.mv (.t 7)), qI 6 (.mv (.t 33))])
  .ret))))⟩
theorem cf228 : cF Tryz.prog Tryz.f228 = some if228 := by kernel_rfl
def if230 : IFn := ⟨[0, 1], [(.tmp 4)], (.seq (.region [0, 1] [qI 4 (.mv (.c (.int .i64 0)))])
  (.seq (.seq (.region [0, 1, 7] [qI 6 (.mv (.t 1)), qI 7 (.bin .leq .other (.t 6) (.c (.int .i64 1)))])
  (.cond (.t 7) (.seq (.region [4] [qI 4 (.mv (.c (.int .i64 0)))])
  .ret) .skip))
  (.seq (.region [0, 1] [qI 8 (.mv (.t 0)), qI 9 (.mv (.t 0)), qI 10 (.nilCheck (.t 9)), qI 11 (.fieldAddr 2 (.t 10)), qI 12 (.load false 1 (.t 11)), qI 13 (.bin .mul .other (.t 12) (.c (.int .i64 48271))), qI 14 (.bin .add .other (.t 13) (.c (.int .i64 71))), qI 15 (.bin .rem .other (.t 14) (.c (.int .i64 2147483647))), qI 16 (.nilCheck (.t 8)), qI 17 (.fieldAddr 2 (.t 16)), nI (.store 1 (.t 17) (.t 15))])
  (.seq (.region [0, 1, 5] [qI 18 (.mv (.t 0)), qI 19 (.nilCheck (.t 18)), qI 20 (.fieldAddr 2 (.t 19)), qI 21 (.load false 1 (.t 20)), qI 22 (.bin .quo .other (.t 21) (.c (.int .i64 47))), qI 5 (.mv (.t 22))])
  (.seq (.seq (.draw [0, 1, 5, 32] [] [qD 23 (.mv (.t 0)) 0, qD 24 (.nilCheck (.t 23)) 1, qD 25 (.fieldAddr 1 (.t 24)) 2, qD 26 (.load false 1 (.t 25)) 3, qD 27 (.mv (.t 0)) 4, qD 28 (.nilCheck (.t 27)) 5, qD 29 (.fieldAddr 0 (.t 28)) 6, qD 30 (.load false 1 (.t 29)) 7, qD 31 (.len (.t 30)) 8, qD 32 (.bin .lss .other (.t 26) (.t 31)) 9])
  (.cond (.t 32) (.seq (.draw [0, 1, 5] [] [qD 33 (.mv (.t 5)) 0, qD 34 (.mv (.t 0)) 1, qD 35 (.nilCheck (.t 34)) 2, qD 36 (.fieldAddr 0 (.t 35)) 3, qD 37 (.load false 1 (.t 36)) 4, qD 38 (.mv (.t 0)) 5, qD 39 (.nilCheck (.t 38)) 6, qD 40 (.fieldAddr 1 (.t 39)) 7, qD 41 (.load false 1 (.t 40)) 8, qD 42 (.indexAddr 1 (.t 37) (.t 41)) 9, qD 43 (.load false 1 (.t 42)) 10, qD 44 (.conv .i64 (.t 43)) 11, qD 45 (.bin .add .other (.t 33) (.t 44)) 12, qD 5 (.mv (.t 45)) 13])
  (.seq (.region [0, 1, 5] [qI 46 (.mv (.t 0)), qI 47 (.nilCheck (.t 46)), qI 48 (.fieldAddr 1 (.t 47)), qI 49 (.load false 1 (.t 48)), qI 50 (.bin .add .other (.t 49) (.c (.int .i64 1))), qI 51 (.nilCheck (.t 46)), qI 52 (.fieldAddr 1 (.t 51)), nI (.store 1 (.t 52) (.t 50))])
  (.seq (.region [0, 1, 5, 62] [qI 53 (.mv (.t 1)), qI 54 (.bin .leq .other (.t 53) (.c (.int .i64 256))), qI 55 (.mv (.t 54)), ⟨(some 56), .mv (.t 0), true, (some (55, true))⟩, ⟨(some 57), .nilCheck (.t 56), true, (some (55, true))⟩, ⟨(some 58), .fieldAddr 1 (.t 57), true, (some (55, true))⟩, ⟨(some 59), .load false 1 (.t 58), true, (some (55, true))⟩, ⟨(some 60), .bin .rem .other (.t 59) (.c (.int .i64 2)), true, (some (55, true))⟩, ⟨(some 61), .bin .eql .other (.t 60) (.c (.int .i64 0)), true, (some (55, true))⟩, qI 62 (.pick (.t 55) (.t 61) (.c (.bool false)))])
  (.cond (.t 62) (.draw [1, 5] [] [qD 63 (.mv (.t 0)) 0, qD 64 (.nilCheck (.t 63)) 1, qD 65 (.fieldAddr 0 (.t 64)) 2, qD 66 (.load false 1 (.t 65)) 3, qD 67 (.mv (.t 0)) 4, qD 68 (.nilCheck (.t 67)) 5, qD 69 (.fieldAddr 1 (.t 68)) 6, qD 70 (.load false 1 (.t 69)) 7, qD 71 (.bin .sub .other (.t 70) (.c (.int .i64 1))) 8, qD 72 (.indexAddr 1 (.t 66) (.t 71)) 9, qD 73 (.load false 1 (.t 72)) 10, qD 74 (.conv .i64 (.t 73)) 11, qD 5 (.mv (.t 74)) 12]) .skip)))) .skip))
  (.seq (.region [4] [qI 75 (.mv (.t 5)), qI 76 (.mv (.t 1)), qI 77 (.bin .rem .other (.t 75) (.t 76)), qI 4 (.mv (.t 77))])
  .ret))))))⟩
theorem cf230 : cF Tryz.prog Tryz.f230 = some if230 := by kernel_rfl
def if231 : IFn := ⟨[0, 1], [(.tmp 4)], (.seq (.region [1, 2] [eI 2 (.box (.t 0)), qI 4 (.mv (.c .nils))])
  (.seq (.region [1, 5] [qI 6 (.load true 3 (.t 2)), eI 7 (.call 201 [(.t 6)]), qI 5 (.mv (.t 7))])
  (.seq (.region [5] [qI 8 (.mv (.t 5)), qI 9 (.mv (.t 1)), qI 10 (.indexAddr 1 (.t 8) (.t 9)), nI (.store 1 (.t 10) (.c (.int .i64 1)))])
  (.seq (.region [4] [qI 11 (.mv (.t 5)), qI 4 (.mv (.t 11))])
  .ret))))⟩
theorem cf231 : cF Tryz.prog Tryz.f231 = some if231 := by kernel_rfl
def if233 : IFn := ⟨[0, 1], [(.tmp 4)], (.seq (.region [0, 1] [qI 4 (.mv (.c (.bool false)))])
  (.seq (.seq (.region [0, 1, 10] [qI 6 (.mv (.t 0)), qI 7 (.len (.t 6)), qI 8 (.mv (.t 1)), qI 9 (.len (.t 8)), qI 10 (.bin .neq .other (.t 7) (.t 9))])
  (.cond (.t 10) (.seq (.region [4] [qI 4 (.mv (.c (.bool false)))])
  .ret) .skip))
  (.seq (.seq (.region [0, 1, 5] [qI 5 (.mv (.c (.int .i64 0)))])
  (.block 0 (.loop [0, 1, 5] (.seq (.seq (.region [0, 1, 5, 14] [qI 11 (.mv (.t 5)), qI 12 (.mv (.t 0)), qI 13 (.len (.t 12)), qI 14 (.bin .lss .other (.t 11) (.t 13))])
  (.cond (.t 14) .skip (.exit 0)))
  (.seq (.block 1 (.seq (.draw [0, 1, 5, 25] [] [qD 17 (.mv (.t 0)) 0, qD 18 (.mv (.t 5)) 1, qD 19 (.indexAddr 1 (.t 17) (.t 18)) 2, qD 20 (.load false 1 (.t 19)) 3, qD 21 (.mv (.t 1)) 4, qD 22 (.mv (.t 5)) 5, qD 23 (.indexAddr 1 (.t 21) (.t 22)) 6, qD 24 (.load false 1 (.t 23)) 7, qD 25 (.bin .neq .other (.t 20) (.t 24)) 8])
  (.cond (.t 25) (.seq (.region [4] [qI 4 (.mv (.c (.bool false)))])
  .ret) .skip)))
  (.region [0, 1, 5] [qI 15 (.mv (.t 5)), qI 16 (.bin .add .other (.t 15) (.c (.int .i64 1))), qI 5 (.mv (.t 16))]))))))
  (.seq (.region [4] [qI 4 (.mv (.c (.bool true)))])
  .ret))))⟩
theorem cf233 : cF Tryz.prog Tryz.f233 = some if233 := by kernel_rfl
def if235 : IFn := ⟨[0, 1], [(.tmp 4)], (.seq (.region [0, 1] [qI 4 (.mv (.c (.int .i64 0)))])
  (.seq (.seq (.region [0, 1, 5] [qI 5 (.mv (.c (.int .i64 1)))])
  (.block 0 (.loop [0, 1, 5] (.seq (.seq (.region [0, 1, 5, 8] [qI 6 (.mv (.t 5)), qI 7 (.mv (.t 1)), qI 8 (.bin .lss .other (.t 6) (.t 7))])
  (.cond (.t 8) .skip (.exit 0)))
  (.seq (.block 1 (.seq (.region [0, 1, 5, 18] [qI 11 (.mv (.t 0)), qI 12 (.mv (.t 1)), eI 13 (.call 203 [(.t 11), (.t 12)]), qI 14 (.mv (.t 5)), qI 15 (.bin .mul .other (.t 13) (.t 14)), qI 16 (.mv (.t 1)), qI 17 (.bin .rem .other (.t 15) (.t 16)), qI 18 (.bin .eql .other (.t 17) (.c (.int .i64 1)))])
  (.cond (.t 18) (.seq (.region [4] [qI 19 (.mv (.t 5)), qI 4 (.mv (.t 19))])
  .ret) .skip)))
  (.region [0, 1, 5] [qI 9 (.mv (.t 5)), qI 10 (.bin .add .other (.t 9) (.c (.int .i64 1))), qI 5 (.mv (.t 10))]))))))
  (.seq (.region [4] [qI 4 (.mv (.c (.int .i64 0)))])
  .ret)))⟩
theorem cf235 : cF Tryz.prog Tryz.f235 = some if235 := by kernel_rfl
def if236 : IFn := ⟨[0], [(.tmp 2)], (.seq (.region [0] [qI 2 (.mv (.c (.int .i64 0)))])
  (.seq (.region [2] [qI 3 (.mv (.t 0)), eI 4 (.call 279 [(.t 3)]), qI 2 (.mv (.t 4))])
  .ret))⟩
theorem cf236 : cF Tryz.prog Tryz.f236 = some if236 := by kernel_rfl
def if237 : IFn := ⟨[0, 1], [(.tmp 4)], (.seq (.region [0, 1] [qI 4 (.mv (.c .nils))])
  (.seq (.region [0, 1, 5] [qI 5 (.mv (.c (.int .i64 0)))])
  (.seq (.block 0 (.loop [0, 1, 5] (.seq (.seq (.region [0, 1, 5, 20] [qI 7 (.mv (.t 5)), qI 8 (.mv (.t 0)), qI 9 (.len (.t 8)), qI 10 (.bin .lss .other (.t 7) (.t 9)), qI 11 (.mv (.t 10)), ⟨(some 12), .mv (.t 0), true, (some (11, true))⟩, ⟨(some 13), .mv (.t 5), true, (some (11, true))⟩, ⟨(some 14), .indexAddr 1 (.t 12) (.t 13), true, (some (11, true))⟩, ⟨(some 15), .load false 1 (.t 14), true, (some (11, true))⟩, ⟨(some 16), .call 236 [(.t 15)], false, (some (11, true))⟩, ⟨(some 17), .mv (.t 1), true, (some (11, true))⟩, ⟨(some 18), .call 236 [(.t 17)], false, (some (11, true))⟩, ⟨(some 19), .bin .lss .other (.t 16) (.t 18), true, (some (11, true))⟩, qI 20 (.pick (.t 11) (.t 19) (.c (.bool false)))])
  (.cond (.t 20) .skip (.exit 0)))
  (.block 1 (.region [0, 1, 5] [qI 21 (.mv (.t 5)), qI 22 (.bin .add .other (.t 21) (.c (.int .i64 1))), qI 5 (.mv (.t 22))])))))
  (.seq (.region [0, 1, 5, 6] [eI 23 (.buildSl 1 0 [.nils] []), qI 24 (.mv (.t 0)), qI 25 (.mv (.t 5)), qI 26 (.slice 1 (.t 24) none (some (.t 25)) none), eI 27 (.append 1 24 (.t 23) (.t 26)), qI 6 (.mv (.t 27))])
  (.seq (.region [0, 5, 6] [qI 28 (.mv (.t 6)), qI 29 (.mv (.t 1)), eI 30 (.buildSl 1 1 [.nils] [(0, 1, (.t 29))]), eI 31 (.append 1 24 (.t 28) (.t 30)), qI 6 (.mv (.t 31))])
  (.seq (.region [4] [qI 32 (.mv (.t 6)), qI 33 (.mv (.t 0)), qI 34 (.mv (.t 5)), qI 35 (.slice 1 (.t 33) (some (.t 34)) none none), eI 36 (.append 1 24 (.t 32) (.t 35)), qI 4 (.mv (.t 36))])
  .ret))))))⟩
theorem cf237 : cF Tryz.prog Tryz.f237 = some if237 := by kernel_rfl
def if242 : IFn := ⟨[0, 1], [(.tmp 4)], (.seq (.region [0, 1] [qI 4 (.mv (.c .nils))])
  (.seq (.region [1, 5] [qI 7 (.mv (.t 0)), eI 8 (.buildSl 1 1 [.nils] [(0, 1, (.t 7))]), qI 5 (.mv (.t 8))])
  (.block 0 (.loop [1, 5] (.block 1 (.seq (.region [1, 5, 6] [qI 9 (.mv (.t 1)), qI 10 (.mv (.t 5)), qI 11 (.mv (.t 5)), qI 12 (.len (.t 11)), qI 13 (.bin .sub .other (.t 12) (.c (.int .i64 1))), qI 14 (.indexAddr 1 (.t 10) (.t 13)), qI 15 (.load false 1 (.t 14)), eI 16 (.callV (.t 9) [(.t 15)]), qI 6 (.mv (.t 16))])
  (.seq (.seq (.region [1, 5, 6, 24] [qI 17 (.mv (.t 6)), qI 18 (.mv (.t 5)), qI 19 (.mv (.t 5)), qI 20 (.len (.t 19)), qI 21 (.bin .sub .other (.t 20) (.c (.int .i64 1))), qI 22 (.indexAddr 1 (.t 18) (.t 21)), qI 23 (.load false 1 (.t 22)), eI 24 (.call 208 [(.t 17), (.t 23)])])
  (.cond (.t 24) (.seq (.region [4] [qI 25 (.mv (.t 5)), qI 4 (.mv (.t 25))])
  .ret) .skip))
  (.region [1, 5] [qI 26 (.mv (.t 5)), qI 27 (.mv (.t 6)), eI 28 (.buildSl 1 1 [.nils] [(0, 1, (.t 27))]), eI 29 (.append 1 24 (.t 26) (.t 28)), qI 5 (.mv (.t 29))]))))))))⟩
theorem cf242 : cF Tryz.prog Tryz.f242 = some if242 := by kernel_rfl
def if243 : IFn := ⟨[0, 1], [(.tmp 3)], (.seq (.region [0, 1] [qI 3 (.mv (.c .nils))])
  (.seq (.draw [3] [] [qD 4 (.load false 1 (.t 1)) 0, qD 5 (.load false 1 (.t 1)) 1, qD 6 (.mv (.t 0)) 2, qD 7 (.load false 1 (.t 1)) 3, eD 8 (.call 129 [(.t 7)]) 4 [0, 1], eD 9 (.call 136 [(.t 5), (.t 6), (.t 8)]) 5 [0], eD 10 (.call 131 [(.t 4), (.t 9)]) 6 [], qD 3 (.mv (.t 10)) 7])
  .ret))⟩
theorem cf243 : cF Tryz.prog Tryz.f243 = some if243 := by kernel_rfl
def if244 : IFn := ⟨[0], [(.tmp 2)], (.seq (.region [1] [eI 1 (.box (.t 0)), qI 2 (.mv (.c (.int .i64 0)))])
  (.seq (.region [2] [qI 3 (.load true 3 (.t 1)), eI 4 (.call 283 [(.t 3)]), qI 5 (.len (.t 4)), qI 6 (.bin .sub .other (.t 5) (.c (.int .i64 1))), qI 2 (.mv (.t 6))])
  .ret))⟩
theorem cf244 : cF Tryz.prog Tryz.f244 = some if244 := by kernel_rfl
def if266 : IFn := ⟨[0], [(.cell 2 true 3)], (.seq (.region [0, 2] [eI 2 (.alloc [(.int .i64 0), .nils, .nils])])
  (.seq (.region [0, 2, 3] [qI 7 (.mv (.t 0)), eI 8 (.call 271 [(.t 7)]), eI 3 (.alloc [(.int .i64 0), .nils, .nils]), nI (.store 3 (.t 3) (.t 8))])
  (.seq (.seq (.region [0, 2, 3, 10] [qI 9 (.load true 3 (.t 3)), eI 10 (.call 158 [(.t 9)])])
  (.cond (.t 10) (.seq (.region [2] [qI 11 (.load true 3 (.t 3)), nI (.store 3 (.t 2) (.t 11))])
  .ret) .skip))
  (.seq (.region [0, 2, 3, 4] [qI 12 (.mv (.t 0)), eI 13 (.call 230 [(.t 12), (.c (.int .i64 2))]), qI 14 (.bin .add .other (.c (.int .i64 3)) (.t 13)), qI 4 (.mv (.t 14))])
  (.seq (.region [0, 2, 3, 4, 5] [eI 15 (.buildSl 1 2 [(.int .i64 0)] [(0, 1, (.c (.int .i64 3))), (1, 1, (.c (.int .i64 5)))]), qI 16 (.mv (.t 0)), eI 17 (.call 230 [(.t 16), (.c (.int .i64 2))]), qI 18 (.indexAddr 1 (.t 15) (.t 17)), qI 19 (.load false 1 (.t 18)), qI 5 (.mv (.t 19))])
  (.seq (.region [0, 2, 3, 4, 5] [qI 20 (.mv (.t 5)), qI 21 (.mv (.t 4)), eI 22 (.call 277 [(.t 20), (.t 21)]), nI (.store 3 (.t 3) (.t 22))])
  (.seq (.region [0, 2, 3, 4, 5, 6] [qI 23 (.load true 3 (.t 3)), qI 24 (.mv (.t 4)), qI 25 (.bin .sub .other (.t 24) (.c (.int .i64 1))), eI 26 (.call 231 [(.t 23), (.t 25)]), qI 6 (.mv (.t 26))])
  (.seq (.draw [0, 2, 3, 4, 5, 6] [] [qD 27 (.fieldAddr 2 (.t 3)) 0, qD 28 (.load false 1 (.t 27)) 1, qD 29 (.indexAddr 1 (.t 28) (.c (.int .i64 0))) 2, qD 30 (.load false 1 (.t 29)) 3, qD 31 (.load true 3 (.t 3)) 4, eD 32 (.call 231 [(.t 31), (.c (.int .i64 2))]) 5 [1, 3], qD 33 (.indexAddr 1 (.t 30) (.c (.int .i64 0))) 6, ⟨nI (.store 1 (.t 33) (.t 32)), 7, []⟩])
  (.seq (.seq (.region [0, 2, 3, 4, 6, 39] [qI 34 (.mv (.t 4)), qI 35 (.bin .eql .other (.t 34) (.c (.int .i64 4))), qI 36 (.mv (.t 35)), ⟨(some 37), .mv (.t 5), true, (some (36, true))⟩, ⟨(some 38), .bin .eql .other (.t 37) (.c (.int .i64 5)), true, (some (36, true))⟩, qI 39 (.pick (.t 36) (.t 38) (.c (.bool false)))])
  (.cond (.t 39) (.seq (.region [0, 2, 3, 4] [qI 40 (.fieldAddr 2 (.t 3)), qI 41 (.load false 1 (.t 40)), qI 42 (.indexAddr 1 (.t 41) (.c (.int .i64 0))), qI 43 (.load false 1 (.t 42)), qI 44 (.mv (.t 6)), qI 45 (.indexAddr 1 (.t 43) (.c (.int .i64 1))), nI (.store 1 (.t 45) (.t 44))])
  (.seq (.seq (.region [0, 2, 3, 4, 48] [qI 46 (.mv (.t 0)), eI 47 (.call 230 [(.t 46), (.c (.int .i64 2))]), qI 48 (.bin .eql .other (.t 47) (.c (.int .i64 0)))])
  (.cond (.t 48) (.draw [0, 2, 3, 4] [] [qD 49 (.fieldAddr 2 (.t 3)) 0, qD 50 (.load false 1 (.t 49)) 1, qD 51 (.indexAddr 1 (.t 50) (.c (.int .i64 1))) 2, qD 52 (.load false 1 (.t 51)) 3, qD 53 (.mv (.t 0)) 4, qD 54 (.load true 3 (.t 3)) 5, eD 55 (.call 272 [(.t 53), (.t 54), (.c (.int .i64 3))]) 6 [1, 3], qD 56 (.indexAddr 1 (.t 52) (.c (.int .i64 0))) 7, ⟨nI (.store 1 (.t 56) (.t 55)), 8, []⟩]) .skip))
  (.draw [0, 2, 3, 4] [] [qD 57 (.fieldAddr 1 (.t 3)) 0, qD 58 (.load false 1 (.t 57)) 1, qD 59 (.mv (.t 0)) 2, qD 60 (.load true 3 (.t 3)) 3, eD 61 (.call 272 [(.t 59), (.t 60), (.c (.int .i64 3))]) 4 [1], qD 62 (.indexAddr 1 (.t 58) (.c (.int .i64 0))) 5, ⟨nI (.store 1 (.t 62) (.t 61)), 6, []⟩]))) .skip))
  (.seq (.draw [2, 3] [] [qD 63 (.fieldAddr 1 (.t 3)) 0, qD 64 (.load false 1 (.t 63)) 1, qD 65 (.mv (.t 0)) 2, qD 66 (.load true 3 (.t 3)) 3, qD 67 (.mv (.t 4)) 4, qD 68 (.bin .sub .other (.t 67) (.c (.int .i64 1))) 5, eD 69 (.call 272 [(.t 65), (.t 66), (.t 68)]) 6 [1], qD 70 (.indexAddr 1 (.t 64) (.c (.int .i64 1))) 7, ⟨nI (.store 1 (.t 70) (.t 69)), 8, []⟩])
  (.seq (.region [2] [qI 71 (.load true 3 (.t 3)), nI (.store 3 (.t 2) (.t 71))])
  .ret)))))))))))⟩
theorem cf266 : cF Tryz.prog Tryz.f266 = some if266 := by kernel_rfl
def if267 : IFn := ⟨[0, 1], [(.tmp 4)], (.seq (.region [0, 1] [qI 4 (.mv (.c (.int .i64 0)))])
  (.seq (.region [0, 1, 5] [qI 6 (.mv (.t 0)), qI 7 (.mv (.t 1)), qI 8 (.bin .quo .other (.t 6) (.t 7)), qI 5 (.mv (.t 8))])
  (.seq (.seq (.region [5, 12] [qI 9 (.mv (.t 0)), qI 10 (.mv (.t 1)), qI 11 (.bin .rem .other (.t 9) (.t 10)), qI 12 (.bin .lss .other (.t 11) (.c (.int .i64 0)))])
  (.cond (.t 12) (.region [5] [qI 13 (.mv (.t 5)), qI 14 (.bin .sub .other (.t 13) (.c (.int .i64 1))), qI 5 (.mv (.t 14))]) .skip))
  (.seq (.region [4] [qI 15 (.mv (.t 5)), qI 4 (.mv (.t 15))])
  .ret))))⟩
theorem cf267 : cF Tryz.prog Tryz.f267 = some if267 := by kernel_rfl
def if268 : IFn := ⟨[0], [(.tmp 2)], (.seq (.region [0] [qI 2 (.mv (.c (.bool false)))])
  (.seq (.region [2] [qI 3 (.mv (.t 0)), qI 4 (.bin .eql .other (.t 3) (.c (.int .i64 2))), qI 5 (.mv (.t 4)), ⟨(some 6), .mv (.t 0), true, (some (5, false))⟩, ⟨(some 7), .bin .eql .other (.t 6) (.c (.int .i64 3)), true, (some (5, false))⟩, qI 8 (.pick (.t 5) (.c (.bool true)) (.t 7)), qI 9 (.mv (.t 8)), ⟨(some 10), .mv (.t 0), true, (some (9, false))⟩, ⟨(some 11), .bin .eql .other (.t 10) (.c (.int .i64 5)), true, (some (9, false))⟩, qI 12 (.pick (.t 9) (.c (.bool true)) (.t 11)), qI 13 (.mv (.t 12)), ⟨(some 14), .mv (.t 0), true, (some (13, false))⟩, ⟨(some 15), .bin .eql .other (.t 14) (.c (.int .i64 7)), true, (some (13, false))⟩, qI 16 (.pick (.t 13) (.c (.bool true)) (.t 15)), qI 2 (.mv (.t 16))])
  .ret))⟩
theorem cf268 : cF Tryz.prog Tryz.f268 = some if268 := by kernel_rfl
def if269 : IFn := ⟨[0, 1], [(.tmp 4)], (.seq (.region [0, 1] [qI 4 (.mv (.c (.bool false)))])
  (.seq (.seq (.region [0, 1, 5] [qI 5 (.mv (.c (.int .i64 0)))])
  (.block 0 (.loop [0, 1, 5] (.seq (.seq (.region [0, 1, 5, 8] [qI 6 (.mv (.t 5)), qI 7 (.mv (.t 1)), qI 8 (.bin .leq .other (.t 6) (.t 7))])
  (.cond (.t 8) .skip (.exit 0)))
  (.seq (.block 1 (.seq (.region [0, 1, 5, 15] [qI 11 (.mv (.t 0)), qI 12 (.mv (.t 5)), qI 13 (.indexAddr 1 (.t 11) (.t 12)), qI 14 (.load false 1 (.t 13)), qI 15 (.bin .neq .other (.t 14) (.c (.int .i64 0)))])
  (.cond (.t 15) (.seq (.region [4] [qI 4 (.mv (.c (.bool false)))])
  .ret) .skip)))
  (.region [0, 1, 5] [qI 9 (.mv (.t 5)), qI 10 (.bin .add .other (.t 9) (.c (.int .i64 1))), qI 5 (.mv (.t 10))]))))))
  (.seq (.region [4] [qI 4 (.mv (.c (.bool true)))])
  .ret)))⟩
theorem cf269 : cF Tryz.prog Tryz.f269 = some if269 := by kernel_rfl
def if270 : IFn := ⟨[0, 1], [(.tmp 4)], (.seq (.region [0, 1] [qI 4 (.mv (.c (.int .i64 0)))])
  (.seq (.region [0, 1, 5] [qI 6 (.mv (.t 0)), qI 7 (.mv (.t 1)), qI 8 (.bin .quo .other (.t 6) (.t 7)), qI 5 (.mv (.t 8))])
  (.seq (.seq (.region [5, 12] [qI 9 (.mv (.t 0)), qI 10 (.mv (.t 1)), qI 11 (.bin .rem .other (.t 9) (.t 10)), qI 12 (.bin .lss .other (.t 11) (.c (.int .i64 0)))])
  (.cond (.t 12) (.region [5] [qI 13 (.mv (.t 5)), qI 14 (.bin .sub .other (.t 13) (.c (.int .i64 1))), qI 5 (.mv (.t 14))]) .skip))
  (.seq (.region [4] [qI 15 (.mv (.t 5)), qI 4 (.mv (.t 15))])
  .ret))))⟩
theorem cf270 : cF Tryz.prog Tryz.f270 = some if270 := by kernel_rfl
def if271 : IFn := ⟨[0], [(.cell 2 true 3)], (.seq (.region [0, 2] [eI 2 (.alloc [(.int .i64 0), .nils, .nils])])
  (.seq (.region [0, 2, 3] [qI 8 (.mv (.t 0)), eI 9 (.call 230 [(.t 8), (.c (.int .i64 8))]), qI 3 (.mv (.t 9))])
  (.seq (.region [0, 2, 3, 4] [qI 10 (.mv (.t 0)), eI 11 (.call 230 [(.t 10), (.c (.int .i64 4))]), qI 12 (.bin .add .other (.c (.int .i64 1)) (.t 11)), eI 13 (.buildSl 1 8 [(.int .i64 0)] [(0, 1, (.t 12)), (1, 1, (.c (.int .i64 3))), (2, 1, (.c (.int .i64 4))), (3, 1, (.c (.int .i64 4))), (4, 1, (.c (.int .i64 5))), (5, 1, (.c (.int .i64 5))), (6, 1, (.c (.int .i64 6))), (7, 1, (.c (.int .i64 3)))]), qI 14 (.mv (.t 3)), qI 15 (.indexAddr 1 (.t 13) (.t 14)), qI 16 (.load false 1 (.t 15)), qI 4 (.mv (.t 16))])
  (.seq (.region [0, 2, 3, 4, 5] [qI 17 (.mv (.t 0)), qI 18 (.mv (.t 4)), eI 19 (.call 299 [(.t 17), (.t 18)]), qI 20 (.mv (.t 4)), eI 21 (.call 277 [(.t 19), (.t 20)]), eI 5 (.alloc [(.int .i64 0), .nils, .nils]), nI (.store 3 (.t 5) (.t 21))])
  (.seq (.region [0, 2, 3, 4, 5, 6] [qI 22 (.load true 3 (.t 5)), qI 23 (.mv (.t 4)), qI 24 (.bin .sub .other (.t 23) (.c (.int .i64 1))), eI 25 (.call 231 [(.t 22), (.t 24)]), qI 6 (.mv (.t 25))])
  (.seq (.seq (.region [0, 2, 4, 5, 6, 26] [qI 26 (.mv (.t 3))])
  (.block 0 (.seq (.region [0, 2, 4, 5, 6, 26, 27] [qI 28 (.bin .eql .other (.t 26) (.c (.int .i64 0))), qI 27 (.mv (.t 28))])
  (.cond (.t 27) (.seq (.region [0, 2, 4, 5, 7] [qI 7 (.mv (.c (.int .i64 0)))])
  (.block 1 (.loop [0, 2, 4, 5, 7] (.seq (.seq (.region [0, 2, 4, 5, 7, 31] [qI 29 (.mv (.t 7)), qI 30 (.mv (.t 4)), qI 31 (.bin .lss .other (.t 29) (.t 30))])
  (.cond (.t 31) .skip (.exit 1)))
  (.seq (.block 2 (.draw [0, 2, 4, 5, 7] [] [qD 34 (.fieldAddr 1 (.t 5)) 0, qD 35 (.load false 1 (.t 34)) 1, qD 36 (.mv (.t 7)) 2, qD 37 (.mv (.t 0)) 3, qD 38 (.load true 3 (.t 5)) 4, qD 39 (.mv (.t 7)) 5, qD 40 (.bin .add .other (.t 39) (.c (.int .i64 1))) 6, eD 41 (.call 272 [(.t 37), (.t 38), (.t 40)]) 7 [1], qD 42 (.indexAddr 1 (.t 35) (.t 36)) 8, ⟨nI (.store 1 (.t 42) (.t 41)), 9, []⟩]))
  (.region [0, 2, 4, 5, 7] [qI 32 (.mv (.t 7)), qI 33 (.bin .add .other (.t 32) (.c (.int .i64 1))), qI 7 (.mv (.t 33))])))))) (.seq (.seq (.region [0, 2, 5, 6, 26, 43] [qI 44 (.bin .eql .other (.t 26) (.c (.int .i64 1))), qI 43 (.mv (.t 44))])
  (.cond (.t 43) .skip (.region [0, 2, 5, 6, 26, 43] [qI 45 (.bin .eql .other (.t 26) (.c (.int .i64 7))), qI 43 (.mv (.t 45))])))
  (.cond (.t 43) (.seq (.region [0, 2, 5] [qI 46 (.fieldAddr 2 (.t 5)), qI 47 (.load false 1 (.t 46)), qI 48 (.indexAddr 1 (.t 47) (.c (.int .i64 0))), qI 49 (.load false 1 (.t 48)), qI 50 (.mv (.t 6)), qI 51 (.indexAddr 1 (.t 49) (.c (.int .i64 0))), nI (.store 1 (.t 51) (.t 50))])
  (.seq (.draw [0, 2, 5] [] [qD 52 (.fieldAddr 1 (.t 5)) 0, qD 53 (.load false 1 (.t 52)) 1, qD 54 (.mv (.t 0)) 2, qD 55 (.load true 3 (.t 5)) 3, eD 56 (.call 272 [(.t 54), (.t 55), (.c (.int .i64 2))]) 4 [1], qD 57 (.indexAddr 1 (.t 53) (.c (.int .i64 0))) 5, ⟨nI (.store 1 (.t 57) (.t 56)), 6, []⟩])
  (.draw [2, 5] [] [qD 58 (.fieldAddr 1 (.t 5)) 0, qD 59 (.load false 1 (.t 58)) 1, qD 60 (.mv (.t 0)) 2, qD 61 (.load true 3 (.t 5)) 3, eD 62 (.call 272 [(.t 60), (.t 61), (.c (.int .i64 2))]) 4 [1], qD 63 (.indexAddr 1 (.t 59) (.c (.int .i64 1))) 5, ⟨nI (.store 1 (.t 63) (.t 62)), 6, []⟩]))) (.seq (.region [0, 2, 5, 6, 26, 64] [qI 65 (.bin .eql .other (.t 26) (.c (.int .i64 2))), qI 64 (.mv (.t 65))])
  (.cond (.t 64) (.seq (.draw [0, 2, 5, 6] [] [qD 66 (.fieldAddr 2 (.t 5)) 0, qD 67 (.load false 1 (.t 66)) 1, qD 68 (.indexAddr 1 (.t 67) (.c (.int .i64 0))) 2, qD 69 (.load false 1 (.t 68)) 3, qD 70 (.mv (.t 0)) 4, qD 71 (.load true 3 (.t 5)) 5, eD 72 (.call 272 [(.t 70), (.t 71), (.c (.int .i64 2))]) 6 [1, 3], qD 73 (.indexAddr 1 (.t 69) (.c (.int .i64 0))) 7, ⟨nI (.store 1 (.t 73) (.t 72)), 8, []⟩])
  (.seq (.region [0, 2, 5, 6] [qI 74 (.fieldAddr 2 (.t 5)), qI 75 (.load false 1 (.t 74)), qI 76 (.indexAddr 1 (.t 75) (.c (.int .i64 0))), qI 77 (.load false 1 (.t 76)), qI 78 (.indexAddr 1 (.t 77) (.c (.int .i64 0))), qI 79 (.load false 1 (.t 78)), qI 80 (.indexAddr 1 (.t 79) (.c (.int .i64 2))), nI (.store 1 (.t 80) (.c (.int .i64 1)))])
  (.seq (.region [0, 2, 5] [qI 81 (.fieldAddr 2 (.t 5)), qI 82 (.load false 1 (.t 81)), qI 83 (.indexAddr 1 (.t 82) (.c (.int .i64 0))), qI 84 (.load false 1 (.t 83)), qI 85 (.mv (.t 6)), qI 86 (.indexAddr 1 (.t 84) (.c (.int .i64 1))), nI (.store 1 (.t 86) (.t 85))])
  (.seq (.draw [0, 2, 5] [] [qD 87 (.fieldAddr 1 (.t 5)) 0, qD 88 (.load false 1 (.t 87)) 1, qD 89 (.mv (.t 0)) 2, qD 90 (.load true 3 (.t 5)) 3, eD 91 (.call 272 [(.t 89), (.t 90), (.c (.int .i64 3))]) 4 [1], qD 92 (.indexAddr 1 (.t 88) (.c (.int .i64 0))) 5, ⟨nI (.store 1 (.t 92) (.t 91)), 6, []⟩])
  (.draw [2, 5] [] [qD 93 (.fieldAddr 1 (.t 5)) 0, qD 94 (.load false 1 (.t 93)) 1, qD 95 (.mv (.t 0)) 2, qD 96 (.load true 3 (.t 5)) 3, eD 97 (.call 272 [(.t 95), (.t 96), (.c (.int .i64 3))]) 4 [1], qD 98 (.indexAddr 1 (.t 94) (.c (.int .i64 1))) 5, ⟨nI (.store 1 (.t 98) (.t 97)), 6, []⟩]))))) (.seq (.region [0, 2, 5, 6, 26, 99] [qI 100 (.bin .eql .other (.t 26) (.c (.int .i64 3))), qI 99 (.mv (.t 100))])
  (.cond (.t 99) (.seq (.region [0, 2, 5] [qI 101 (.fieldAddr 2 (.t 5)), qI 102 (.load false 1 (.t 101)), qI 103 (.indexAddr 1 (.t 102) (.c (.int .i64 0))), qI 104 (.load false 1 (.t 103)), qI 105 (.mv (.t 6)), qI 106 (.indexAddr 1 (.t 104) (.c (.int .i64 0))), nI (.store 1 (.t 106) (.t 105))])
  (.seq (.draw [0, 2, 5] [] [qD 107 (.fieldAddr 1 (.t 5)) 0, qD 108 (.load false 1 (.t 107)) 1, qD 109 (.mv (.t 0)) 2, qD 110 (.load true 3 (.t 5)) 3, eD 111 (.call 272 [(.t 109), (.t 110), (.c (.int .i64 2))]) 4 [1], qD 112 (.indexAddr 1 (.t 108) (.c (.int .i64 0))) 5, ⟨nI (.store 1 (.t 112) (.t 111)), 6, []⟩])
  (.seq (.draw [0, 2, 5] [] [qD 113 (.fieldAddr 1 (.t 5)) 0, qD 114 (.load false 1 (.t 113)) 1, qD 115 (.mv (.t 0)) 2, qD 116 (.load true 3 (.t 5)) 3, eD 117 (.call 272 [(.t 115), (.t 116), (.c (.int .i64 2))]) 4 [1], qD 118 (.indexAddr 1 (.t 114) (.c (.int .i64 1))) 5, ⟨nI (.store 1 (.t 118) (.t 117)), 6, []⟩])
  (.draw [2, 5] [] [qD 119 (.fieldAddr 1 (.t 5)) 0, qD 120 (.load false 1 (.t 119)) 1, qD 121 (.mv (.t 0)) 2, qD 122 (.load true 3 (.t 5)) 3, eD 123 (.call 272 [(.t 121), (.t 122), (.c (.int .i64 3))]) 4 [1], qD 124 (.indexAddr 1 (.t 120) (.c (.int .i64 2))) 5, ⟨nI (.store 1 (.t 124) (.t 123)), 6, []⟩])))) (.seq (.region [0, 2, 5, 6, 26, 125] [qI 126 (.bin .eql .other (.t 26) (.c (.int .i64 4))), qI 125 (.mv (.t 126))])
  (.cond (.t 125) (.seq (.region [0, 2, 5, 6] [qI 127 (.fieldAddr 2 (.t 5)), qI 128 (.load false 1 (.t 127)), qI 129 (.indexAddr 1 (.t 128) (.c (.int .i64 0))), qI 130 (.load false 1 (.t 129)), qI 131 (.mv (.t 6)), qI 132 (.indexAddr 1 (.t 130) (.c (.int .i64 0))), nI (.store 1 (.t 132) (.t 131))])
  (.seq (.draw [0, 2, 5] [] [qD 133 (.fieldAddr 2 (.t 5)) 0, qD 134 (.load false 1 (.t 133)) 1, qD 135 (.indexAddr 1 (.t 134) (.c (.int .i64 2))) 2, qD 136 (.load false 1 (.t 135)) 3, qD 137 (.mv (.t 6)) 4, eD 138 (.call 118 [(.t 137)]) 5 [1, 3], qD 139 (.indexAddr 1 (.t 136) (.c (.int .i64 0))) 6, ⟨nI (.store 1 (.t 139) (.t 138)), 7, []⟩])
  (.draw [2, 5] [] [qD 140 (.fieldAddr 1 (.t 5)) 0, qD 141 (.load false 1 (.t 140)) 1, qD 142 (.mv (.t 0)) 2, qD 143 (.load true 3 (.t 5)) 3, eD 144 (.call 272 [(.t 142), (.t 143), (.c (.int .i64 4))]) 4 [1], qD 145 (.indexAddr 1 (.t 141) (.c (.int .i64 0))) 5, ⟨nI (.store 1 (.t 145) (.t 144)), 6, []⟩]))) (.seq (.region [0, 2, 5, 6, 26, 146] [qI 147 (.bin .eql .other (.t 26) (.c (.int .i64 5))), qI 146 (.mv (.t 147))])
  (.cond (.t 146) (.seq (.draw [0, 2, 5, 6] [] [qD 148 (.fieldAddr 2 (.t 5)) 0, qD 149 (.load false 1 (.t 148)) 1, qD 150 (.indexAddr 1 (.t 149) (.c (.int .i64 0))) 2, qD 151 (.load false 1 (.t 150)) 3, qD 152 (.load true 3 (.t 5)) 4, eD 153 (.call 231 [(.t 152), (.c (.int .i64 3))]) 5 [1, 3], qD 154 (.indexAddr 1 (.t 151) (.c (.int .i64 0))) 6, ⟨nI (.store 1 (.t 154) (.t 153)), 7, []⟩])
  (.seq (.region [0, 2, 5] [qI 155 (.fieldAddr 2 (.t 5)), qI 156 (.load false 1 (.t 155)), qI 157 (.indexAddr 1 (.t 156) (.c (.int .i64 0))), qI 158 (.load false 1 (.t 157)), qI 159 (.mv (.t 6)), qI 160 (.indexAddr 1 (.t 158) (.c (.int .i64 1))), nI (.store 1 (.t 160) (.t 159))])
  (.seq (.draw [0, 2, 5] [] [qD 161 (.fieldAddr 1 (.t 5)) 0, qD 162 (.load false 1 (.t 161)) 1, qD 163 (.mv (.t 0)) 2, qD 164 (.load true 3 (.t 5)) 3, eD 165 (.call 272 [(.t 163), (.t 164), (.c (.int .i64 3))]) 4 [1], qD 166 (.indexAddr 1 (.t 162) (.c (.int .i64 1))) 5, ⟨nI (.store 1 (.t 166) (.t 165)), 6, []⟩])
  (.draw [2, 5] [] [qD 167 (.fieldAddr 1 (.t 5)) 0, qD 168 (.load false 1 (.t 167)) 1, qD 169 (.mv (.t 0)) 2, qD 170 (.load true 3 (.t 5)) 3, eD 171 (.call 272 [(.t 169), (.t 170), (.c (.int .i64 3))]) 4 [1], qD 172 (.indexAddr 1 (.t 168) (.c (.int .i64 0))) 5, ⟨nI (.store 1 (.t 172) (.t 171)), 6, []⟩])))) (.seq (.region [2, 5, 6, 173] [qI 174 (.bin .eql .other (.t 26) (.c (.int .i64 6))), qI 173 (.mv (.t 174))])
  (.cond (.t 173) (.seq (.draw [2, 5, 6] [] [qD 175 (.fieldAddr 2 (.t 5)) 0, qD 176 (.load false 1 (.t 175)) 1, qD 177 (.indexAddr 1 (.t 176) (.c (.int .i64 0))) 2, qD 178 (.load false 1 (.t 177)) 3, qD 179 (.load true 3 (.t 5)) 4, eD 180 (.call 231 [(.t 179), (.c (.int .i64 3))]) 5 [1, 3], qD 181 (.indexAddr 1 (.t 178) (.c (.int .i64 0))) 6, ⟨nI (.store 1 (.t 181) (.t 180)), 7, []⟩])
  (.seq (.draw [2, 5, 6] [] [qD 182 (.fieldAddr 2 (.t 5)) 0, qD 183 (.load false 1 (.t 182)) 1, qD 184 (.indexAddr 1 (.t 183) (.c (.int .i64 0))) 2, qD 185 (.load false 1 (.t 184)) 3, qD 186 (.load true 3 (.t 5)) 4, eD 187 (.call 231 [(.t 186), (.c (.int .i64 4))]) 5 [1, 3], qD 188 (.indexAddr 1 (.t 185) (.c (.int .i64 1))) 6, ⟨nI (.store 1 (.t 188) (.t 187)), 7, []⟩])
  (.region [2, 5] [qI 189 (.fieldAddr 2 (.t 5)), qI 190 (.load false 1 (.t 189)), qI 191 (.indexAddr 1 (.t 190) (.c (.int .i64 1))), qI 192 (.load false 1 (.t 191)), qI 193 (.mv (.t 6)), qI 194 (.indexAddr 1 (.t 192) (.c (.int .i64 0))), nI (.store 1 (.t 194) (.t 193))]))) .skip))))))))))))))))
  (.seq (.region [2] [qI 195 (.load true 3 (.t 5)), nI (.store 3 (.t 2) (.t 195))])
  .ret)))))))⟩
theorem cf271 : cF Tryz.prog Tryz.f271 = some if271 := by kernel_rfl
def if272 : IFn := ⟨[0, 1, 2], [(.tmp 6)], (.seq (.region [0, 2, 4] [eI 4 (.box (.t 1)), qI 6 (.mv (.c .nils))])
  (.seq (.region [0, 2, 4, 7] [qI 9 (.load true 3 (.t 4)), eI 10 (.call 201 [(.t 9)]), qI 7 (.mv (.t 10))])
  (.seq (.seq (.region [0, 4, 7, 8] [qI 11 (.mv (.t 2)), qI 8 (.mv (.t 11))])
  (.block 0 (.loop [0, 4, 7, 8] (.seq (.seq (.region [0, 4, 7, 8, 15] [qI 12 (.mv (.t 8)), qI 13 (.mv (.t 7)), qI 14 (.len (.t 13)), qI 15 (.bin .lss .other (.t 12) (.t 14))])
  (.cond (.t 15) .skip (.exit 0)))
  (.seq (.block 1 (.region [0, 4, 7, 8] [qI 18 (.mv (.t 7)), qI 19 (.mv (.t 8)), qI 20 (.mv (.t 0)), qI 21 (.fieldAddr 0 (.t 4)), qI 22 (.load false 1 (.t 21)), eI 23 (.call 230 [(.t 20), (.t 22)]), qI 24 (.indexAddr 1 (.t 18) (.t 19)), nI (.store 1 (.t 24) (.t 23))]))
  (.region [0, 4, 7, 8] [qI 16 (.mv (.t 8)), qI 17 (.bin .add .other (.t 16) (.c (.int .i64 1))), qI 8 (.mv (.t 17))]))))))
  (.seq (.region [6] [qI 25 (.mv (.t 7)), qI 6 (.mv (.t 25))])
  .ret))))⟩
theorem cf272 : cF Tryz.prog Tryz.f272 = some if272 := by kernel_rfl
def if273 : IFn := ⟨[0, 1, 2], [(.tmp 6)], (.seq (.region [0, 1, 2] [qI 6 (.mv (.c (.bool false)))])
  (.seq (.seq (.region [0, 1, 2, 14] [qI 10 (.mv (.t 0)), qI 11 (.len (.t 10)), qI 12 (.mv (.t 1)), qI 13 (.len (.t 12)), qI 14 (.bin .neq .other (.t 11) (.t 13))])
  (.cond (.t 14) (.seq (.region [6] [qI 6 (.mv (.c (.bool false)))])
  .ret) .skip))
  (.seq (.seq (.region [1, 2, 15, 16, 17] [qI 15 (.mv (.t 0)), qI 16 (.len (.t 15)), qI 17 (.mv (.c (.int .i64 0)))])
  (.block 0 (.loop [1, 2, 15, 16, 17] (.seq (.region [1, 2, 15, 16, 17, 18] [qI 18 (.bin .lss .other (.t 17) (.t 16))])
  (.seq (.cond (.t 18) .skip (.exit 0))
  (.seq (.block 1 (.seq (.region [1, 2, 7, 8, 15, 16, 17] [qI 19 (.mv (.t 17)), qI 20 (.indexAddr 1 (.t 15) (.t 17)), qI 21 (.load false 1 (.t 20)), qI 7 (.mv (.t 19)), qI 8 (.mv (.t 21))])
  (.seq (.region [1, 2, 8, 9, 15, 16, 17] [qI 22 (.mv (.t 1)), qI 23 (.mv (.t 7)), qI 24 (.indexAddr 1 (.t 22) (.t 23)), qI 25 (.load false 1 (.t 24)), qI 9 (.mv (.t 25))])
  (.seq (.region [1, 2, 15, 16, 17, 30] [qI 26 (.mv (.t 2)), qI 27 (.mv (.t 8)), qI 28 (.mv (.t 9)), eI 29 (.callV (.t 26) [(.t 27), (.t 28)]), qI 30 (.un .not (.t 29))])
  (.cond (.t 30) (.seq (.region [6] [qI 6 (.mv (.c (.bool false)))])
  .ret) .skip)))))
  (.region [1, 2, 15, 16, 17] [qI 31 (.bin .add .other (.t 17) (.c (.int .i64 1))), qI 17 (.mv (.t 31))])))))))
  (.seq (.region [6] [qI 6 (.mv (.c (.bool true)))])
  .ret))))⟩
theorem cf273 : cF Tryz.prog Tryz.f273 = some if273 := by kernel_rfl
def if275 : IFn := ⟨[0, 1], [(.tmp 4)], (.seq (.region [0, 1] [qI 4 (.mv (.c (.int .i64 0)))])
  (.seq (.seq (.region [0, 1, 7, 8] [qI 6 (.mv (.t 0)), qI 7 (.len (.t 6)), qI 8 (.mv (.c (.int .i64 0)))])
  (.block 0 (.loop [0, 1, 7, 8] (.seq (.region [0, 1, 7, 8, 9] [qI 9 (.bin .lss .other (.t 8) (.t 7))])
  (.seq (.cond (.t 9) .skip (.exit 0))
  (.seq (.block 1 (.seq (.region [0, 1, 5, 7, 8] [qI 10 (.mv (.t 8)), qI 5 (.mv (.t 10))])
  (.seq (.region [0, 1, 5, 7, 8, 16] [qI 11 (.mv (.t 1)), qI 12 (.mv (.t 0)), qI 13 (.mv (.t 5)), qI 14 (.indexAddr 1 (.t 12) (.t 13)), qI 15 (.load false 1 (.t 14)), eI 16 (.callV (.t 11) [(.t 15)])])
  (.cond (.t 16) (.seq (.region [4] [qI 17 (.mv (.t 5)), qI 4 (.mv (.t 17))])
  .ret) .skip))))
  (.region [0, 1, 7, 8] [qI 18 (.bin .add .other (.t 8) (.c (.int .i64 1))), qI 8 (.mv (.t 18))])))))))
  (.seq (.region [4] [qI 4 (.mv (.c (.int .i64 (-1))))])
  .ret)))⟩
theorem cf275 : cF Tryz.prog Tryz.f275 = some if275 := by kernel_rfl
def if276 : IFn := ⟨[0], [(.tmp 2)], (.seq (.region [0] [qI 2 (.mv (.c (.bool false)))])
  (.seq (.region [2] [qI 3 (.mv (.t 0)), qI 4 (.bin .neq .other (.t 3) (.c (.int .i64 0))), qI 2 (.mv (.t 4))])
  .ret))⟩
theorem cf276 : cF Tryz.prog Tryz.f276 = some if276 := by kernel_rfl
def if277 : IFn := ⟨[0, 1], [(.cell 4 true 3)], (.seq (.region [0, 1, 4] [eI 4 (.alloc [(.int .i64 0), .nils, .nils])])
  (.seq (.region [1, 4, 5] [qI 7 (.mv (.t 0)), qI 8 (.mv (.t 1)), eI 9 (.call 300 [(.t 7), (.t 8)]), eI 5 (.alloc [(.int .i64 0), .nils, .nils]), nI (.store 3 (.t 5) (.t 9))])
  (.seq (.seq (.region [1, 4, 5, 6] [qI 6 (.mv (.c (.int .i64 0)))])
  (.block 0 (.loop [1, 4, 5, 6] (.seq (.seq (.region [1, 4, 5, 6, 12] [qI 10 (.mv (.t 6)), qI 11 (.mv (.t 1)), qI 12 (.bin .lss .other (.t 10) (.t 11))])
  (.cond (.t 12) .skip (.exit 0)))
  (.seq (.block 1 (.draw [1, 4, 5, 6] [] [qD 15 (.fieldAddr 1 (.t 5)) 0, qD 16 (.load false 1 (.t 15)) 1, qD 17 (.mv (.t 6)) 2, qD 18 (.mv (.t 1)) 3, eD 19 (.makeSl 1 8 [(.int .i64 0)] (.t 18) (.t 18)) 4 [1], qD 20 (.indexAddr 1 (.t 16) (.t 17)) 5, ⟨nI (.store 1 (.t 20) (.t 19)), 6, []⟩]))
  (.region [1, 4, 5, 6] [qI 13 (.mv (.t 6)), qI 14 (.bin .add .other (.t 13) (.c (.int .i64 1))), qI 6 (.mv (.t 14))]))))))
  (.seq (.region [4] [qI 21 (.load true 3 (.t 5)), nI (.store 3 (.t 4) (.t 21))])
  .ret))))⟩
theorem cf277 : cF Tryz.prog Tryz.f277 = some if277 := by kernel_rfl
def if279 : IFn := ⟨[0], [(.tmp 2)], (.seq (.region [0] [qI 2 (.mv (.c (.int .i64 0)))])
  (.seq (.region [0, 3] [qI 3 (.mv (.c (.int .i64 0)))])
  (.seq (.block 0 (.loop [0, 3] (.seq (.seq (.region [0, 3, 14] [qI 4 (.mv (.t 3)), qI 5 (.mv (.t 0)), qI 6 (.len (.t 5)), qI 7 (.bin .lss .other (.t 4) (.t 6)), qI 8 (.mv (.t 7)), ⟨(some 9), .mv (.t 0), true, (some (8, true))⟩, ⟨(some 10), .mv (.t 3), true, (some (8, true))⟩, ⟨(some 11), .indexAddr 1 (.t 9) (.t 10), true, (some (8, true))⟩, ⟨(some 12), .load false 1 (.t 11), true, (some (8, true))⟩, ⟨(some 13), .bin .eql .other (.t 12) (.c (.int .i64 0)), true, (some (8, true))⟩, qI 14 (.pick (.t 8) (.t 13) (.c (.bool false)))])
  (.cond (.t 14) .skip (.exit 0)))
  (.block 1 (.region [0, 3] [qI 15 (.mv (.t 3)), qI 16 (.bin .add .other (.t 15) (.c (.int .i64 1))), qI 3 (.mv (.t 16))])))))
  (.seq (.region [2] [qI 17 (.mv (.t 3)), qI 2 (.mv (.t 17))])
  .ret))))⟩
theorem cf279 : cF Tryz.prog Tryz.f279 = some if279 := by kernel_rfl
def if283 : IFn := ⟨[0], [(.tmp 2)], (.seq (.region [1] [eI 1 (.box (.t 0)), qI 2 (.mv (.c .nils))])
  (.seq (.region [1, 3] [qI 5 (.load true 3 (.t 1)), eI 6 (.call 212 [(.t 5)]), qI 3 (.mv (.t 6))])
  (.seq (.region [1, 3, 4] [qI 7 (.mv (.t 3)), eI 8 (.buildSl 1 1 [.nils] [(0, 1, (.t 7))]), qI 4 (.mv (.t 8))])
  (.seq (.block 0 (.loop [1, 3, 4] (.seq (.seq (.region [1, 3, 4, 11] [qI 9 (.mv (.t 3)), qI 10 (.len (.t 9)), qI 11 (.bin .gtr .other (.t 10) (.c (.int .i64 0)))])
  (.cond (.t 11) .skip (.exit 0)))
  (.block 1 (.seq (.draw [1, 3, 4] [] [qD 12 (.load true 3 (.t 1)) 0, qD 13 (.mv (.t 3)) 1, qD 14 (.load true 3 (.t 1)) 2, eD 15 (.call 212 [(.t 14)]) 3 [0], eD 16 (.call 160 [(.t 12), (.t 13), (.t 15)]) 4 [], qD 3 (.mv (.t 16)) 5])
  (.region [1, 3, 4] [qI 17 (.mv (.t 4)), qI 18 (.mv (.t 3)), eI 19 (.buildSl 1 1 [.nils] [(0, 1, (.t 18))]), eI 20 (.append 1 24 (.t 17) (.t 19)), qI 4 (.mv (.t 20))]))))))
  (.seq (.region [2] [qI 21 (.mv (.t 4)), qI 2 (.mv (.t 21))])
  .ret)))))⟩
theorem cf283 : cF Tryz.prog Tryz.f283 = some if283 := by kernel_rfl
def if299 : IFn := ⟨[0, 1], [(.tmp 4)], (.seq (.region [0, 1] [qI 4 (.mv (.c (.int .i64 0)))])
  (.seq (.region [1, 5] [eI 6 (.buildSl 1 6 [(.int .i64 0)] [(0, 1, (.c (.int .i64 2))), (1, 1, (.c (.int .i64 3))), (2, 1, (.c (.int .i64 3))), (3, 1, (.c (.int .i64 5))), (4, 1, (.c (.int .i64 7))), (5, 1, (.c (.int .i64 2)))]), qI 7 (.mv (.t 0)), eI 8 (.call 230 [(.t 7), (.c (.int .i64 6))]), qI 9 (.indexAddr 1 (.t 6) (.t 8)), qI 10 (.load false 1 (.t 9)), qI 5 (.mv (.t 10))])
  (.seq (.block 0 (.loop [1, 5] (.seq (.seq (.region [1, 5, 14] [qI 11 (.mv (.t 5)), qI 12 (.mv (.t 1)), eI 13 (.call 219 [(.t 11), (.t 12)]), qI 14 (.bin .gtr .other (.t 13) (.c (.int .i64 729)))])
  (.cond (.t 14) .skip (.exit 0)))
  (.block 1 (.region [1, 5] [eI 15 (.buildSl 1 8 [(.int .i64 0)] [(0, 1, (.c (.int .i64 2))), (1, 1, (.c (.int .i64 2))), (2, 1, (.c (.int .i64 2))), (3, 1, (.c (.int .i64 2))), (4, 1, (.c (.int .i64 3))), (5, 1, (.c (.int .i64 3))), (6, 1, (.c (.int .i64 5))), (7, 1, (.c (.int .i64 5)))]), qI 16 (.mv (.t 5)), qI 17 (.indexAddr 1 (.t 15) (.t 16)), qI 18 (.load false 1 (.t 17)), qI 5 (.mv (.t 18))])))))
  (.seq (.region [4] [qI 19 (.mv (.t 5)), qI 4 (.mv (.t 19))])
  .ret))))⟩
theorem cf299 : cF Tryz.prog Tryz.f299 = some if299 := by kernel_rfl
def if300 : IFn := ⟨[0, 1], [(.cell 4 true 3)], (.seq (.region [0, 1, 4] [eI 4 (.alloc [(.int .i64 0), .nils, .nils])])
  (.seq (.region [1, 4, 5] [qI 10 (.mv (.t 0)), eI 11 (.buildSl 1 0 [.nils] []), eI 12 (.buildSl 1 0 [.nils] []), qI 13 (.build [(.int .i64 0), .nils, .nils] [(0, 1, (.t 10)), (1, 1, (.t 11)), (2, 1, (.t 12))]), eI 5 (.alloc [(.int .i64 0), .nils, .nils]), nI (.store 3 (.t 5) (.t 13))])
  (.seq (.seq (.region [1, 4, 5, 6] [qI 6 (.mv (.c (.int .i64 0)))])
  (.block 0 (.loop [1, 4, 5, 6] (.seq (.seq (.region [1, 4, 5, 6, 16] [qI 14 (.mv (.t 6)), qI 15 (.mv (.t 1)), qI 16 (.bin .lss .other (.t 14) (.t 15))])
  (.cond (.t 16) .skip (.exit 0)))
  (.seq (.block 1 (.seq (.region [1, 4, 5, 6, 7] [qI 19 (.mv (.t 1)), eI 20 (.makeSl 1 8 [(.int .i64 0)] (.t 19) (.t 19)), qI 7 (.mv (.t 20))])
  (.seq (.seq (.region [1, 4, 5, 6, 7, 24] [qI 21 (.mv (.t 6)), qI 22 (.bin .add .other (.t 21) (.c (.int .i64 1))), qI 23 (.mv (.t 1)), qI 24 (.bin .lss .other (.t 22) (.t 23))])
  (.cond (.t 24) (.region [1, 4, 5, 6, 7] [qI 25 (.mv (.t 7)), qI 26 (.mv (.t 6)), qI 27 (.bin .add .other (.t 26) (.c (.int .i64 1))), qI 28 (.indexAddr 1 (.t 25) (.t 27)), nI (.store 1 (.t 28) (.c (.int .i64 1)))]) .skip))
  (.seq (.region [1, 4, 5, 6] [qI 29 (.fieldAddr 1 (.t 5)), qI 30 (.load false 1 (.t 29)), qI 31 (.mv (.t 7)), eI 32 (.buildSl 1 1 [.nils] [(0, 1, (.t 31))]), eI 33 (.append 1 24 (.t 30) (.t 32)), qI 34 (.fieldAddr 1 (.t 5)), nI (.store 1 (.t 34) (.t 33))])
  (.seq (.region [1, 4, 5, 6, 8] [eI 35 (.buildSl 1 0 [.nils] []), qI 8 (.mv (.t 35))])
  (.seq (.seq (.region [1, 4, 5, 6, 8, 9] [qI 36 (.mv (.t 6)), qI 37 (.bin .add .other (.t 36) (.c (.int .i64 1))), qI 9 (.mv (.t 37))])
  (.block 2 (.loop [1, 4, 5, 6, 8, 9] (.seq (.seq (.region [1, 4, 5, 6, 8, 9, 40] [qI 38 (.mv (.t 9)), qI 39 (.mv (.t 1)), qI 40 (.bin .lss .other (.t 38) (.t 39))])
  (.cond (.t 40) .skip (.exit 2)))
  (.seq (.block 3 (.region [1, 4, 5, 6, 8, 9] [qI 43 (.mv (.t 8)), qI 44 (.mv (.t 1)), eI 45 (.makeSl 1 8 [(.int .i64 0)] (.t 44) (.t 44)), eI 46 (.buildSl 1 1 [.nils] [(0, 1, (.t 45))]), eI 47 (.append 1 24 (.t 43) (.t 46)), qI 8 (.mv (.t 47))]))
  (.region [1, 4, 5, 6, 8, 9] [qI 41 (.mv (.t 9)), qI 42 (.bin .add .other (.t 41) (.c (.int .i64 1))), qI 9 (.mv (.t 42))]))))))
  (.region [1, 4, 5, 6] [qI 48 (.fieldAddr 2 (.t 5)), qI 49 (.load false 1 (.t 48)), qI 50 (.mv (.t 8)), eI 51 (.buildSl 1 1 [.nils] [(0, 1, (.t 50))]), eI 52 (.append 1 24 (.t 49) (.t 51)), qI 53 (.fieldAddr 2 (.t 5)), nI (.store 1 (.t 53) (.t 52))])))))))
  (.region [1, 4, 5, 6] [qI 17 (.mv (.t 6)), qI 18 (.bin .add .other (.t 17) (.c (.int .i64 1))), qI 6 (.mv (.t 18))]))))))
  (.seq (.region [4] [qI 54 (.load true 3 (.t 5)), nI (.store 3 (.t 4) (.t 54))])
  .ret))))⟩
theorem cf300 : cF Tryz.prog Tryz.f300 = some if300 := by kernel_rfl
end Go.Proofs
