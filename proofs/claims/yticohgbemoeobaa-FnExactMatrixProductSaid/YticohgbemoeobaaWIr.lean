/- The compiled forms of the functions, each held against the program by the kernel. Written by program. -/
import Derived.Test.YticohgbemoeobaaAbRows
import Derived.Test.YticohgbemoeobaaChecked
namespace Go.Proofs
open Go.Ab
theorem mix : Try.prog.follows .mixedOrders = true := by kernel_rfl
/-- loop.example/g01076/laws.FnExactMatrixProduct -/
def if3 : IFn := ⟨[0, 1], [(.tmp 4)], (.seq (.region [2, 3] [⟨(some 2), .box (.t 0), false, none⟩, ⟨(some 3), .box (.t 1), false, none⟩, ⟨(some 4), .mv (.c (.bool false)), true, none⟩])
  (.seq (.region [2, 3, 5] [⟨(some 5), .mv (.c (.int .i64 1048576)), true, none⟩])
  (.seq (.region [2, 3, 5] [⟨(some 17), .load true 3 (.t 2), true, none⟩, ⟨(some 18), .mv (.t 5), true, none⟩, ⟨(some 19), .call 9 [(.t 17), (.t 18)], false, none⟩, ⟨(some 5), .mv (.t 19), true, none⟩])
  (.seq (.seq (.region [2, 3, 5, 21] [⟨(some 20), .mv (.t 5), true, none⟩, ⟨(some 21), .bin .lss .other (.t 20) (.c (.int .i64 0)), true, none⟩])
  (.cond (.t 21) (.seq (.region [4] [⟨(some 4), .mv (.c (.bool true)), true, none⟩])
  .ret) .skip))
  (.seq (.region [2, 3, 5] [⟨(some 22), .load true 3 (.t 3), true, none⟩, ⟨(some 23), .mv (.t 5), true, none⟩, ⟨(some 24), .call 9 [(.t 22), (.t 23)], false, none⟩, ⟨(some 5), .mv (.t 24), true, none⟩])
  (.seq (.seq (.region [2, 3, 26] [⟨(some 25), .mv (.t 5), true, none⟩, ⟨(some 26), .bin .lss .other (.t 25) (.c (.int .i64 0)), true, none⟩])
  (.cond (.t 26) (.seq (.region [4] [⟨(some 4), .mv (.c (.bool true)), true, none⟩])
  .ret) .skip))
  (.seq (.draw [2, 3, 6, 7] [[(.int .i64 0), (.int .i64 0), .nils]] [⟨⟨(some 28), .load true 3 (.t 2), true, none⟩, 0, []⟩, ⟨⟨(some 30), .load true 3 (.t 3), true, none⟩, 2, []⟩, ⟨⟨(some 6), .rev 0, true, none⟩, 8, []⟩, ⟨⟨(some 29), .call 11 [(.t 28)], false, none⟩, 1, [2]⟩, ⟨⟨(some 31), .call 11 [(.t 30)], false, none⟩, 3, []⟩, ⟨⟨(some 32), .call 10 [(.t 29), (.t 31)], false, none⟩, 4, []⟩, ⟨⟨(some 27), .mv (.t 32), true, none⟩, 5, []⟩, ⟨⟨(some 33), .extract (.t 27) 0, true, none⟩, 6, []⟩, ⟨⟨(some 34), .extract (.t 27) 1, true, none⟩, 7, []⟩, ⟨⟨none, .store 3 (.t 6) (.t 33), false, none⟩, 9, []⟩, ⟨⟨(some 7), .mv (.t 34), true, none⟩, 10, []⟩])
  (.seq (.region [2, 3, 6, 7, 8] [⟨(some 35), .load true 3 (.t 2), true, none⟩, ⟨(some 36), .call 11 [(.t 35)], false, none⟩, ⟨(some 8), .alloc [(.int .i64 0), (.int .i64 0), .nils], false, none⟩, ⟨none, .store 3 (.t 8) (.t 36), false, none⟩])
  (.seq (.region [2, 3, 6, 7, 8, 9] [⟨(some 37), .load true 3 (.t 3), true, none⟩, ⟨(some 38), .call 11 [(.t 37)], false, none⟩, ⟨(some 9), .alloc [(.int .i64 0), (.int .i64 0), .nils], false, none⟩, ⟨none, .store 3 (.t 9) (.t 38), false, none⟩])
  (.seq (.region [2, 3, 6, 7, 8, 9, 10, 11] [⟨(some 40), .load true 3 (.t 8), true, none⟩, ⟨(some 41), .load true 3 (.t 9), true, none⟩, ⟨(some 42), .call 12 [(.t 40), (.t 41)], false, none⟩, ⟨(some 39), .mv (.t 42), true, none⟩, ⟨(some 43), .extract (.t 39) 0, true, none⟩, ⟨(some 44), .extract (.t 39) 1, true, none⟩, ⟨(some 10), .alloc [(.int .i64 0), (.int .i64 0), .nils], false, none⟩, ⟨none, .store 3 (.t 10) (.t 43), false, none⟩, ⟨(some 11), .mv (.t 44), true, none⟩])
  (.seq (.seq (.region [2, 3, 6, 7, 8, 9, 10, 11, 53] [⟨(some 45), .load true 3 (.t 10), true, none⟩, ⟨(some 46), .load true 3 (.t 6), true, none⟩, ⟨(some 47), .call 13 [(.t 45), (.t 46)], false, none⟩, ⟨(some 48), .un .not (.t 47), true, none⟩, ⟨(some 49), .mv (.t 48), true, none⟩, ⟨(some 50), .mv (.t 11), true, (some (49, false))⟩, ⟨(some 51), .mv (.t 7), true, (some (49, false))⟩, ⟨(some 52), .bin .neq .other (.t 50) (.t 51), true, (some (49, false))⟩, ⟨(some 53), .pick (.t 49) (.c (.bool true)) (.t 52), true, none⟩])
  (.cond (.t 53) (.seq (.region [4] [⟨(some 4), .mv (.c (.bool false)), true, none⟩])
  .ret) .skip))
  (.seq (.seq (.draw [2, 3, 6, 7, 8, 9, 10, 11, 58] [] [⟨⟨(some 54), .load true 3 (.t 8), true, none⟩, 0, []⟩, ⟨⟨(some 55), .load true 3 (.t 2), true, none⟩, 1, []⟩, ⟨⟨(some 56), .call 11 [(.t 55)], false, none⟩, 2, [0]⟩, ⟨⟨(some 57), .call 13 [(.t 54), (.t 56)], false, none⟩, 3, []⟩, ⟨⟨(some 58), .un .not (.t 57), true, none⟩, 4, []⟩])
  (.cond (.t 58) (.seq (.region [4] [⟨(some 4), .mv (.c (.bool false)), true, none⟩])
  .ret) .skip))
  (.seq (.seq (.draw [2, 3, 6, 7, 8, 9, 10, 11, 63] [] [⟨⟨(some 59), .load true 3 (.t 9), true, none⟩, 0, []⟩, ⟨⟨(some 60), .load true 3 (.t 3), true, none⟩, 1, []⟩, ⟨⟨(some 61), .call 11 [(.t 60)], false, none⟩, 2, [0]⟩, ⟨⟨(some 62), .call 13 [(.t 59), (.t 61)], false, none⟩, 3, []⟩, ⟨⟨(some 63), .un .not (.t 62), true, none⟩, 4, []⟩])
  (.cond (.t 63) (.seq (.region [4] [⟨(some 4), .mv (.c (.bool false)), true, none⟩])
  .ret) .skip))
  (.seq (.region [2, 3, 6, 7, 8, 9, 10, 11, 12] [⟨(some 12), .mv (.c (.int .i64 1)), true, none⟩])
  (.seq (.region [2, 3, 6, 7, 9, 10, 11, 12] [⟨(some 64), .load true 3 (.t 8), true, none⟩, ⟨(some 65), .mv (.t 12), true, none⟩, ⟨(some 66), .call 14 [(.t 64), (.t 65)], false, none⟩, ⟨(some 12), .mv (.t 66), true, none⟩])
  (.seq (.region [2, 3, 6, 7, 10, 11, 12] [⟨(some 67), .load true 3 (.t 9), true, none⟩, ⟨(some 68), .mv (.t 12), true, none⟩, ⟨(some 69), .call 14 [(.t 67), (.t 68)], false, none⟩, ⟨(some 12), .mv (.t 69), true, none⟩])
  (.seq (.seq (.region [2, 3, 6, 7, 10, 82] [⟨(some 70), .mv (.t 12), true, none⟩, ⟨(some 71), .bin .lss .other (.t 70) (.c (.int .i64 0)), true, none⟩, ⟨(some 72), .mv (.t 71), true, none⟩, ⟨(some 73), .load true 3 (.t 10), true, (some (72, false))⟩, ⟨(some 74), .load true 3 (.t 6), true, (some (72, false))⟩, ⟨(some 75), .call 13 [(.t 73), (.t 74)], false, (some (72, false))⟩, ⟨(some 76), .un .not (.t 75), true, (some (72, false))⟩, ⟨(some 77), .pick (.t 72) (.c (.bool true)) (.t 76), true, none⟩, ⟨(some 78), .mv (.t 77), true, none⟩, ⟨(some 79), .mv (.t 11), true, (some (78, false))⟩, ⟨(some 80), .mv (.t 7), true, (some (78, false))⟩, ⟨(some 81), .bin .neq .other (.t 79) (.t 80), true, (some (78, false))⟩, ⟨(some 82), .pick (.t 78) (.c (.bool true)) (.t 81), true, none⟩])
  (.cond (.t 82) (.seq (.region [4] [⟨(some 4), .mv (.c (.bool false)), true, none⟩])
  .ret) .skip))
  (.seq (.region [2, 3, 6, 7, 10, 13] [⟨(some 13), .mv (.c (.int .i64 1)), true, none⟩])
  (.seq (.region [2, 3, 6, 7, 10, 13] [⟨(some 83), .load true 3 (.t 10), true, none⟩, ⟨(some 84), .mv (.t 13), true, none⟩, ⟨(some 85), .call 14 [(.t 83), (.t 84)], false, none⟩, ⟨(some 13), .mv (.t 85), true, none⟩])
  (.seq (.region [2, 3, 6, 7, 10, 13, 14] [⟨(some 14), .mv (.c (.int .i64 1)), true, none⟩])
  (.seq (.region [2, 3, 6, 7, 10, 13, 14] [⟨(some 86), .load true 3 (.t 10), true, none⟩, ⟨(some 87), .mv (.t 14), true, none⟩, ⟨(some 88), .call 15 [(.t 86), (.t 87)], false, none⟩, ⟨(some 14), .mv (.t 88), true, none⟩])
  (.seq (.seq (.region [2, 3, 6, 7, 10, 13, 14, 90] [⟨(some 89), .mv (.t 14), true, none⟩, ⟨(some 90), .bin .lss .other (.t 89) (.c (.int .i64 0)), true, none⟩])
  (.cond (.t 90) (.seq (.region [4] [⟨(some 4), .mv (.c (.bool false)), true, none⟩])
  .ret) .skip))
  (.seq (.seq (.region [2, 3, 6, 7, 10, 13, 93] [⟨(some 91), .mv (.t 14), true, none⟩, ⟨(some 92), .mv (.t 13), true, none⟩, ⟨(some 93), .bin .neq .other (.t 91) (.t 92), true, none⟩])
  (.cond (.t 93) (.seq (.region [4] [⟨(some 4), .mv (.c (.bool false)), true, none⟩])
  .ret) .skip))
  (.seq (.draw [6, 7, 10, 13, 15, 16] [[(.int .i64 0), (.int .i64 0), .nils]] [⟨⟨(some 95), .load true 3 (.t 2), true, none⟩, 0, []⟩, ⟨⟨(some 97), .load true 3 (.t 3), true, none⟩, 2, []⟩, ⟨⟨(some 15), .rev 0, true, none⟩, 8, []⟩, ⟨⟨(some 96), .call 11 [(.t 95)], false, none⟩, 1, [2]⟩, ⟨⟨(some 98), .call 11 [(.t 97)], false, none⟩, 3, []⟩, ⟨⟨(some 99), .call 12 [(.t 96), (.t 98)], false, none⟩, 4, []⟩, ⟨⟨(some 94), .mv (.t 99), true, none⟩, 5, []⟩, ⟨⟨(some 100), .extract (.t 94) 0, true, none⟩, 6, []⟩, ⟨⟨(some 101), .extract (.t 94) 1, true, none⟩, 7, []⟩, ⟨⟨none, .store 3 (.t 15) (.t 100), false, none⟩, 9, []⟩, ⟨⟨(some 16), .mv (.t 101), true, none⟩, 10, []⟩])
  (.seq (.seq (.region [10, 13, 110] [⟨(some 102), .load true 3 (.t 15), true, none⟩, ⟨(some 103), .load true 3 (.t 6), true, none⟩, ⟨(some 104), .call 13 [(.t 102), (.t 103)], false, none⟩, ⟨(some 105), .un .not (.t 104), true, none⟩, ⟨(some 106), .mv (.t 105), true, none⟩, ⟨(some 107), .mv (.t 16), true, (some (106, false))⟩, ⟨(some 108), .mv (.t 7), true, (some (106, false))⟩, ⟨(some 109), .bin .neq .other (.t 107) (.t 108), true, (some (106, false))⟩, ⟨(some 110), .pick (.t 106) (.c (.bool true)) (.t 109), true, none⟩])
  (.cond (.t 110) (.seq (.region [4] [⟨(some 4), .mv (.c (.bool false)), true, none⟩])
  .ret) .skip))
  (.seq (.region [10, 13, 14] [⟨(some 14), .mv (.c (.int .i64 1)), true, none⟩])
  (.seq (.region [13, 14] [⟨(some 111), .load true 3 (.t 10), true, none⟩, ⟨(some 112), .mv (.t 14), true, none⟩, ⟨(some 113), .call 15 [(.t 111), (.t 112)], false, none⟩, ⟨(some 14), .mv (.t 113), true, none⟩])
  (.seq (.seq (.region [13, 14, 115] [⟨(some 114), .mv (.t 14), true, none⟩, ⟨(some 115), .bin .lss .other (.t 114) (.c (.int .i64 0)), true, none⟩])
  (.cond (.t 115) (.seq (.region [4] [⟨(some 4), .mv (.c (.bool false)), true, none⟩])
  .ret) .skip))
  (.seq (.seq (.region [118] [⟨(some 116), .mv (.t 14), true, none⟩, ⟨(some 117), .mv (.t 13), true, none⟩, ⟨(some 118), .bin .neq .other (.t 116) (.t 117), true, none⟩])
  (.cond (.t 118) (.seq (.region [4] [⟨(some 4), .mv (.c (.bool false)), true, none⟩])
  .ret) .skip))
  (.seq (.region [4] [⟨(some 4), .mv (.c (.bool true)), true, none⟩])
  .ret))))))))))))))))))))))))))))))⟩
theorem cf3 : cF Try.prog Try.f3 = some if3 := by kernel_rfl

/-- loop.example/g01076/laws.FnTransposes -/
def if4 : IFn := ⟨[0], [(.tmp 2)], (.seq (.region [0] [⟨(some 2), .mv (.c (.bool false)), true, none⟩])
  (.seq (.seq (.region [0, 22] [⟨(some 21), .mv (.t 0), true, none⟩, ⟨(some 22), .call 16 [(.t 21)], false, none⟩])
  (.cond (.t 22) (.seq (.region [2] [⟨(some 2), .mv (.c (.bool true)), true, none⟩])
  .ret) .skip))
  (.seq (.region [3, 4] [⟨(some 24), .mv (.t 0), true, none⟩, ⟨(some 25), .call 17 [(.t 24)], false, none⟩, ⟨(some 23), .mv (.t 25), true, none⟩, ⟨(some 26), .extract (.t 23) 0, true, none⟩, ⟨(some 27), .extract (.t 23) 1, true, none⟩, ⟨(some 3), .alloc [(.int .i64 0), (.int .i64 0), .nils], false, none⟩, ⟨(some 4), .alloc [(.int .i64 0), (.int .i64 0), .nils], false, none⟩, ⟨none, .store 3 (.t 3) (.t 26), false, none⟩, ⟨none, .store 3 (.t 4) (.t 27), false, none⟩])
  (.seq (.region [3, 4, 5, 6] [⟨(some 29), .load true 3 (.t 3), true, none⟩, ⟨(some 30), .load true 3 (.t 4), true, none⟩, ⟨(some 31), .call 12 [(.t 29), (.t 30)], false, none⟩, ⟨(some 28), .mv (.t 31), true, none⟩, ⟨(some 32), .extract (.t 28) 0, true, none⟩, ⟨(some 33), .extract (.t 28) 1, true, none⟩, ⟨(some 5), .alloc [(.int .i64 0), (.int .i64 0), .nils], false, none⟩, ⟨none, .store 3 (.t 5) (.t 32), false, none⟩, ⟨(some 6), .mv (.t 33), true, none⟩])
  (.seq (.region [3, 4, 5, 6, 7, 8] [⟨(some 35), .load true 3 (.t 3), true, none⟩, ⟨(some 36), .load true 3 (.t 4), true, none⟩, ⟨(some 37), .call 10 [(.t 35), (.t 36)], false, none⟩, ⟨(some 34), .mv (.t 37), true, none⟩, ⟨(some 38), .extract (.t 34) 0, true, none⟩, ⟨(some 39), .extract (.t 34) 1, true, none⟩, ⟨(some 7), .alloc [(.int .i64 0), (.int .i64 0), .nils], false, none⟩, ⟨none, .store 3 (.t 7) (.t 38), false, none⟩, ⟨(some 8), .mv (.t 39), true, none⟩])
  (.seq (.seq (.region [3, 4, 5, 6, 48] [⟨(some 40), .mv (.t 6), true, none⟩, ⟨(some 41), .mv (.t 8), true, none⟩, ⟨(some 42), .bin .neq .other (.t 40) (.t 41), true, none⟩, ⟨(some 43), .mv (.t 42), true, none⟩, ⟨(some 44), .load true 3 (.t 5), true, (some (43, false))⟩, ⟨(some 45), .load true 3 (.t 7), true, (some (43, false))⟩, ⟨(some 46), .call 18 [(.t 44), (.t 45)], false, (some (43, false))⟩, ⟨(some 47), .un .not (.t 46), true, (some (43, false))⟩, ⟨(some 48), .pick (.t 43) (.c (.bool true)) (.t 47), true, none⟩])
  (.cond (.t 48) (.seq (.region [2] [⟨(some 2), .mv (.c (.bool false)), true, none⟩])
  .ret) .skip))
  (.seq (.seq (.region [3, 4, 5, 50] [⟨(some 49), .mv (.t 6), true, none⟩, ⟨(some 50), .bin .neq .other (.t 49) (.c (.int .i64 0)), true, none⟩])
  (.cond (.t 50) (.seq (.region [2] [⟨(some 2), .mv (.c (.bool true)), true, none⟩])
  .ret) .skip))
  (.seq (.region [3, 4, 5, 9, 10] [⟨(some 52), .load true 3 (.t 3), true, none⟩, ⟨(some 53), .call 19 [(.t 52)], false, none⟩, ⟨(some 51), .mv (.t 53), true, none⟩, ⟨(some 54), .extract (.t 51) 0, true, none⟩, ⟨(some 55), .extract (.t 51) 1, true, none⟩, ⟨(some 9), .alloc [(.int .i64 0), (.int .i64 0), .nils], false, none⟩, ⟨none, .store 3 (.t 9) (.t 54), false, none⟩, ⟨(some 10), .mv (.t 55), true, none⟩])
  (.seq (.region [3, 5, 9, 10, 11, 12] [⟨(some 57), .load true 3 (.t 4), true, none⟩, ⟨(some 58), .call 19 [(.t 57)], false, none⟩, ⟨(some 56), .mv (.t 58), true, none⟩, ⟨(some 59), .extract (.t 56) 0, true, none⟩, ⟨(some 60), .extract (.t 56) 1, true, none⟩, ⟨(some 11), .alloc [(.int .i64 0), (.int .i64 0), .nils], false, none⟩, ⟨none, .store 3 (.t 11) (.t 59), false, none⟩, ⟨(some 12), .mv (.t 60), true, none⟩])
  (.seq (.region [3, 9, 10, 11, 12, 13, 14] [⟨(some 62), .load true 3 (.t 5), true, none⟩, ⟨(some 63), .call 19 [(.t 62)], false, none⟩, ⟨(some 61), .mv (.t 63), true, none⟩, ⟨(some 64), .extract (.t 61) 0, true, none⟩, ⟨(some 65), .extract (.t 61) 1, true, none⟩, ⟨(some 13), .alloc [(.int .i64 0), (.int .i64 0), .nils], false, none⟩, ⟨none, .store 3 (.t 13) (.t 64), false, none⟩, ⟨(some 14), .mv (.t 65), true, none⟩])
  (.seq (.region [3, 9, 10, 12, 13, 14, 15, 16] [⟨(some 67), .load true 3 (.t 11), true, none⟩, ⟨(some 68), .load true 3 (.t 9), true, none⟩, ⟨(some 69), .call 12 [(.t 67), (.t 68)], false, none⟩, ⟨(some 66), .mv (.t 69), true, none⟩, ⟨(some 70), .extract (.t 66) 0, true, none⟩, ⟨(some 71), .extract (.t 66) 1, true, none⟩, ⟨(some 15), .alloc [(.int .i64 0), (.int .i64 0), .nils], false, none⟩, ⟨none, .store 3 (.t 15) (.t 70), false, none⟩, ⟨(some 16), .mv (.t 71), true, none⟩])
  (.seq (.seq (.region [3, 9, 91] [⟨(some 72), .mv (.t 10), true, none⟩, ⟨(some 73), .bin .neq .other (.t 72) (.c (.int .i64 0)), true, none⟩, ⟨(some 74), .mv (.t 73), true, none⟩, ⟨(some 75), .mv (.t 12), true, (some (74, false))⟩, ⟨(some 76), .bin .neq .other (.t 75) (.c (.int .i64 0)), true, (some (74, false))⟩, ⟨(some 77), .pick (.t 74) (.c (.bool true)) (.t 76), true, none⟩, ⟨(some 78), .mv (.t 77), true, none⟩, ⟨(some 79), .mv (.t 14), true, (some (78, false))⟩, ⟨(some 80), .bin .neq .other (.t 79) (.c (.int .i64 0)), true, (some (78, false))⟩, ⟨(some 81), .pick (.t 78) (.c (.bool true)) (.t 80), true, none⟩, ⟨(some 82), .mv (.t 81), true, none⟩, ⟨(some 83), .mv (.t 16), true, (some (82, false))⟩, ⟨(some 84), .bin .neq .other (.t 83) (.c (.int .i64 0)), true, (some (82, false))⟩, ⟨(some 85), .pick (.t 82) (.c (.bool true)) (.t 84), true, none⟩, ⟨(some 86), .mv (.t 85), true, none⟩, ⟨(some 87), .load true 3 (.t 13), true, (some (86, false))⟩, ⟨(some 88), .load true 3 (.t 15), true, (some (86, false))⟩, ⟨(some 89), .call 18 [(.t 87), (.t 88)], false, (some (86, false))⟩, ⟨(some 90), .un .not (.t 89), true, (some (86, false))⟩, ⟨(some 91), .pick (.t 86) (.c (.bool true)) (.t 90), true, none⟩])
  (.cond (.t 91) (.seq (.region [2] [⟨(some 2), .mv (.c (.bool false)), true, none⟩])
  .ret) .skip))
  (.seq (.region [9, 17, 18] [⟨(some 93), .load true 3 (.t 3), true, none⟩, ⟨(some 94), .call 20 [(.t 93)], false, none⟩, ⟨(some 92), .mv (.t 94), true, none⟩, ⟨(some 95), .extract (.t 92) 0, true, none⟩, ⟨(some 96), .extract (.t 92) 1, true, none⟩, ⟨(some 17), .alloc [(.int .i64 0), (.int .i64 0), .nils], false, none⟩, ⟨none, .store 3 (.t 17) (.t 95), false, none⟩, ⟨(some 18), .mv (.t 96), true, none⟩])
  (.seq (.region [17, 18, 19, 20] [⟨(some 98), .load true 3 (.t 9), true, none⟩, ⟨(some 99), .call 20 [(.t 98)], false, none⟩, ⟨(some 97), .mv (.t 99), true, none⟩, ⟨(some 100), .extract (.t 97) 0, true, none⟩, ⟨(some 101), .extract (.t 97) 1, true, none⟩, ⟨(some 19), .alloc [(.int .i64 0), (.int .i64 0), .nils], false, none⟩, ⟨none, .store 3 (.t 19) (.t 100), false, none⟩, ⟨(some 20), .mv (.t 101), true, none⟩])
  (.seq (.region [2] [⟨(some 102), .mv (.t 18), true, none⟩, ⟨(some 103), .bin .eql .other (.t 102) (.c (.int .i64 0)), true, none⟩, ⟨(some 104), .mv (.t 103), true, none⟩, ⟨(some 105), .mv (.t 20), true, (some (104, true))⟩, ⟨(some 106), .bin .eql .other (.t 105) (.c (.int .i64 0)), true, (some (104, true))⟩, ⟨(some 107), .pick (.t 104) (.t 106) (.c (.bool false)), true, none⟩, ⟨(some 108), .mv (.t 107), true, none⟩, ⟨(some 109), .fieldAddr 2 (.t 17), true, (some (108, true))⟩, ⟨(some 110), .load false 1 (.t 109), true, (some (108, true))⟩, ⟨(some 111), .len (.t 110), true, (some (108, true))⟩, ⟨(some 112), .fieldAddr 2 (.t 19), true, (some (108, true))⟩, ⟨(some 113), .load false 1 (.t 112), true, (some (108, true))⟩, ⟨(some 114), .len (.t 113), true, (some (108, true))⟩, ⟨(some 115), .bin .eql .other (.t 111) (.t 114), true, (some (108, true))⟩, ⟨(some 116), .pick (.t 108) (.t 115) (.c (.bool false)), true, none⟩, ⟨(some 2), .mv (.t 116), true, none⟩])
  .ret)))))))))))))))⟩
theorem cf4 : cF Try.prog Try.f4 = some if4 := by kernel_rfl

/-- loop.example/g01076/laws.FnExactImageSubspace -/
def if5 : IFn := ⟨[0, 1], [(.tmp 4)], (.seq (.region [2, 3] [⟨(some 2), .box (.t 0), false, none⟩, ⟨(some 3), .box (.t 1), false, none⟩, ⟨(some 4), .mv (.c (.bool false)), true, none⟩])
  (.seq (.region [2, 3, 5] [⟨(some 5), .mv (.c (.int .i64 1048576)), true, none⟩])
  (.seq (.region [2, 3, 5] [⟨(some 17), .load true 3 (.t 2), true, none⟩, ⟨(some 18), .mv (.t 5), true, none⟩, ⟨(some 19), .call 9 [(.t 17), (.t 18)], false, none⟩, ⟨(some 5), .mv (.t 19), true, none⟩])
  (.seq (.seq (.region [2, 3, 5, 21] [⟨(some 20), .mv (.t 5), true, none⟩, ⟨(some 21), .bin .lss .other (.t 20) (.c (.int .i64 0)), true, none⟩])
  (.cond (.t 21) (.seq (.region [4] [⟨(some 4), .mv (.c (.bool true)), true, none⟩])
  .ret) .skip))
  (.seq (.region [2, 3, 5] [⟨(some 22), .load true 3 (.t 3), true, none⟩, ⟨(some 23), .mv (.t 5), true, none⟩, ⟨(some 24), .call 9 [(.t 22), (.t 23)], false, none⟩, ⟨(some 5), .mv (.t 24), true, none⟩])
  (.seq (.seq (.region [2, 3, 26] [⟨(some 25), .mv (.t 5), true, none⟩, ⟨(some 26), .bin .lss .other (.t 25) (.c (.int .i64 0)), true, none⟩])
  (.cond (.t 26) (.seq (.region [4] [⟨(some 4), .mv (.c (.bool true)), true, none⟩])
  .ret) .skip))
  (.seq (.draw [2, 3, 6, 7] [[(.int .i64 0), (.int .i64 0), .nils]] [⟨⟨(some 28), .load true 3 (.t 2), true, none⟩, 0, []⟩, ⟨⟨(some 30), .load true 3 (.t 3), true, none⟩, 2, []⟩, ⟨⟨(some 6), .rev 0, true, none⟩, 8, []⟩, ⟨⟨(some 29), .call 11 [(.t 28)], false, none⟩, 1, [2]⟩, ⟨⟨(some 31), .call 11 [(.t 30)], false, none⟩, 3, []⟩, ⟨⟨(some 32), .call 21 [(.t 29), (.t 31)], false, none⟩, 4, []⟩, ⟨⟨(some 27), .mv (.t 32), true, none⟩, 5, []⟩, ⟨⟨(some 33), .extract (.t 27) 0, true, none⟩, 6, []⟩, ⟨⟨(some 34), .extract (.t 27) 1, true, none⟩, 7, []⟩, ⟨⟨none, .store 3 (.t 6) (.t 33), false, none⟩, 9, []⟩, ⟨⟨(some 7), .mv (.t 34), true, none⟩, 10, []⟩])
  (.seq (.region [2, 3, 6, 7, 8] [⟨(some 35), .load true 3 (.t 2), true, none⟩, ⟨(some 36), .call 11 [(.t 35)], false, none⟩, ⟨(some 8), .alloc [(.int .i64 0), (.int .i64 0), .nils], false, none⟩, ⟨none, .store 3 (.t 8) (.t 36), false, none⟩])
  (.seq (.region [2, 3, 6, 7, 8, 9] [⟨(some 37), .load true 3 (.t 3), true, none⟩, ⟨(some 38), .call 11 [(.t 37)], false, none⟩, ⟨(some 9), .alloc [(.int .i64 0), (.int .i64 0), .nils], false, none⟩, ⟨none, .store 3 (.t 9) (.t 38), false, none⟩])
  (.seq (.region [2, 3, 6, 7, 8, 9, 10, 11] [⟨(some 40), .load true 3 (.t 8), true, none⟩, ⟨(some 41), .load true 3 (.t 9), true, none⟩, ⟨(some 42), .call 22 [(.t 40), (.t 41)], false, none⟩, ⟨(some 39), .mv (.t 42), true, none⟩, ⟨(some 43), .extract (.t 39) 0, true, none⟩, ⟨(some 44), .extract (.t 39) 1, true, none⟩, ⟨(some 10), .alloc [(.int .i64 0), (.int .i64 0), .nils], false, none⟩, ⟨none, .store 3 (.t 10) (.t 43), false, none⟩, ⟨(some 11), .mv (.t 44), true, none⟩])
  (.seq (.seq (.region [2, 3, 6, 7, 8, 9, 10, 11, 53] [⟨(some 45), .load true 3 (.t 10), true, none⟩, ⟨(some 46), .load true 3 (.t 6), true, none⟩, ⟨(some 47), .call 13 [(.t 45), (.t 46)], false, none⟩, ⟨(some 48), .un .not (.t 47), true, none⟩, ⟨(some 49), .mv (.t 48), true, none⟩, ⟨(some 50), .mv (.t 11), true, (some (49, false))⟩, ⟨(some 51), .mv (.t 7), true, (some (49, false))⟩, ⟨(some 52), .bin .neq .other (.t 50) (.t 51), true, (some (49, false))⟩, ⟨(some 53), .pick (.t 49) (.c (.bool true)) (.t 52), true, none⟩])
  (.cond (.t 53) (.seq (.region [4] [⟨(some 4), .mv (.c (.bool false)), true, none⟩])
  .ret) .skip))
  (.seq (.seq (.draw [2, 3, 6, 7, 8, 9, 10, 11, 58] [] [⟨⟨(some 54), .load true 3 (.t 8), true, none⟩, 0, []⟩, ⟨⟨(some 55), .load true 3 (.t 2), true, none⟩, 1, []⟩, ⟨⟨(some 56), .call 11 [(.t 55)], false, none⟩, 2, [0]⟩, ⟨⟨(some 57), .call 13 [(.t 54), (.t 56)], false, none⟩, 3, []⟩, ⟨⟨(some 58), .un .not (.t 57), true, none⟩, 4, []⟩])
  (.cond (.t 58) (.seq (.region [4] [⟨(some 4), .mv (.c (.bool false)), true, none⟩])
  .ret) .skip))
  (.seq (.seq (.draw [2, 3, 6, 7, 8, 9, 10, 11, 63] [] [⟨⟨(some 59), .load true 3 (.t 9), true, none⟩, 0, []⟩, ⟨⟨(some 60), .load true 3 (.t 3), true, none⟩, 1, []⟩, ⟨⟨(some 61), .call 11 [(.t 60)], false, none⟩, 2, [0]⟩, ⟨⟨(some 62), .call 13 [(.t 59), (.t 61)], false, none⟩, 3, []⟩, ⟨⟨(some 63), .un .not (.t 62), true, none⟩, 4, []⟩])
  (.cond (.t 63) (.seq (.region [4] [⟨(some 4), .mv (.c (.bool false)), true, none⟩])
  .ret) .skip))
  (.seq (.region [2, 3, 6, 7, 8, 9, 10, 11, 12] [⟨(some 12), .mv (.c (.int .i64 1)), true, none⟩])
  (.seq (.region [2, 3, 6, 7, 9, 10, 11, 12] [⟨(some 64), .load true 3 (.t 8), true, none⟩, ⟨(some 65), .mv (.t 12), true, none⟩, ⟨(some 66), .call 14 [(.t 64), (.t 65)], false, none⟩, ⟨(some 12), .mv (.t 66), true, none⟩])
  (.seq (.region [2, 3, 6, 7, 10, 11, 12] [⟨(some 67), .load true 3 (.t 9), true, none⟩, ⟨(some 68), .mv (.t 12), true, none⟩, ⟨(some 69), .call 14 [(.t 67), (.t 68)], false, none⟩, ⟨(some 12), .mv (.t 69), true, none⟩])
  (.seq (.seq (.region [2, 3, 6, 7, 10, 82] [⟨(some 70), .mv (.t 12), true, none⟩, ⟨(some 71), .bin .lss .other (.t 70) (.c (.int .i64 0)), true, none⟩, ⟨(some 72), .mv (.t 71), true, none⟩, ⟨(some 73), .load true 3 (.t 10), true, (some (72, false))⟩, ⟨(some 74), .load true 3 (.t 6), true, (some (72, false))⟩, ⟨(some 75), .call 13 [(.t 73), (.t 74)], false, (some (72, false))⟩, ⟨(some 76), .un .not (.t 75), true, (some (72, false))⟩, ⟨(some 77), .pick (.t 72) (.c (.bool true)) (.t 76), true, none⟩, ⟨(some 78), .mv (.t 77), true, none⟩, ⟨(some 79), .mv (.t 11), true, (some (78, false))⟩, ⟨(some 80), .mv (.t 7), true, (some (78, false))⟩, ⟨(some 81), .bin .neq .other (.t 79) (.t 80), true, (some (78, false))⟩, ⟨(some 82), .pick (.t 78) (.c (.bool true)) (.t 81), true, none⟩])
  (.cond (.t 82) (.seq (.region [4] [⟨(some 4), .mv (.c (.bool false)), true, none⟩])
  .ret) .skip))
  (.seq (.region [2, 3, 6, 7, 10, 13] [⟨(some 13), .mv (.c (.int .i64 1)), true, none⟩])
  (.seq (.region [2, 3, 6, 7, 10, 13] [⟨(some 83), .load true 3 (.t 10), true, none⟩, ⟨(some 84), .mv (.t 13), true, none⟩, ⟨(some 85), .call 14 [(.t 83), (.t 84)], false, none⟩, ⟨(some 13), .mv (.t 85), true, none⟩])
  (.seq (.region [2, 3, 6, 7, 10, 13, 14] [⟨(some 14), .mv (.c (.int .i64 1)), true, none⟩])
  (.seq (.region [2, 3, 6, 7, 10, 13, 14] [⟨(some 86), .load true 3 (.t 10), true, none⟩, ⟨(some 87), .mv (.t 14), true, none⟩, ⟨(some 88), .call 15 [(.t 86), (.t 87)], false, none⟩, ⟨(some 14), .mv (.t 88), true, none⟩])
  (.seq (.seq (.region [2, 3, 6, 7, 10, 13, 14, 90] [⟨(some 89), .mv (.t 14), true, none⟩, ⟨(some 90), .bin .lss .other (.t 89) (.c (.int .i64 0)), true, none⟩])
  (.cond (.t 90) (.seq (.region [4] [⟨(some 4), .mv (.c (.bool false)), true, none⟩])
  .ret) .skip))
  (.seq (.seq (.region [2, 3, 6, 7, 10, 13, 93] [⟨(some 91), .mv (.t 14), true, none⟩, ⟨(some 92), .mv (.t 13), true, none⟩, ⟨(some 93), .bin .neq .other (.t 91) (.t 92), true, none⟩])
  (.cond (.t 93) (.seq (.region [4] [⟨(some 4), .mv (.c (.bool false)), true, none⟩])
  .ret) .skip))
  (.seq (.draw [6, 7, 10, 13, 15, 16] [[(.int .i64 0), (.int .i64 0), .nils]] [⟨⟨(some 95), .load true 3 (.t 2), true, none⟩, 0, []⟩, ⟨⟨(some 97), .load true 3 (.t 3), true, none⟩, 2, []⟩, ⟨⟨(some 15), .rev 0, true, none⟩, 8, []⟩, ⟨⟨(some 96), .call 11 [(.t 95)], false, none⟩, 1, [2]⟩, ⟨⟨(some 98), .call 11 [(.t 97)], false, none⟩, 3, []⟩, ⟨⟨(some 99), .call 22 [(.t 96), (.t 98)], false, none⟩, 4, []⟩, ⟨⟨(some 94), .mv (.t 99), true, none⟩, 5, []⟩, ⟨⟨(some 100), .extract (.t 94) 0, true, none⟩, 6, []⟩, ⟨⟨(some 101), .extract (.t 94) 1, true, none⟩, 7, []⟩, ⟨⟨none, .store 3 (.t 15) (.t 100), false, none⟩, 9, []⟩, ⟨⟨(some 16), .mv (.t 101), true, none⟩, 10, []⟩])
  (.seq (.seq (.region [10, 13, 110] [⟨(some 102), .load true 3 (.t 15), true, none⟩, ⟨(some 103), .load true 3 (.t 6), true, none⟩, ⟨(some 104), .call 13 [(.t 102), (.t 103)], false, none⟩, ⟨(some 105), .un .not (.t 104), true, none⟩, ⟨(some 106), .mv (.t 105), true, none⟩, ⟨(some 107), .mv (.t 16), true, (some (106, false))⟩, ⟨(some 108), .mv (.t 7), true, (some (106, false))⟩, ⟨(some 109), .bin .neq .other (.t 107) (.t 108), true, (some (106, false))⟩, ⟨(some 110), .pick (.t 106) (.c (.bool true)) (.t 109), true, none⟩])
  (.cond (.t 110) (.seq (.region [4] [⟨(some 4), .mv (.c (.bool false)), true, none⟩])
  .ret) .skip))
  (.seq (.region [10, 13, 14] [⟨(some 14), .mv (.c (.int .i64 1)), true, none⟩])
  (.seq (.region [13, 14] [⟨(some 111), .load true 3 (.t 10), true, none⟩, ⟨(some 112), .mv (.t 14), true, none⟩, ⟨(some 113), .call 15 [(.t 111), (.t 112)], false, none⟩, ⟨(some 14), .mv (.t 113), true, none⟩])
  (.seq (.seq (.region [13, 14, 115] [⟨(some 114), .mv (.t 14), true, none⟩, ⟨(some 115), .bin .lss .other (.t 114) (.c (.int .i64 0)), true, none⟩])
  (.cond (.t 115) (.seq (.region [4] [⟨(some 4), .mv (.c (.bool false)), true, none⟩])
  .ret) .skip))
  (.seq (.seq (.region [118] [⟨(some 116), .mv (.t 14), true, none⟩, ⟨(some 117), .mv (.t 13), true, none⟩, ⟨(some 118), .bin .neq .other (.t 116) (.t 117), true, none⟩])
  (.cond (.t 118) (.seq (.region [4] [⟨(some 4), .mv (.c (.bool false)), true, none⟩])
  .ret) .skip))
  (.seq (.region [4] [⟨(some 4), .mv (.c (.bool true)), true, none⟩])
  .ret))))))))))))))))))))))))))))))⟩
theorem cf5 : cF Try.prog Try.f5 = some if5 := by kernel_rfl

/-- loop.example/g01076/laws.FnDeterminants -/
def if6 : IFn := ⟨[0], [(.tmp 2)], (.seq (.region [0] [⟨(some 2), .mv (.c (.bool false)), true, none⟩])
  (.seq (.seq (.region [0, 23] [⟨(some 22), .mv (.t 0), true, none⟩, ⟨(some 23), .call 16 [(.t 22)], false, none⟩])
  (.cond (.t 23) (.seq (.region [2] [⟨(some 2), .mv (.c (.bool true)), true, none⟩])
  .ret) .skip))
  (.seq (.region [3] [⟨(some 24), .mv (.t 0), true, none⟩, ⟨(some 25), .call 23 [(.t 24)], false, none⟩, ⟨(some 3), .alloc [(.int .i64 0), (.int .i64 0), .nils], false, none⟩, ⟨none, .store 3 (.t 3) (.t 25), false, none⟩])
  (.seq (.region [3, 4, 5] [⟨(some 27), .load true 3 (.t 3), true, none⟩, ⟨(some 28), .call 24 [(.t 27)], false, none⟩, ⟨(some 26), .mv (.t 28), true, none⟩, ⟨(some 29), .extract (.t 26) 0, true, none⟩, ⟨(some 30), .extract (.t 26) 1, true, none⟩, ⟨(some 4), .alloc [(.int .i64 0), (.int .i64 0), .nils], false, none⟩, ⟨none, .store 3 (.t 4) (.t 29), false, none⟩, ⟨(some 5), .mv (.t 30), true, none⟩])
  (.seq (.region [3, 4, 5, 6, 7] [⟨(some 32), .load true 3 (.t 3), true, none⟩, ⟨(some 33), .call 25 [(.t 32)], false, none⟩, ⟨(some 31), .mv (.t 33), true, none⟩, ⟨(some 34), .extract (.t 31) 0, true, none⟩, ⟨(some 35), .extract (.t 31) 1, true, none⟩, ⟨(some 6), .alloc [(.int .i64 0), (.int .i64 0), .nils], false, none⟩, ⟨none, .store 3 (.t 6) (.t 34), false, none⟩, ⟨(some 7), .mv (.t 35), true, none⟩])
  (.seq (.region [3, 4, 5, 6, 7, 8, 9] [⟨(some 37), .load true 3 (.t 3), true, none⟩, ⟨(some 38), .call 26 [(.t 37)], false, none⟩, ⟨(some 36), .mv (.t 38), true, none⟩, ⟨(some 39), .extract (.t 36) 0, true, none⟩, ⟨(some 40), .extract (.t 36) 1, true, none⟩, ⟨(some 8), .mv (.t 39), true, none⟩, ⟨(some 9), .mv (.t 40), true, none⟩])
  (.seq (.seq (.region [3, 4, 5, 8, 9, 49] [⟨(some 41), .mv (.t 5), true, none⟩, ⟨(some 42), .mv (.t 7), true, none⟩, ⟨(some 43), .bin .neq .other (.t 41) (.t 42), true, none⟩, ⟨(some 44), .mv (.t 43), true, none⟩, ⟨(some 45), .load true 3 (.t 4), true, (some (44, false))⟩, ⟨(some 46), .load true 3 (.t 6), true, (some (44, false))⟩, ⟨(some 47), .call 18 [(.t 45), (.t 46)], false, (some (44, false))⟩, ⟨(some 48), .un .not (.t 47), true, (some (44, false))⟩, ⟨(some 49), .pick (.t 44) (.c (.bool true)) (.t 48), true, none⟩])
  (.cond (.t 49) (.seq (.region [2] [⟨(some 2), .mv (.c (.bool false)), true, none⟩])
  .ret) .skip))
  (.seq (.seq (.region [3, 4, 5, 8, 9, 51] [⟨(some 50), .mv (.t 9), true, none⟩, ⟨(some 51), .bin .neq .other (.t 50) (.c (.int .i64 0)), true, none⟩])
  (.cond (.t 51) (.seq (.region [2] [⟨(some 52), .mv (.t 5), true, none⟩, ⟨(some 53), .mv (.t 9), true, none⟩, ⟨(some 54), .bin .eql .other (.t 52) (.t 53), true, none⟩, ⟨(some 2), .mv (.t 54), true, none⟩])
  .ret) .skip))
  (.seq (.seq (.region [3, 4, 8, 59] [⟨(some 55), .mv (.t 8), true, none⟩, ⟨(some 56), .bin .eql .other (.t 55) (.c (.int .i64 0)), true, none⟩, ⟨(some 57), .mv (.t 5), true, none⟩, ⟨(some 58), .bin .eql .other (.t 57) (.c (.int .i64 4)), true, none⟩, ⟨(some 59), .bin .neq .bool (.t 56) (.t 58), true, none⟩])
  (.cond (.t 59) (.seq (.region [2] [⟨(some 2), .mv (.c (.bool false)), true, none⟩])
  .ret) .skip))
  (.seq (.region [3, 4, 8, 10, 11] [⟨(some 61), .load true 3 (.t 3), true, none⟩, ⟨(some 62), .call 19 [(.t 61)], false, none⟩, ⟨(some 60), .mv (.t 62), true, none⟩, ⟨(some 63), .extract (.t 60) 0, true, none⟩, ⟨(some 64), .extract (.t 60) 1, true, none⟩, ⟨(some 10), .alloc [(.int .i64 0), (.int .i64 0), .nils], false, none⟩, ⟨none, .store 3 (.t 10) (.t 63), false, none⟩, ⟨(some 11), .mv (.t 64), true, none⟩])
  (.seq (.region [3, 4, 8, 11, 12, 13] [⟨(some 66), .load true 3 (.t 3), true, none⟩, ⟨(some 67), .load true 3 (.t 10), true, none⟩, ⟨(some 68), .call 12 [(.t 66), (.t 67)], false, none⟩, ⟨(some 65), .mv (.t 68), true, none⟩, ⟨(some 69), .extract (.t 65) 0, true, none⟩, ⟨(some 70), .extract (.t 65) 1, true, none⟩, ⟨(some 12), .alloc [(.int .i64 0), (.int .i64 0), .nils], false, none⟩, ⟨none, .store 3 (.t 12) (.t 69), false, none⟩, ⟨(some 13), .mv (.t 70), true, none⟩])
  (.seq (.region [3, 4, 8, 11, 13, 14, 15] [⟨(some 72), .load true 3 (.t 12), true, none⟩, ⟨(some 73), .call 26 [(.t 72)], false, none⟩, ⟨(some 71), .mv (.t 73), true, none⟩, ⟨(some 74), .extract (.t 71) 0, true, none⟩, ⟨(some 75), .extract (.t 71) 1, true, none⟩, ⟨(some 14), .mv (.t 74), true, none⟩, ⟨(some 15), .mv (.t 75), true, none⟩])
  (.seq (.seq (.region [3, 4, 8, 95] [⟨(some 76), .mv (.t 11), true, none⟩, ⟨(some 77), .bin .neq .other (.t 76) (.c (.int .i64 0)), true, none⟩, ⟨(some 78), .mv (.t 77), true, none⟩, ⟨(some 79), .mv (.t 13), true, (some (78, false))⟩, ⟨(some 80), .bin .neq .other (.t 79) (.c (.int .i64 0)), true, (some (78, false))⟩, ⟨(some 81), .pick (.t 78) (.c (.bool true)) (.t 80), true, none⟩, ⟨(some 82), .mv (.t 81), true, none⟩, ⟨(some 83), .mv (.t 15), true, (some (82, false))⟩, ⟨(some 84), .bin .neq .other (.t 83) (.c (.int .i64 0)), true, (some (82, false))⟩, ⟨(some 85), .pick (.t 82) (.c (.bool true)) (.t 84), true, none⟩, ⟨(some 86), .mv (.t 85), true, none⟩, ⟨(some 87), .mv (.t 14), true, (some (86, false))⟩, ⟨(some 88), .mv (.t 8), true, (some (86, false))⟩, ⟨(some 89), .mv (.t 8), true, (some (86, false))⟩, ⟨(some 90), .bin .mul .other (.t 88) (.t 89), true, (some (86, false))⟩, ⟨(some 91), .fieldAddr 0 (.t 3), true, (some (86, false))⟩, ⟨(some 92), .load false 1 (.t 91), true, (some (86, false))⟩, ⟨(some 93), .bin .rem .other (.t 90) (.t 92), true, (some (86, false))⟩, ⟨(some 94), .bin .neq .other (.t 87) (.t 93), true, (some (86, false))⟩, ⟨(some 95), .pick (.t 86) (.c (.bool true)) (.t 94), true, none⟩])
  (.cond (.t 95) (.seq (.region [2] [⟨(some 2), .mv (.c (.bool false)), true, none⟩])
  .ret) .skip))
  (.seq (.seq (.region [3, 4, 97] [⟨(some 96), .mv (.t 8), true, none⟩, ⟨(some 97), .bin .eql .other (.t 96) (.c (.int .i64 0)), true, none⟩])
  (.cond (.t 97) (.seq (.region [2] [⟨(some 2), .mv (.c (.bool true)), true, none⟩])
  .ret) .skip))
  (.seq (.region [3, 4, 16, 17] [⟨(some 99), .fieldAddr 0 (.t 3), true, none⟩, ⟨(some 100), .load false 1 (.t 99), true, none⟩, ⟨(some 101), .fieldAddr 1 (.t 3), true, none⟩, ⟨(some 102), .load false 1 (.t 101), true, none⟩, ⟨(some 103), .call 27 [(.t 100), (.t 102)], false, none⟩, ⟨(some 98), .mv (.t 103), true, none⟩, ⟨(some 104), .extract (.t 98) 0, true, none⟩, ⟨(some 105), .extract (.t 98) 1, true, none⟩, ⟨(some 16), .alloc [(.int .i64 0), (.int .i64 0), .nils], false, none⟩, ⟨none, .store 3 (.t 16) (.t 104), false, none⟩, ⟨(some 17), .mv (.t 105), true, none⟩])
  (.seq (.region [3, 4, 16, 17, 18, 19] [⟨(some 107), .load true 3 (.t 4), true, none⟩, ⟨(some 108), .load true 3 (.t 3), true, none⟩, ⟨(some 109), .call 12 [(.t 107), (.t 108)], false, none⟩, ⟨(some 106), .mv (.t 109), true, none⟩, ⟨(some 110), .extract (.t 106) 0, true, none⟩, ⟨(some 111), .extract (.t 106) 1, true, none⟩, ⟨(some 18), .alloc [(.int .i64 0), (.int .i64 0), .nils], false, none⟩, ⟨none, .store 3 (.t 18) (.t 110), false, none⟩, ⟨(some 19), .mv (.t 111), true, none⟩])
  (.seq (.region [16, 17, 18, 19, 20, 21] [⟨(some 113), .load true 3 (.t 3), true, none⟩, ⟨(some 114), .load true 3 (.t 4), true, none⟩, ⟨(some 115), .call 12 [(.t 113), (.t 114)], false, none⟩, ⟨(some 112), .mv (.t 115), true, none⟩, ⟨(some 116), .extract (.t 112) 0, true, none⟩, ⟨(some 117), .extract (.t 112) 1, true, none⟩, ⟨(some 20), .alloc [(.int .i64 0), (.int .i64 0), .nils], false, none⟩, ⟨none, .store 3 (.t 20) (.t 116), false, none⟩, ⟨(some 21), .mv (.t 117), true, none⟩])
  (.seq (.region [2] [⟨(some 118), .mv (.t 17), true, none⟩, ⟨(some 119), .bin .eql .other (.t 118) (.c (.int .i64 0)), true, none⟩, ⟨(some 120), .mv (.t 119), true, none⟩, ⟨(some 121), .mv (.t 19), true, (some (120, true))⟩, ⟨(some 122), .bin .eql .other (.t 121) (.c (.int .i64 0)), true, (some (120, true))⟩, ⟨(some 123), .pick (.t 120) (.t 122) (.c (.bool false)), true, none⟩, ⟨(some 124), .mv (.t 123), true, none⟩, ⟨(some 125), .mv (.t 21), true, (some (124, true))⟩, ⟨(some 126), .bin .eql .other (.t 125) (.c (.int .i64 0)), true, (some (124, true))⟩, ⟨(some 127), .pick (.t 124) (.t 126) (.c (.bool false)), true, none⟩, ⟨(some 128), .mv (.t 127), true, none⟩, ⟨(some 129), .load true 3 (.t 18), true, (some (128, true))⟩, ⟨(some 130), .load true 3 (.t 16), true, (some (128, true))⟩, ⟨(some 131), .call 18 [(.t 129), (.t 130)], false, (some (128, true))⟩, ⟨(some 132), .pick (.t 128) (.t 131) (.c (.bool false)), true, none⟩, ⟨(some 133), .mv (.t 132), true, none⟩, ⟨(some 134), .load true 3 (.t 20), true, (some (133, true))⟩, ⟨(some 135), .load true 3 (.t 16), true, (some (133, true))⟩, ⟨(some 136), .call 18 [(.t 134), (.t 135)], false, (some (133, true))⟩, ⟨(some 137), .pick (.t 133) (.t 136) (.c (.bool false)), true, none⟩, ⟨(some 2), .mv (.t 137), true, none⟩])
  .ret))))))))))))))))))⟩
theorem cf6 : cF Try.prog Try.f6 = some if6 := by kernel_rfl

/-- loop.example/g01076/laws.FnImageSpaces -/
def if7 : IFn := ⟨[0], [(.tmp 2)], (.seq (.region [0] [⟨(some 2), .mv (.c (.bool false)), true, none⟩])
  (.seq (.seq (.region [0, 18] [⟨(some 17), .mv (.t 0), true, none⟩, ⟨(some 18), .call 16 [(.t 17)], false, none⟩])
  (.cond (.t 18) (.seq (.region [2] [⟨(some 2), .mv (.c (.bool true)), true, none⟩])
  .ret) .skip))
  (.seq (.region [3, 4] [⟨(some 20), .mv (.t 0), true, none⟩, ⟨(some 21), .call 28 [(.t 20)], false, none⟩, ⟨(some 19), .mv (.t 21), true, none⟩, ⟨(some 22), .extract (.t 19) 0, true, none⟩, ⟨(some 23), .extract (.t 19) 1, true, none⟩, ⟨(some 3), .alloc [(.int .i64 0), (.int .i64 0), .nils], false, none⟩, ⟨(some 4), .alloc [(.int .i64 0), (.int .i64 0), .nils], false, none⟩, ⟨none, .store 3 (.t 3) (.t 22), false, none⟩, ⟨none, .store 3 (.t 4) (.t 23), false, none⟩])
  (.seq (.region [3, 4, 5, 6] [⟨(some 25), .load true 3 (.t 3), true, none⟩, ⟨(some 26), .load true 3 (.t 4), true, none⟩, ⟨(some 27), .call 22 [(.t 25), (.t 26)], false, none⟩, ⟨(some 24), .mv (.t 27), true, none⟩, ⟨(some 28), .extract (.t 24) 0, true, none⟩, ⟨(some 29), .extract (.t 24) 1, true, none⟩, ⟨(some 5), .alloc [(.int .i64 0), (.int .i64 0), .nils], false, none⟩, ⟨none, .store 3 (.t 5) (.t 28), false, none⟩, ⟨(some 6), .mv (.t 29), true, none⟩])
  (.seq (.region [3, 4, 5, 6, 7, 8] [⟨(some 31), .load true 3 (.t 3), true, none⟩, ⟨(some 32), .load true 3 (.t 4), true, none⟩, ⟨(some 33), .call 21 [(.t 31), (.t 32)], false, none⟩, ⟨(some 30), .mv (.t 33), true, none⟩, ⟨(some 34), .extract (.t 30) 0, true, none⟩, ⟨(some 35), .extract (.t 30) 1, true, none⟩, ⟨(some 7), .alloc [(.int .i64 0), (.int .i64 0), .nils], false, none⟩, ⟨none, .store 3 (.t 7) (.t 34), false, none⟩, ⟨(some 8), .mv (.t 35), true, none⟩])
  (.seq (.seq (.region [3, 4, 5, 6, 44] [⟨(some 36), .mv (.t 6), true, none⟩, ⟨(some 37), .mv (.t 8), true, none⟩, ⟨(some 38), .bin .neq .other (.t 36) (.t 37), true, none⟩, ⟨(some 39), .mv (.t 38), true, none⟩, ⟨(some 40), .load true 3 (.t 5), true, (some (39, false))⟩, ⟨(some 41), .load true 3 (.t 7), true, (some (39, false))⟩, ⟨(some 42), .call 18 [(.t 40), (.t 41)], false, (some (39, false))⟩, ⟨(some 43), .un .not (.t 42), true, (some (39, false))⟩, ⟨(some 44), .pick (.t 39) (.c (.bool true)) (.t 43), true, none⟩])
  (.cond (.t 44) (.seq (.region [2] [⟨(some 2), .mv (.c (.bool false)), true, none⟩])
  .ret) .skip))
  (.seq (.seq (.region [3, 4, 5, 46] [⟨(some 45), .mv (.t 6), true, none⟩, ⟨(some 46), .bin .neq .other (.t 45) (.c (.int .i64 0)), true, none⟩])
  (.cond (.t 46) (.seq (.region [2] [⟨(some 2), .mv (.c (.bool true)), true, none⟩])
  .ret) .skip))
  (.seq (.region [3, 4, 5, 9, 10] [⟨(some 48), .load true 3 (.t 5), true, none⟩, ⟨(some 49), .load true 3 (.t 4), true, none⟩, ⟨(some 50), .call 29 [(.t 48), (.t 49)], false, none⟩, ⟨(some 47), .mv (.t 50), true, none⟩, ⟨(some 51), .extract (.t 47) 0, true, none⟩, ⟨(some 52), .extract (.t 47) 1, true, none⟩, ⟨(some 9), .alloc [(.int .i64 0), (.int .i64 0), .nils], false, none⟩, ⟨none, .store 3 (.t 9) (.t 51), false, none⟩, ⟨(some 10), .mv (.t 52), true, none⟩])
  (.seq (.region [3, 5, 9, 10, 11, 12] [⟨(some 54), .load true 3 (.t 4), true, none⟩, ⟨(some 55), .call 30 [(.t 54)], false, none⟩, ⟨(some 53), .mv (.t 55), true, none⟩, ⟨(some 56), .extract (.t 53) 0, true, none⟩, ⟨(some 57), .extract (.t 53) 1, true, none⟩, ⟨(some 11), .alloc [(.int .i64 0), (.int .i64 0), .nils], false, none⟩, ⟨none, .store 3 (.t 11) (.t 56), false, none⟩, ⟨(some 12), .mv (.t 57), true, none⟩])
  (.seq (.region [3, 5, 9, 10, 11, 12, 13, 14] [⟨(some 59), .load true 3 (.t 3), true, none⟩, ⟨(some 60), .load true 3 (.t 11), true, none⟩, ⟨(some 61), .call 31 [(.t 59), (.t 60)], false, none⟩, ⟨(some 58), .mv (.t 61), true, none⟩, ⟨(some 62), .extract (.t 58) 0, true, none⟩, ⟨(some 63), .extract (.t 58) 1, true, none⟩, ⟨(some 13), .alloc [(.int .i64 0), (.int .i64 0), .nils], false, none⟩, ⟨none, .store 3 (.t 13) (.t 62), false, none⟩, ⟨(some 14), .mv (.t 63), true, none⟩])
  (.seq (.seq (.region [3, 5, 11, 79] [⟨(some 64), .mv (.t 10), true, none⟩, ⟨(some 65), .bin .neq .other (.t 64) (.c (.int .i64 0)), true, none⟩, ⟨(some 66), .mv (.t 65), true, none⟩, ⟨(some 67), .mv (.t 12), true, (some (66, false))⟩, ⟨(some 68), .bin .neq .other (.t 67) (.c (.int .i64 0)), true, (some (66, false))⟩, ⟨(some 69), .pick (.t 66) (.c (.bool true)) (.t 68), true, none⟩, ⟨(some 70), .mv (.t 69), true, none⟩, ⟨(some 71), .mv (.t 14), true, (some (70, false))⟩, ⟨(some 72), .bin .neq .other (.t 71) (.c (.int .i64 0)), true, (some (70, false))⟩, ⟨(some 73), .pick (.t 70) (.c (.bool true)) (.t 72), true, none⟩, ⟨(some 74), .mv (.t 73), true, none⟩, ⟨(some 75), .load true 3 (.t 9), true, (some (74, false))⟩, ⟨(some 76), .load true 3 (.t 13), true, (some (74, false))⟩, ⟨(some 77), .call 18 [(.t 75), (.t 76)], false, (some (74, false))⟩, ⟨(some 78), .un .not (.t 77), true, (some (74, false))⟩, ⟨(some 79), .pick (.t 74) (.c (.bool true)) (.t 78), true, none⟩])
  (.cond (.t 79) (.seq (.region [2] [⟨(some 2), .mv (.c (.bool false)), true, none⟩])
  .ret) .skip))
  (.seq (.region [3, 5, 15, 16] [⟨(some 81), .load true 3 (.t 3), true, none⟩, ⟨(some 82), .load true 3 (.t 11), true, none⟩, ⟨(some 83), .call 32 [(.t 81), (.t 82)], false, none⟩, ⟨(some 80), .mv (.t 83), true, none⟩, ⟨(some 84), .extract (.t 80) 0, true, none⟩, ⟨(some 85), .extract (.t 80) 1, true, none⟩, ⟨(some 15), .alloc [(.int .i64 0), (.int .i64 0), .nils], false, none⟩, ⟨none, .store 3 (.t 15) (.t 84), false, none⟩, ⟨(some 16), .mv (.t 85), true, none⟩])
  (.seq (.region [2] [⟨(some 86), .mv (.t 16), true, none⟩, ⟨(some 87), .bin .eql .other (.t 86) (.c (.int .i64 0)), true, none⟩, ⟨(some 88), .mv (.t 87), true, none⟩, ⟨(some 89), .fieldAddr 2 (.t 5), true, (some (88, true))⟩, ⟨(some 90), .load false 1 (.t 89), true, (some (88, true))⟩, ⟨(some 91), .len (.t 90), true, (some (88, true))⟩, ⟨(some 92), .fieldAddr 2 (.t 15), true, (some (88, true))⟩, ⟨(some 93), .load false 1 (.t 92), true, (some (88, true))⟩, ⟨(some 94), .len (.t 93), true, (some (88, true))⟩, ⟨(some 95), .bin .add .other (.t 91) (.t 94), true, (some (88, true))⟩, ⟨(some 96), .fieldAddr 2 (.t 3), true, (some (88, true))⟩, ⟨(some 97), .load false 1 (.t 96), true, (some (88, true))⟩, ⟨(some 98), .len (.t 97), true, (some (88, true))⟩, ⟨(some 99), .bin .eql .other (.t 95) (.t 98), true, (some (88, true))⟩, ⟨(some 100), .pick (.t 88) (.t 99) (.c (.bool false)), true, none⟩, ⟨(some 2), .mv (.t 100), true, none⟩])
  .ret)))))))))))))⟩
theorem cf7 : cF Try.prog Try.f7 = some if7 := by kernel_rfl

/-- loop.example/g01076/laws.FnKernels -/
def if8 : IFn := ⟨[0], [(.tmp 2)], (.seq (.region [0] [⟨(some 2), .mv (.c (.bool false)), true, none⟩])
  (.seq (.seq (.region [0, 21] [⟨(some 20), .mv (.t 0), true, none⟩, ⟨(some 21), .call 16 [(.t 20)], false, none⟩])
  (.cond (.t 21) (.seq (.region [2] [⟨(some 2), .mv (.c (.bool true)), true, none⟩])
  .ret) .skip))
  (.seq (.region [3, 4] [⟨(some 23), .mv (.t 0), true, none⟩, ⟨(some 24), .call 33 [(.t 23)], false, none⟩, ⟨(some 22), .mv (.t 24), true, none⟩, ⟨(some 25), .extract (.t 22) 0, true, none⟩, ⟨(some 26), .extract (.t 22) 1, true, none⟩, ⟨(some 3), .alloc [(.int .i64 0), (.int .i64 0), .nils], false, none⟩, ⟨none, .store 3 (.t 3) (.t 25), false, none⟩, ⟨(some 4), .mv (.t 26), true, none⟩])
  (.seq (.region [3, 4, 5, 6] [⟨(some 28), .load true 3 (.t 3), true, none⟩, ⟨(some 29), .mv (.t 4), true, none⟩, ⟨(some 30), .call 34 [(.t 28), (.t 29)], false, none⟩, ⟨(some 27), .mv (.t 30), true, none⟩, ⟨(some 31), .extract (.t 27) 0, true, none⟩, ⟨(some 32), .extract (.t 27) 1, true, none⟩, ⟨(some 5), .mv (.t 31), true, none⟩, ⟨(some 6), .mv (.t 32), true, none⟩])
  (.seq (.region [3, 4, 5, 6, 7, 8] [⟨(some 34), .load true 3 (.t 3), true, none⟩, ⟨(some 35), .mv (.t 4), true, none⟩, ⟨(some 36), .call 35 [(.t 34), (.t 35)], false, none⟩, ⟨(some 33), .mv (.t 36), true, none⟩, ⟨(some 37), .extract (.t 33) 0, true, none⟩, ⟨(some 38), .extract (.t 33) 1, true, none⟩, ⟨(some 7), .mv (.t 37), true, none⟩, ⟨(some 8), .mv (.t 38), true, none⟩])
  (.seq (.seq (.region [3, 4, 5, 6, 47] [⟨(some 39), .mv (.t 6), true, none⟩, ⟨(some 40), .mv (.t 8), true, none⟩, ⟨(some 41), .bin .neq .other (.t 39) (.t 40), true, none⟩, ⟨(some 42), .mv (.t 41), true, none⟩, ⟨(some 43), .mv (.t 5), true, (some (42, false))⟩, ⟨(some 44), .mv (.t 7), true, (some (42, false))⟩, ⟨(some 45), .call 36 [(.t 43), (.t 44)], false, (some (42, false))⟩, ⟨(some 46), .un .not (.t 45), true, (some (42, false))⟩, ⟨(some 47), .pick (.t 42) (.c (.bool true)) (.t 46), true, none⟩])
  (.cond (.t 47) (.seq (.region [2] [⟨(some 2), .mv (.c (.bool false)), true, none⟩])
  .ret) .skip))
  (.seq (.seq (.region [3, 4, 5, 6, 50] [⟨(some 48), .load true 3 (.t 3), true, none⟩, ⟨(some 49), .call 37 [(.t 48)], false, none⟩, ⟨(some 50), .un .not (.t 49), true, none⟩])
  (.cond (.t 50) (.seq (.region [2] [⟨(some 51), .load true 3 (.t 3), true, none⟩, ⟨(some 52), .call 38 [(.t 51)], false, none⟩, ⟨(some 53), .un .not (.t 52), true, none⟩, ⟨(some 2), .mv (.t 53), true, none⟩])
  .ret) .skip))
  (.seq (.region [3, 4, 5, 6, 9, 10] [⟨(some 55), .load true 3 (.t 3), true, none⟩, ⟨(some 56), .call 20 [(.t 55)], false, none⟩, ⟨(some 54), .mv (.t 56), true, none⟩, ⟨(some 57), .extract (.t 54) 0, true, none⟩, ⟨(some 58), .extract (.t 54) 1, true, none⟩, ⟨(some 9), .alloc [(.int .i64 0), (.int .i64 0), .nils], false, none⟩, ⟨none, .store 3 (.t 9) (.t 57), false, none⟩, ⟨(some 10), .mv (.t 58), true, none⟩])
  (.seq (.region [3, 4, 5, 6, 9, 10, 11, 12] [⟨(some 60), .load true 3 (.t 3), true, none⟩, ⟨(some 61), .call 30 [(.t 60)], false, none⟩, ⟨(some 59), .mv (.t 61), true, none⟩, ⟨(some 62), .extract (.t 59) 0, true, none⟩, ⟨(some 63), .extract (.t 59) 1, true, none⟩, ⟨(some 11), .alloc [(.int .i64 0), (.int .i64 0), .nils], false, none⟩, ⟨none, .store 3 (.t 11) (.t 62), false, none⟩, ⟨(some 12), .mv (.t 63), true, none⟩])
  (.seq (.seq (.region [3, 4, 5, 6, 9, 11, 82] [⟨(some 64), .mv (.t 10), true, none⟩, ⟨(some 65), .bin .neq .other (.t 64) (.c (.int .i64 0)), true, none⟩, ⟨(some 66), .mv (.t 65), true, none⟩, ⟨(some 67), .mv (.t 12), true, (some (66, false))⟩, ⟨(some 68), .bin .neq .other (.t 67) (.c (.int .i64 0)), true, (some (66, false))⟩, ⟨(some 69), .pick (.t 66) (.c (.bool true)) (.t 68), true, none⟩, ⟨(some 70), .mv (.t 69), true, none⟩, ⟨(some 71), .fieldAddr 2 (.t 9), true, (some (70, false))⟩, ⟨(some 72), .load false 1 (.t 71), true, (some (70, false))⟩, ⟨(some 73), .len (.t 72), true, (some (70, false))⟩, ⟨(some 74), .fieldAddr 2 (.t 11), true, (some (70, false))⟩, ⟨(some 75), .load false 1 (.t 74), true, (some (70, false))⟩, ⟨(some 76), .len (.t 75), true, (some (70, false))⟩, ⟨(some 77), .bin .add .other (.t 73) (.t 76), true, (some (70, false))⟩, ⟨(some 78), .fieldAddr 2 (.t 3), true, (some (70, false))⟩, ⟨(some 79), .load false 1 (.t 78), true, (some (70, false))⟩, ⟨(some 80), .len (.t 79), true, (some (70, false))⟩, ⟨(some 81), .bin .neq .other (.t 77) (.t 80), true, (some (70, false))⟩, ⟨(some 82), .pick (.t 70) (.c (.bool true)) (.t 81), true, none⟩])
  (.cond (.t 82) (.seq (.region [2] [⟨(some 2), .mv (.c (.bool false)), true, none⟩])
  .ret) .skip))
  (.seq (.region [3, 4, 5, 6, 9, 11, 13, 14] [⟨(some 84), .load true 3 (.t 11), true, none⟩, ⟨(some 85), .load true 3 (.t 3), true, none⟩, ⟨(some 86), .call 12 [(.t 84), (.t 85)], false, none⟩, ⟨(some 83), .mv (.t 86), true, none⟩, ⟨(some 87), .extract (.t 83) 0, true, none⟩, ⟨(some 88), .extract (.t 83) 1, true, none⟩, ⟨(some 13), .alloc [(.int .i64 0), (.int .i64 0), .nils], false, none⟩, ⟨none, .store 3 (.t 13) (.t 87), false, none⟩, ⟨(some 14), .mv (.t 88), true, none⟩])
  (.seq (.seq (.region [3, 4, 5, 6, 9, 13, 99] [⟨(some 89), .mv (.t 14), true, none⟩, ⟨(some 90), .bin .neq .other (.t 89) (.c (.int .i64 0)), true, none⟩, ⟨(some 91), .mv (.t 90), true, none⟩, ⟨(some 92), .fieldAddr 2 (.t 13), true, (some (91, false))⟩, ⟨(some 93), .load false 1 (.t 92), true, (some (91, false))⟩, ⟨(some 94), .len (.t 93), true, (some (91, false))⟩, ⟨(some 95), .fieldAddr 2 (.t 11), true, (some (91, false))⟩, ⟨(some 96), .load false 1 (.t 95), true, (some (91, false))⟩, ⟨(some 97), .len (.t 96), true, (some (91, false))⟩, ⟨(some 98), .bin .neq .other (.t 94) (.t 97), true, (some (91, false))⟩, ⟨(some 99), .pick (.t 91) (.c (.bool true)) (.t 98), true, none⟩])
  (.cond (.t 99) (.seq (.region [2] [⟨(some 2), .mv (.c (.bool false)), true, none⟩])
  .ret) .skip))
  (.seq (.seq (.region [3, 4, 5, 6, 9, 13, 15] [⟨(some 15), .mv (.c (.int .i64 0)), true, none⟩])
  (.block 0 (.loop [3, 4, 5, 6, 9, 13, 15] (.seq (.seq (.region [3, 4, 5, 6, 9, 13, 15, 104] [⟨(some 100), .mv (.t 15), true, none⟩, ⟨(some 101), .fieldAddr 2 (.t 13), true, none⟩, ⟨(some 102), .load false 1 (.t 101), true, none⟩, ⟨(some 103), .len (.t 102), true, none⟩, ⟨(some 104), .bin .lss .other (.t 100) (.t 103), true, none⟩])
  (.cond (.t 104) .skip (.exit 0)))
  (.seq (.block 1 (.seq (.region [3, 4, 5, 6, 9, 13, 15, 113] [⟨(some 107), .fieldAddr 2 (.t 13), true, none⟩, ⟨(some 108), .load false 1 (.t 107), true, none⟩, ⟨(some 109), .mv (.t 15), true, none⟩, ⟨(some 110), .indexAddr 1 (.t 108) (.t 109), true, none⟩, ⟨(some 111), .load false 1 (.t 110), true, none⟩, ⟨(some 112), .call 39 [(.t 111)], false, none⟩, ⟨(some 113), .bin .neq .other (.t 112) (.c (.int .i64 0)), true, none⟩])
  (.cond (.t 113) (.seq (.region [2] [⟨(some 2), .mv (.c (.bool false)), true, none⟩])
  .ret) .skip)))
  (.region [3, 4, 5, 6, 9, 13, 15] [⟨(some 105), .mv (.t 15), true, none⟩, ⟨(some 106), .bin .add .other (.t 105) (.c (.int .i64 1)), true, none⟩, ⟨(some 15), .mv (.t 106), true, none⟩]))))))
  (.seq (.seq (.region [3, 4, 5, 9, 115] [⟨(some 114), .mv (.t 6), true, none⟩, ⟨(some 115), .bin .neq .other (.t 114) (.c (.int .i64 0)), true, none⟩])
  (.cond (.t 115) (.seq (.region [2] [⟨(some 2), .mv (.c (.bool true)), true, none⟩])
  .ret) .skip))
  (.seq (.region [4, 9, 16, 17] [⟨(some 117), .fieldAddr 0 (.t 3), true, none⟩, ⟨(some 118), .load false 1 (.t 117), true, none⟩, ⟨(some 119), .fieldAddr 2 (.t 3), true, none⟩, ⟨(some 120), .load false 1 (.t 119), true, none⟩, ⟨(some 121), .len (.t 120), true, none⟩, ⟨(some 122), .mv (.t 5), true, none⟩, ⟨(some 123), .buildSl 1 1 [.nils] [(0, 1, (.t 122))], false, none⟩, ⟨(some 124), .build [(.int .i64 0), (.int .i64 0), .nils] [(0, 1, (.t 118)), (1, 1, (.t 121)), (2, 1, (.t 123))], true, none⟩, ⟨(some 125), .load true 3 (.t 3), true, none⟩, ⟨(some 126), .call 12 [(.t 124), (.t 125)], false, none⟩, ⟨(some 116), .mv (.t 126), true, none⟩, ⟨(some 127), .extract (.t 116) 0, true, none⟩, ⟨(some 128), .extract (.t 116) 1, true, none⟩, ⟨(some 16), .alloc [(.int .i64 0), (.int .i64 0), .nils], false, none⟩, ⟨none, .store 3 (.t 16) (.t 127), false, none⟩, ⟨(some 17), .mv (.t 128), true, none⟩])
  (.seq (.seq (.region [4, 9, 145] [⟨(some 129), .mv (.t 17), true, none⟩, ⟨(some 130), .bin .neq .other (.t 129) (.c (.int .i64 0)), true, none⟩, ⟨(some 131), .mv (.t 130), true, none⟩, ⟨(some 132), .fieldAddr 2 (.t 16), true, (some (131, false))⟩, ⟨(some 133), .load false 1 (.t 132), true, (some (131, false))⟩, ⟨(some 134), .len (.t 133), true, (some (131, false))⟩, ⟨(some 135), .bin .neq .other (.t 134) (.c (.int .i64 1)), true, (some (131, false))⟩, ⟨(some 136), .pick (.t 131) (.c (.bool true)) (.t 135), true, none⟩, ⟨(some 137), .mv (.t 136), true, none⟩, ⟨(some 138), .fieldAddr 2 (.t 16), true, (some (137, false))⟩, ⟨(some 139), .load false 1 (.t 138), true, (some (137, false))⟩, ⟨(some 140), .indexAddr 1 (.t 139) (.c (.int .i64 0)), true, (some (137, false))⟩, ⟨(some 141), .load false 1 (.t 140), true, (some (137, false))⟩, ⟨(some 142), .mv (.t 4), true, (some (137, false))⟩, ⟨(some 143), .call 36 [(.t 141), (.t 142)], false, (some (137, false))⟩, ⟨(some 144), .un .not (.t 143), true, (some (137, false))⟩, ⟨(some 145), .pick (.t 137) (.c (.bool true)) (.t 144), true, none⟩])
  (.cond (.t 145) (.seq (.region [2] [⟨(some 2), .mv (.c (.bool false)), true, none⟩])
  .ret) .skip))
  (.seq (.region [18, 19] [⟨(some 147), .load true 3 (.t 9), true, none⟩, ⟨(some 148), .mv (.t 4), true, none⟩, ⟨(some 149), .call 40 [(.t 147), (.t 148)], false, none⟩, ⟨(some 146), .mv (.t 149), true, none⟩, ⟨(some 150), .extract (.t 146) 0, true, none⟩, ⟨(some 151), .extract (.t 146) 1, true, none⟩, ⟨(some 18), .mv (.t 150), true, none⟩, ⟨(some 19), .mv (.t 151), true, none⟩])
  (.seq (.region [2] [⟨(some 152), .mv (.t 18), true, none⟩, ⟨(some 153), .mv (.t 152), true, none⟩, ⟨(some 154), .mv (.t 19), true, (some (153, true))⟩, ⟨(some 155), .bin .eql .other (.t 154) (.c (.int .i64 0)), true, (some (153, true))⟩, ⟨(some 156), .pick (.t 153) (.t 155) (.c (.bool false)), true, none⟩, ⟨(some 2), .mv (.t 156), true, none⟩])
  .ret))))))))))))))))))⟩
theorem cf8 : cF Try.prog Try.f8 = some if8 := by kernel_rfl

/-- loop.example/g01076/laws.szMatrix -/
def if9 : IFn := ⟨[0, 1], [(.tmp 4)], (.seq (.region [1, 2] [⟨(some 2), .box (.t 0), false, none⟩, ⟨(some 4), .mv (.c (.int .i64 0)), true, none⟩])
  (.seq (.region [1] [⟨(some 5), .fieldAddr 2 (.t 2), true, none⟩, ⟨(some 6), .load false 1 (.t 5), true, none⟩, ⟨(some 7), .mv (.t 1), true, none⟩, ⟨(some 8), .call 41 [(.t 6), (.t 7)], false, none⟩, ⟨(some 1), .mv (.t 8), true, none⟩])
  (.seq (.seq (.region [1, 10] [⟨(some 9), .mv (.t 1), true, none⟩, ⟨(some 10), .bin .lss .other (.t 9) (.c (.int .i64 0)), true, none⟩])
  (.cond (.t 10) (.seq (.region [4] [⟨(some 4), .mv (.c (.int .i64 (-1))), true, none⟩])
  .ret) .skip))
  (.seq (.region [4] [⟨(some 11), .mv (.t 1), true, none⟩, ⟨(some 4), .mv (.t 11), true, none⟩])
  .ret))))⟩
theorem cf9 : cF Try.prog Try.f9 = some if9 := by kernel_rfl

/-- loop.example/g01076/spec.MatrixProduct -/
def if10 : IFn := ⟨[0, 1], [(.cell 4 true 3), (.tmp 5)], (.seq (.region [2, 3, 4] [⟨(some 2), .box (.t 0), false, none⟩, ⟨(some 3), .box (.t 1), false, none⟩, ⟨(some 4), .alloc [(.int .i64 0), (.int .i64 0), .nils], false, none⟩, ⟨(some 5), .mv (.c (.int .i64 0)), true, none⟩])
  (.seq (.seq (.region [2, 3, 4, 13] [⟨(some 6), .load true 3 (.t 2), true, none⟩, ⟨(some 7), .call 37 [(.t 6)], false, none⟩, ⟨(some 8), .un .not (.t 7), true, none⟩, ⟨(some 9), .mv (.t 8), true, none⟩, ⟨(some 10), .load true 3 (.t 3), true, (some (9, false))⟩, ⟨(some 11), .call 37 [(.t 10)], false, (some (9, false))⟩, ⟨(some 12), .un .not (.t 11), true, (some (9, false))⟩, ⟨(some 13), .pick (.t 9) (.c (.bool true)) (.t 12), true, none⟩])
  (.cond (.t 13) (.seq (.region [4, 5] [⟨(some 14), .build [(.int .i64 0), (.int .i64 0), .nils] [], true, none⟩, ⟨none, .store 3 (.t 4) (.t 14), false, none⟩, ⟨(some 5), .mv (.c (.int .i64 1)), true, none⟩])
  .ret) .skip))
  (.seq (.seq (.region [2, 3, 4, 27] [⟨(some 15), .fieldAddr 0 (.t 2), true, none⟩, ⟨(some 16), .load false 1 (.t 15), true, none⟩, ⟨(some 17), .fieldAddr 0 (.t 3), true, none⟩, ⟨(some 18), .load false 1 (.t 17), true, none⟩, ⟨(some 19), .bin .neq .other (.t 16) (.t 18), true, none⟩, ⟨(some 20), .mv (.t 19), true, none⟩, ⟨(some 21), .fieldAddr 2 (.t 3), true, (some (20, false))⟩, ⟨(some 22), .load false 1 (.t 21), true, (some (20, false))⟩, ⟨(some 23), .len (.t 22), true, (some (20, false))⟩, ⟨(some 24), .fieldAddr 1 (.t 2), true, (some (20, false))⟩, ⟨(some 25), .load false 1 (.t 24), true, (some (20, false))⟩, ⟨(some 26), .bin .neq .other (.t 23) (.t 25), true, (some (20, false))⟩, ⟨(some 27), .pick (.t 20) (.c (.bool true)) (.t 26), true, none⟩])
  (.cond (.t 27) (.seq (.region [4, 5] [⟨(some 28), .build [(.int .i64 0), (.int .i64 0), .nils] [], true, none⟩, ⟨none, .store 3 (.t 4) (.t 28), false, none⟩, ⟨(some 5), .mv (.c (.int .i64 2)), true, none⟩])
  .ret) .skip))
  (.seq (.draw [4, 5] [] [⟨⟨(some 29), .fieldAddr 0 (.t 2), true, none⟩, 0, []⟩, ⟨⟨(some 30), .load false 1 (.t 29), true, none⟩, 1, []⟩, ⟨⟨(some 31), .fieldAddr 1 (.t 3), true, none⟩, 2, []⟩, ⟨⟨(some 32), .load false 1 (.t 31), true, none⟩, 3, []⟩, ⟨⟨(some 33), .fieldAddr 0 (.t 2), true, none⟩, 4, []⟩, ⟨⟨(some 34), .load false 1 (.t 33), true, none⟩, 5, []⟩, ⟨⟨(some 35), .fieldAddr 2 (.t 2), true, none⟩, 6, []⟩, ⟨⟨(some 36), .load false 1 (.t 35), true, none⟩, 7, []⟩, ⟨⟨(some 37), .fieldAddr 2 (.t 3), true, none⟩, 8, []⟩, ⟨⟨(some 38), .load false 1 (.t 37), true, none⟩, 9, []⟩, ⟨⟨(some 39), .fieldAddr 1 (.t 3), true, none⟩, 10, []⟩, ⟨⟨(some 40), .load false 1 (.t 39), true, none⟩, 11, []⟩, ⟨⟨(some 41), .call 43 [(.t 34), (.t 36), (.t 38), (.t 40)], false, none⟩, 12, [1, 3]⟩, ⟨⟨(some 42), .call 42 [(.t 30), (.t 32), (.t 41)], false, none⟩, 13, []⟩, ⟨⟨none, .store 3 (.t 4) (.t 42), false, none⟩, 14, []⟩, ⟨⟨(some 5), .mv (.c (.int .i64 0)), true, none⟩, 15, []⟩])
  .ret))))⟩
theorem cf10 : cF Try.prog Try.f10 = some if10 := by kernel_rfl

/-- loop.example/g01076/laws.toMatrix -/
def if11 : IFn := ⟨[0], [(.cell 2 true 3)], (.seq (.region [1, 2] [⟨(some 1), .box (.t 0), false, none⟩, ⟨(some 2), .alloc [(.int .i64 0), (.int .i64 0), .nils], false, none⟩])
  (.seq (.region [1, 2, 3] [⟨(some 3), .alloc [(.int .i64 0), (.int .i64 0), .nils], false, none⟩])
  (.seq (.region [1, 2, 3] [⟨(some 4), .fieldAddr 0 (.t 1), true, none⟩, ⟨(some 5), .load false 1 (.t 4), true, none⟩, ⟨(some 6), .fieldAddr 0 (.t 3), true, none⟩, ⟨none, .store 1 (.t 6) (.t 5), false, none⟩])
  (.seq (.region [1, 2, 3] [⟨(some 7), .fieldAddr 1 (.t 1), true, none⟩, ⟨(some 8), .load false 1 (.t 7), true, none⟩, ⟨(some 9), .fieldAddr 1 (.t 3), true, none⟩, ⟨none, .store 1 (.t 9) (.t 8), false, none⟩])
  (.seq (.region [2, 3] [⟨(some 10), .fieldAddr 2 (.t 1), true, none⟩, ⟨(some 11), .load false 1 (.t 10), true, none⟩, ⟨(some 12), .call 44 [(.t 11)], false, none⟩, ⟨(some 13), .fieldAddr 2 (.t 3), true, none⟩, ⟨none, .store 1 (.t 13) (.t 12), false, none⟩])
  (.seq (.region [2] [⟨(some 14), .load true 3 (.t 3), true, none⟩, ⟨none, .store 3 (.t 2) (.t 14), false, none⟩])
  .ret))))))⟩
theorem cf11 : cF Try.prog Try.f11 = some if11 := by kernel_rfl

/-- loop.example/g01076/impl.MatrixProduct -/
def if12 : IFn := ⟨[0, 1], [(.cell 4 true 3), (.tmp 5)], (.seq (.region [2, 3, 4] [⟨(some 2), .box (.t 0), false, none⟩, ⟨(some 3), .box (.t 1), false, none⟩, ⟨(some 4), .alloc [(.int .i64 0), (.int .i64 0), .nils], false, none⟩, ⟨(some 5), .mv (.c (.int .i64 0)), true, none⟩])
  (.seq (.seq (.region [2, 3, 4, 13] [⟨(some 6), .load true 3 (.t 2), true, none⟩, ⟨(some 7), .call 38 [(.t 6)], false, none⟩, ⟨(some 8), .un .not (.t 7), true, none⟩, ⟨(some 9), .mv (.t 8), true, none⟩, ⟨(some 10), .load true 3 (.t 3), true, (some (9, false))⟩, ⟨(some 11), .call 38 [(.t 10)], false, (some (9, false))⟩, ⟨(some 12), .un .not (.t 11), true, (some (9, false))⟩, ⟨(some 13), .pick (.t 9) (.c (.bool true)) (.t 12), true, none⟩])
  (.cond (.t 13) (.seq (.region [4, 5] [⟨(some 14), .build [(.int .i64 0), (.int .i64 0), .nils] [], true, none⟩, ⟨none, .store 3 (.t 4) (.t 14), false, none⟩, ⟨(some 5), .mv (.c (.int .i64 1)), true, none⟩])
  .ret) .skip))
  (.seq (.seq (.region [2, 3, 4, 27] [⟨(some 15), .fieldAddr 0 (.t 2), true, none⟩, ⟨(some 16), .load false 1 (.t 15), true, none⟩, ⟨(some 17), .fieldAddr 0 (.t 3), true, none⟩, ⟨(some 18), .load false 1 (.t 17), true, none⟩, ⟨(some 19), .bin .neq .other (.t 16) (.t 18), true, none⟩, ⟨(some 20), .mv (.t 19), true, none⟩, ⟨(some 21), .fieldAddr 2 (.t 3), true, (some (20, false))⟩, ⟨(some 22), .load false 1 (.t 21), true, (some (20, false))⟩, ⟨(some 23), .len (.t 22), true, (some (20, false))⟩, ⟨(some 24), .fieldAddr 1 (.t 2), true, (some (20, false))⟩, ⟨(some 25), .load false 1 (.t 24), true, (some (20, false))⟩, ⟨(some 26), .bin .neq .other (.t 23) (.t 25), true, (some (20, false))⟩, ⟨(some 27), .pick (.t 20) (.c (.bool true)) (.t 26), true, none⟩])
  (.cond (.t 27) (.seq (.region [4, 5] [⟨(some 28), .build [(.int .i64 0), (.int .i64 0), .nils] [], true, none⟩, ⟨none, .store 3 (.t 4) (.t 28), false, none⟩, ⟨(some 5), .mv (.c (.int .i64 2)), true, none⟩])
  .ret) .skip))
  (.seq (.region [4, 5] [⟨(some 29), .load true 3 (.t 2), true, none⟩, ⟨(some 30), .load true 3 (.t 3), true, none⟩, ⟨(some 31), .call 45 [(.t 29), (.t 30)], false, none⟩, ⟨none, .store 3 (.t 4) (.t 31), false, none⟩, ⟨(some 5), .mv (.c (.int .i64 0)), true, none⟩])
  .ret))))⟩
theorem cf12 : cF Try.prog Try.f12 = some if12 := by kernel_rfl

/-- loop.example/g01076/laws.eqMatrix -/
def if13 : IFn := ⟨[0, 1], [(.tmp 4)], (.seq (.region [2, 3] [⟨(some 2), .box (.t 0), false, none⟩, ⟨(some 3), .box (.t 1), false, none⟩, ⟨(some 4), .mv (.c (.bool false)), true, none⟩])
  (.seq (.seq (.region [2, 3, 9] [⟨(some 5), .fieldAddr 0 (.t 2), true, none⟩, ⟨(some 6), .load false 1 (.t 5), true, none⟩, ⟨(some 7), .fieldAddr 0 (.t 3), true, none⟩, ⟨(some 8), .load false 1 (.t 7), true, none⟩, ⟨(some 9), .bin .neq .other (.t 6) (.t 8), true, none⟩])
  (.cond (.t 9) (.seq (.region [4] [⟨(some 4), .mv (.c (.bool false)), true, none⟩])
  .ret) .skip))
  (.seq (.seq (.region [2, 3, 14] [⟨(some 10), .fieldAddr 1 (.t 2), true, none⟩, ⟨(some 11), .load false 1 (.t 10), true, none⟩, ⟨(some 12), .fieldAddr 1 (.t 3), true, none⟩, ⟨(some 13), .load false 1 (.t 12), true, none⟩, ⟨(some 14), .bin .neq .other (.t 11) (.t 13), true, none⟩])
  (.cond (.t 14) (.seq (.region [4] [⟨(some 4), .mv (.c (.bool false)), true, none⟩])
  .ret) .skip))
  (.seq (.seq (.region [20] [⟨(some 15), .fieldAddr 2 (.t 2), true, none⟩, ⟨(some 16), .load false 1 (.t 15), true, none⟩, ⟨(some 17), .fieldAddr 2 (.t 3), true, none⟩, ⟨(some 18), .load false 1 (.t 17), true, none⟩, ⟨(some 19), .call 46 [(.t 16), (.t 18)], false, none⟩, ⟨(some 20), .un .not (.t 19), true, none⟩])
  (.cond (.t 20) (.seq (.region [4] [⟨(some 4), .mv (.c (.bool false)), true, none⟩])
  .ret) .skip))
  (.seq (.region [4] [⟨(some 4), .mv (.c (.bool true)), true, none⟩])
  .ret)))))⟩
theorem cf13 : cF Try.prog Try.f13 = some if13 := by kernel_rfl

/-- loop.example/g01076/laws.markMatrix -/
def if14 : IFn := ⟨[0, 1], [(.tmp 4)], (.seq (.region [1, 2] [⟨(some 2), .box (.t 0), false, none⟩, ⟨(some 4), .mv (.c (.int .i64 0)), true, none⟩])
  (.seq (.region [1] [⟨(some 5), .fieldAddr 2 (.t 2), true, none⟩, ⟨(some 6), .load false 1 (.t 5), true, none⟩, ⟨(some 7), .mv (.t 1), true, none⟩, ⟨(some 8), .call 47 [(.t 6), (.t 7)], false, none⟩, ⟨(some 1), .mv (.t 8), true, none⟩])
  (.seq (.region [4] [⟨(some 9), .mv (.t 1), true, none⟩, ⟨(some 4), .mv (.t 9), true, none⟩])
  .ret)))⟩
theorem cf14 : cF Try.prog Try.f14 = some if14 := by kernel_rfl

/-- loop.example/g01076/laws.heldMatrix -/
def if15 : IFn := ⟨[0, 1], [(.tmp 4)], (.seq (.region [1, 2] [⟨(some 2), .box (.t 0), false, none⟩, ⟨(some 4), .mv (.c (.int .i64 0)), true, none⟩])
  (.seq (.region [1] [⟨(some 5), .fieldAddr 2 (.t 2), true, none⟩, ⟨(some 6), .load false 1 (.t 5), true, none⟩, ⟨(some 7), .mv (.t 1), true, none⟩, ⟨(some 8), .call 48 [(.t 6), (.t 7)], false, none⟩, ⟨(some 1), .mv (.t 8), true, none⟩])
  (.seq (.seq (.region [1, 10] [⟨(some 9), .mv (.t 1), true, none⟩, ⟨(some 10), .bin .lss .other (.t 9) (.c (.int .i64 0)), true, none⟩])
  (.cond (.t 10) (.seq (.region [4] [⟨(some 4), .mv (.c (.int .i64 (-1))), true, none⟩])
  .ret) .skip))
  (.seq (.region [4] [⟨(some 11), .mv (.t 1), true, none⟩, ⟨(some 4), .mv (.t 11), true, none⟩])
  .ret))))⟩
theorem cf15 : cF Try.prog Try.f15 = some if15 := by kernel_rfl

/-- loop.example/g01076/laws.big -/
def if16 : IFn := ⟨[0], [(.tmp 2)], (.seq (.region [0] [⟨(some 2), .mv (.c (.bool false)), true, none⟩])
  (.seq (.region [2] [⟨(some 3), .mv (.t 0), true, none⟩, ⟨(some 4), .len (.t 3), true, none⟩, ⟨(some 5), .bin .gtr .other (.t 4) (.c (.int .i64 4096)), true, none⟩, ⟨(some 2), .mv (.t 5), true, none⟩])
  .ret))⟩
theorem cf16 : cF Try.prog Try.f16 = some if16 := by kernel_rfl

/-- loop.example/g01076/spec.DrawMatrixProduct -/
def if17 : IFn := ⟨[0], [(.cell 2 true 3), (.cell 3 true 3)], (.seq (.region [0, 2, 3] [⟨(some 2), .alloc [(.int .i64 0), (.int .i64 0), .nils], false, none⟩, ⟨(some 3), .alloc [(.int .i64 0), (.int .i64 0), .nils], false, none⟩])
  (.seq (.region [2, 3, 4] [⟨(some 7), .mv (.t 0), true, none⟩, ⟨(some 8), .call 49 [(.t 7)], false, none⟩, ⟨(some 4), .mv (.t 8), true, none⟩])
  (.seq (.region [2, 3, 4, 5] [⟨(some 9), .mv (.t 4), true, none⟩, ⟨(some 10), .call 50 [(.t 9)], false, none⟩, ⟨(some 5), .alloc [(.int .i64 0), (.int .i64 0), .nils], false, none⟩, ⟨none, .store 3 (.t 5) (.t 10), false, none⟩])
  (.seq (.seq (.region [2, 3, 4, 5, 13] [⟨(some 11), .mv (.t 4), true, none⟩, ⟨(some 12), .call 51 [(.t 11), (.c (.int .i64 12))], false, none⟩, ⟨(some 13), .bin .eql .other (.t 12) (.c (.int .i64 0)), true, none⟩])
  (.cond (.t 13) (.seq (.draw [2, 3] [] [⟨⟨(some 14), .load true 3 (.t 5), true, none⟩, 0, []⟩, ⟨⟨(some 15), .mv (.t 4), true, none⟩, 1, []⟩, ⟨⟨(some 16), .call 50 [(.t 15)], false, none⟩, 2, [0]⟩, ⟨⟨none, .store 3 (.t 2) (.t 14), false, none⟩, 3, []⟩, ⟨⟨none, .store 3 (.t 3) (.t 16), false, none⟩, 4, []⟩])
  .ret) .skip))
  (.seq (.region [2, 3, 4, 5, 6] [⟨(some 17), .fieldAddr 0 (.t 5), true, none⟩, ⟨(some 18), .load false 1 (.t 17), true, none⟩, ⟨(some 6), .mv (.t 18), true, none⟩])
  (.seq (.seq (.region [2, 3, 4, 5, 6, 21] [⟨(some 19), .mv (.t 6), true, none⟩, ⟨(some 20), .call 52 [(.t 19)], false, none⟩, ⟨(some 21), .un .not (.t 20), true, none⟩])
  (.cond (.t 21) (.region [2, 3, 4, 5, 6] [⟨(some 6), .mv (.c (.int .i64 2)), true, none⟩]) .skip))
  (.seq (.draw [2, 3] [] [⟨⟨(some 22), .load true 3 (.t 5), true, none⟩, 0, []⟩, ⟨⟨(some 23), .mv (.t 4), true, none⟩, 1, []⟩, ⟨⟨(some 24), .mv (.t 4), true, none⟩, 2, []⟩, ⟨⟨(some 25), .mv (.t 6), true, none⟩, 3, []⟩, ⟨⟨(some 26), .fieldAddr 1 (.t 5), true, none⟩, 4, []⟩, ⟨⟨(some 27), .load false 1 (.t 26), true, none⟩, 5, []⟩, ⟨⟨(some 28), .maxmin false (.t 27) (.c (.int .i64 8)), true, none⟩, 6, []⟩, ⟨⟨(some 29), .maxmin true (.c (.int .i64 0)) (.t 28), true, none⟩, 7, []⟩, ⟨⟨(some 30), .mv (.t 4), true, none⟩, 8, []⟩, ⟨⟨(some 31), .call 51 [(.t 30), (.c (.int .i64 5))], false, none⟩, 9, [0, 5]⟩, ⟨⟨(some 32), .call 54 [(.t 24), (.t 25), (.t 29), (.t 31)], false, none⟩, 10, [0]⟩, ⟨⟨(some 33), .call 53 [(.t 23), (.t 32)], false, none⟩, 11, [0]⟩, ⟨⟨none, .store 3 (.t 2) (.t 22), false, none⟩, 12, []⟩, ⟨⟨none, .store 3 (.t 3) (.t 33), false, none⟩, 13, []⟩])
  .ret)))))))⟩
theorem cf17 : cF Try.prog Try.f17 = some if17 := by kernel_rfl

/-- loop.example/g01076/laws.likeM9 -/
def if18 : IFn := ⟨[0, 1], [(.tmp 4)], (.seq (.region [2, 3] [⟨(some 2), .box (.t 0), false, none⟩, ⟨(some 3), .box (.t 1), false, none⟩, ⟨(some 4), .mv (.c (.bool false)), true, none⟩])
  (.seq (.region [4] [⟨(some 5), .fieldAddr 0 (.t 2), true, none⟩, ⟨(some 6), .load false 1 (.t 5), true, none⟩, ⟨(some 7), .fieldAddr 0 (.t 3), true, none⟩, ⟨(some 8), .load false 1 (.t 7), true, none⟩, ⟨(some 9), .bin .eql .other (.t 6) (.t 8), true, none⟩, ⟨(some 10), .mv (.t 9), true, none⟩, ⟨(some 11), .fieldAddr 1 (.t 2), true, (some (10, true))⟩, ⟨(some 12), .load false 1 (.t 11), true, (some (10, true))⟩, ⟨(some 13), .fieldAddr 1 (.t 3), true, (some (10, true))⟩, ⟨(some 14), .load false 1 (.t 13), true, (some (10, true))⟩, ⟨(some 15), .bin .eql .other (.t 12) (.t 14), true, (some (10, true))⟩, ⟨(some 16), .pick (.t 10) (.t 15) (.c (.bool false)), true, none⟩, ⟨(some 17), .mv (.t 16), true, none⟩, ⟨(some 18), .fieldAddr 2 (.t 2), true, (some (17, true))⟩, ⟨(some 19), .load false 1 (.t 18), true, (some (17, true))⟩, ⟨(some 20), .fieldAddr 2 (.t 3), true, (some (17, true))⟩, ⟨(some 21), .load false 1 (.t 20), true, (some (17, true))⟩, ⟨(some 22), .call 55 [(.t 19), (.t 21)], false, (some (17, true))⟩, ⟨(some 23), .pick (.t 17) (.t 22) (.c (.bool false)), true, none⟩, ⟨(some 4), .mv (.t 23), true, none⟩])
  .ret))⟩
theorem cf18 : cF Try.prog Try.f18 = some if18 := by kernel_rfl

/-- loop.example/g01076/impl.TransposeMatrix -/
def if19 : IFn := ⟨[0], [(.cell 2 true 3), (.tmp 3)], (.seq (.region [1, 2] [⟨(some 1), .box (.t 0), false, none⟩, ⟨(some 2), .alloc [(.int .i64 0), (.int .i64 0), .nils], false, none⟩, ⟨(some 3), .mv (.c (.int .i64 0)), true, none⟩])
  (.seq (.seq (.region [1, 2, 6] [⟨(some 4), .load true 3 (.t 1), true, none⟩, ⟨(some 5), .call 38 [(.t 4)], false, none⟩, ⟨(some 6), .un .not (.t 5), true, none⟩])
  (.cond (.t 6) (.seq (.region [2, 3] [⟨(some 7), .build [(.int .i64 0), (.int .i64 0), .nils] [], true, none⟩, ⟨none, .store 3 (.t 2) (.t 7), false, none⟩, ⟨(some 3), .mv (.c (.int .i64 1)), true, none⟩])
  .ret) .skip))
  (.seq (.region [2, 3] [⟨(some 8), .load true 3 (.t 1), true, none⟩, ⟨(some 9), .call 56 [(.t 8)], false, none⟩, ⟨none, .store 3 (.t 2) (.t 9), false, none⟩, ⟨(some 3), .mv (.c (.int .i64 0)), true, none⟩])
  .ret)))⟩
theorem cf19 : cF Try.prog Try.f19 = some if19 := by kernel_rfl

/-- loop.example/g01076/impl.ReduceRows -/
def if20 : IFn := ⟨[0], [(.cell 2 true 3), (.tmp 3)], (.seq (.region [1, 2] [⟨(some 1), .box (.t 0), false, none⟩, ⟨(some 2), .alloc [(.int .i64 0), (.int .i64 0), .nils], false, none⟩, ⟨(some 3), .mv (.c (.int .i64 0)), true, none⟩])
  (.seq (.seq (.region [1, 2, 6] [⟨(some 4), .load true 3 (.t 1), true, none⟩, ⟨(some 5), .call 38 [(.t 4)], false, none⟩, ⟨(some 6), .un .not (.t 5), true, none⟩])
  (.cond (.t 6) (.seq (.region [2, 3] [⟨(some 7), .build [(.int .i64 0), (.int .i64 0), .nils] [], true, none⟩, ⟨none, .store 3 (.t 2) (.t 7), false, none⟩, ⟨(some 3), .mv (.c (.int .i64 1)), true, none⟩])
  .ret) .skip))
  (.seq (.region [2, 3] [⟨(some 8), .load true 3 (.t 1), true, none⟩, ⟨(some 9), .call 57 [(.t 8)], false, none⟩, ⟨none, .store 3 (.t 2) (.t 9), false, none⟩, ⟨(some 3), .mv (.c (.int .i64 0)), true, none⟩])
  .ret)))⟩
theorem cf20 : cF Try.prog Try.f20 = some if20 := by kernel_rfl

/-- loop.example/g01076/spec.ImageSubspace -/
def if21 : IFn := ⟨[0, 1], [(.cell 4 true 3), (.tmp 5)], (.seq (.region [2, 3, 4] [⟨(some 2), .box (.t 0), false, none⟩, ⟨(some 3), .box (.t 1), false, none⟩, ⟨(some 4), .alloc [(.int .i64 0), (.int .i64 0), .nils], false, none⟩, ⟨(some 5), .mv (.c (.int .i64 0)), true, none⟩])
  (.seq (.seq (.region [2, 3, 4, 13] [⟨(some 6), .load true 3 (.t 2), true, none⟩, ⟨(some 7), .call 58 [(.t 6)], false, none⟩, ⟨(some 8), .un .not (.t 7), true, none⟩, ⟨(some 9), .mv (.t 8), true, none⟩, ⟨(some 10), .load true 3 (.t 3), true, (some (9, false))⟩, ⟨(some 11), .call 37 [(.t 10)], false, (some (9, false))⟩, ⟨(some 12), .un .not (.t 11), true, (some (9, false))⟩, ⟨(some 13), .pick (.t 9) (.c (.bool true)) (.t 12), true, none⟩])
  (.cond (.t 13) (.seq (.region [4, 5] [⟨(some 14), .build [(.int .i64 0), (.int .i64 0), .nils] [], true, none⟩, ⟨none, .store 3 (.t 4) (.t 14), false, none⟩, ⟨(some 5), .mv (.c (.int .i64 1)), true, none⟩])
  .ret) .skip))
  (.seq (.seq (.region [2, 3, 4, 27] [⟨(some 15), .fieldAddr 0 (.t 2), true, none⟩, ⟨(some 16), .load false 1 (.t 15), true, none⟩, ⟨(some 17), .fieldAddr 0 (.t 3), true, none⟩, ⟨(some 18), .load false 1 (.t 17), true, none⟩, ⟨(some 19), .bin .neq .other (.t 16) (.t 18), true, none⟩, ⟨(some 20), .mv (.t 19), true, none⟩, ⟨(some 21), .fieldAddr 2 (.t 3), true, (some (20, false))⟩, ⟨(some 22), .load false 1 (.t 21), true, (some (20, false))⟩, ⟨(some 23), .len (.t 22), true, (some (20, false))⟩, ⟨(some 24), .fieldAddr 1 (.t 2), true, (some (20, false))⟩, ⟨(some 25), .load false 1 (.t 24), true, (some (20, false))⟩, ⟨(some 26), .bin .neq .other (.t 23) (.t 25), true, (some (20, false))⟩, ⟨(some 27), .pick (.t 20) (.c (.bool true)) (.t 26), true, none⟩])
  (.cond (.t 27) (.seq (.region [4, 5] [⟨(some 28), .build [(.int .i64 0), (.int .i64 0), .nils] [], true, none⟩, ⟨none, .store 3 (.t 4) (.t 28), false, none⟩, ⟨(some 5), .mv (.c (.int .i64 2)), true, none⟩])
  .ret) .skip))
  (.seq (.draw [4, 5] [] [⟨⟨(some 29), .fieldAddr 0 (.t 2), true, none⟩, 0, []⟩, ⟨⟨(some 30), .load false 1 (.t 29), true, none⟩, 1, []⟩, ⟨⟨(some 31), .fieldAddr 1 (.t 3), true, none⟩, 2, []⟩, ⟨⟨(some 32), .load false 1 (.t 31), true, none⟩, 3, []⟩, ⟨⟨(some 33), .fieldAddr 0 (.t 2), true, none⟩, 4, []⟩, ⟨⟨(some 34), .load false 1 (.t 33), true, none⟩, 5, []⟩, ⟨⟨(some 35), .fieldAddr 0 (.t 2), true, none⟩, 6, []⟩, ⟨⟨(some 36), .load false 1 (.t 35), true, none⟩, 7, []⟩, ⟨⟨(some 37), .fieldAddr 2 (.t 2), true, none⟩, 8, []⟩, ⟨⟨(some 38), .load false 1 (.t 37), true, none⟩, 9, []⟩, ⟨⟨(some 39), .fieldAddr 2 (.t 3), true, none⟩, 10, []⟩, ⟨⟨(some 40), .load false 1 (.t 39), true, none⟩, 11, []⟩, ⟨⟨(some 41), .fieldAddr 1 (.t 3), true, none⟩, 12, []⟩, ⟨⟨(some 42), .load false 1 (.t 41), true, none⟩, 13, []⟩, ⟨⟨(some 43), .call 43 [(.t 36), (.t 38), (.t 40), (.t 42)], false, none⟩, 14, [1, 3, 5]⟩, ⟨⟨(some 44), .call 59 [(.t 34), (.t 43)], false, none⟩, 15, [1, 3]⟩, ⟨⟨(some 45), .call 42 [(.t 30), (.t 32), (.t 44)], false, none⟩, 16, []⟩, ⟨⟨none, .store 3 (.t 4) (.t 45), false, none⟩, 17, []⟩, ⟨⟨(some 5), .mv (.c (.int .i64 0)), true, none⟩, 18, []⟩])
  .ret))))⟩
theorem cf21 : cF Try.prog Try.f21 = some if21 := by kernel_rfl

/-- loop.example/g01076/impl.ImageSubspace -/
def if22 : IFn := ⟨[0, 1], [(.cell 4 true 3), (.tmp 5)], (.seq (.region [2, 3, 4] [⟨(some 2), .box (.t 0), false, none⟩, ⟨(some 3), .box (.t 1), false, none⟩, ⟨(some 4), .alloc [(.int .i64 0), (.int .i64 0), .nils], false, none⟩, ⟨(some 5), .mv (.c (.int .i64 0)), true, none⟩])
  (.seq (.seq (.region [2, 3, 4, 13] [⟨(some 6), .load true 3 (.t 2), true, none⟩, ⟨(some 7), .call 60 [(.t 6)], false, none⟩, ⟨(some 8), .un .not (.t 7), true, none⟩, ⟨(some 9), .mv (.t 8), true, none⟩, ⟨(some 10), .load true 3 (.t 3), true, (some (9, false))⟩, ⟨(some 11), .call 38 [(.t 10)], false, (some (9, false))⟩, ⟨(some 12), .un .not (.t 11), true, (some (9, false))⟩, ⟨(some 13), .pick (.t 9) (.c (.bool true)) (.t 12), true, none⟩])
  (.cond (.t 13) (.seq (.region [4, 5] [⟨(some 14), .build [(.int .i64 0), (.int .i64 0), .nils] [], true, none⟩, ⟨none, .store 3 (.t 4) (.t 14), false, none⟩, ⟨(some 5), .mv (.c (.int .i64 1)), true, none⟩])
  .ret) .skip))
  (.seq (.seq (.region [2, 3, 4, 27] [⟨(some 15), .fieldAddr 0 (.t 2), true, none⟩, ⟨(some 16), .load false 1 (.t 15), true, none⟩, ⟨(some 17), .fieldAddr 0 (.t 3), true, none⟩, ⟨(some 18), .load false 1 (.t 17), true, none⟩, ⟨(some 19), .bin .neq .other (.t 16) (.t 18), true, none⟩, ⟨(some 20), .mv (.t 19), true, none⟩, ⟨(some 21), .fieldAddr 2 (.t 3), true, (some (20, false))⟩, ⟨(some 22), .load false 1 (.t 21), true, (some (20, false))⟩, ⟨(some 23), .len (.t 22), true, (some (20, false))⟩, ⟨(some 24), .fieldAddr 1 (.t 2), true, (some (20, false))⟩, ⟨(some 25), .load false 1 (.t 24), true, (some (20, false))⟩, ⟨(some 26), .bin .neq .other (.t 23) (.t 25), true, (some (20, false))⟩, ⟨(some 27), .pick (.t 20) (.c (.bool true)) (.t 26), true, none⟩])
  (.cond (.t 27) (.seq (.region [4, 5] [⟨(some 28), .build [(.int .i64 0), (.int .i64 0), .nils] [], true, none⟩, ⟨none, .store 3 (.t 4) (.t 28), false, none⟩, ⟨(some 5), .mv (.c (.int .i64 2)), true, none⟩])
  .ret) .skip))
  (.seq (.region [4, 5] [⟨(some 29), .load true 3 (.t 2), true, none⟩, ⟨(some 30), .load true 3 (.t 3), true, none⟩, ⟨(some 31), .call 45 [(.t 29), (.t 30)], false, none⟩, ⟨(some 32), .call 57 [(.t 31)], false, none⟩, ⟨none, .store 3 (.t 4) (.t 32), false, none⟩, ⟨(some 5), .mv (.c (.int .i64 0)), true, none⟩])
  .ret))))⟩
theorem cf22 : cF Try.prog Try.f22 = some if22 := by kernel_rfl

/-- loop.example/g01076/spec.DrawInverseMatrix -/
def if23 : IFn := ⟨[0], [(.cell 2 true 3)], (.seq (.region [0, 2] [⟨(some 2), .alloc [(.int .i64 0), (.int .i64 0), .nils], false, none⟩])
  (.seq (.region [2] [⟨(some 3), .mv (.t 0), true, none⟩, ⟨(some 4), .call 49 [(.t 3)], false, none⟩, ⟨(some 5), .call 61 [(.t 4)], false, none⟩, ⟨none, .store 3 (.t 2) (.t 5), false, none⟩])
  .ret))⟩
theorem cf23 : cF Try.prog Try.f23 = some if23 := by kernel_rfl

/-- loop.example/g01076/impl.InverseMatrix -/
def if24 : IFn := ⟨[0], [(.cell 2 true 3), (.tmp 3)], (.seq (.region [1, 2] [⟨(some 1), .box (.t 0), false, none⟩, ⟨(some 2), .alloc [(.int .i64 0), (.int .i64 0), .nils], false, none⟩, ⟨(some 3), .mv (.c (.int .i64 0)), true, none⟩])
  (.seq (.seq (.region [1, 2, 8] [⟨(some 6), .load true 3 (.t 1), true, none⟩, ⟨(some 7), .call 38 [(.t 6)], false, none⟩, ⟨(some 8), .un .not (.t 7), true, none⟩])
  (.cond (.t 8) (.seq (.region [2, 3] [⟨(some 9), .build [(.int .i64 0), (.int .i64 0), .nils] [], true, none⟩, ⟨none, .store 3 (.t 2) (.t 9), false, none⟩, ⟨(some 3), .mv (.c (.int .i64 1)), true, none⟩])
  .ret) .skip))
  (.seq (.seq (.region [1, 2, 15] [⟨(some 10), .fieldAddr 2 (.t 1), true, none⟩, ⟨(some 11), .load false 1 (.t 10), true, none⟩, ⟨(some 12), .len (.t 11), true, none⟩, ⟨(some 13), .fieldAddr 1 (.t 1), true, none⟩, ⟨(some 14), .load false 1 (.t 13), true, none⟩, ⟨(some 15), .bin .neq .other (.t 12) (.t 14), true, none⟩])
  (.cond (.t 15) (.seq (.region [2, 3] [⟨(some 16), .build [(.int .i64 0), (.int .i64 0), .nils] [], true, none⟩, ⟨none, .store 3 (.t 2) (.t 16), false, none⟩, ⟨(some 3), .mv (.c (.int .i64 2)), true, none⟩])
  .ret) .skip))
  (.seq (.region [2, 4, 5] [⟨(some 18), .load true 3 (.t 1), true, none⟩, ⟨(some 19), .call 62 [(.t 18)], false, none⟩, ⟨(some 17), .mv (.t 19), true, none⟩, ⟨(some 20), .extract (.t 17) 0, true, none⟩, ⟨(some 21), .extract (.t 17) 1, true, none⟩, ⟨(some 4), .alloc [(.int .i64 0), (.int .i64 0), .nils], false, none⟩, ⟨none, .store 3 (.t 4) (.t 20), false, none⟩, ⟨(some 5), .mv (.t 21), true, none⟩])
  (.seq (.seq (.region [2, 4, 23] [⟨(some 22), .mv (.t 5), true, none⟩, ⟨(some 23), .un .not (.t 22), true, none⟩])
  (.cond (.t 23) (.seq (.region [2, 3] [⟨(some 24), .build [(.int .i64 0), (.int .i64 0), .nils] [], true, none⟩, ⟨none, .store 3 (.t 2) (.t 24), false, none⟩, ⟨(some 3), .mv (.c (.int .i64 4)), true, none⟩])
  .ret) .skip))
  (.seq (.region [2, 3] [⟨(some 25), .load true 3 (.t 4), true, none⟩, ⟨none, .store 3 (.t 2) (.t 25), false, none⟩, ⟨(some 3), .mv (.c (.int .i64 0)), true, none⟩])
  .ret))))))⟩
theorem cf24 : cF Try.prog Try.f24 = some if24 := by kernel_rfl

/-- loop.example/g01076/spec.InverseMatrix -/
def if25 : IFn := ⟨[0], [(.cell 2 true 3), (.tmp 3)], (.seq (.region [1, 2] [⟨(some 1), .box (.t 0), false, none⟩, ⟨(some 2), .alloc [(.int .i64 0), (.int .i64 0), .nils], false, none⟩, ⟨(some 3), .mv (.c (.int .i64 0)), true, none⟩])
  (.seq (.seq (.region [1, 2, 8] [⟨(some 6), .load true 3 (.t 1), true, none⟩, ⟨(some 7), .call 37 [(.t 6)], false, none⟩, ⟨(some 8), .un .not (.t 7), true, none⟩])
  (.cond (.t 8) (.seq (.region [2, 3] [⟨(some 9), .build [(.int .i64 0), (.int .i64 0), .nils] [], true, none⟩, ⟨none, .store 3 (.t 2) (.t 9), false, none⟩, ⟨(some 3), .mv (.c (.int .i64 1)), true, none⟩])
  .ret) .skip))
  (.seq (.seq (.region [1, 2, 12] [⟨(some 10), .load true 3 (.t 1), true, none⟩, ⟨(some 11), .call 63 [(.t 10)], false, none⟩, ⟨(some 12), .un .not (.t 11), true, none⟩])
  (.cond (.t 12) (.seq (.region [2, 3] [⟨(some 13), .build [(.int .i64 0), (.int .i64 0), .nils] [], true, none⟩, ⟨none, .store 3 (.t 2) (.t 13), false, none⟩, ⟨(some 3), .mv (.c (.int .i64 2)), true, none⟩])
  .ret) .skip))
  (.seq (.region [1, 2, 4, 5] [⟨(some 15), .fieldAddr 0 (.t 1), true, none⟩, ⟨(some 16), .load false 1 (.t 15), true, none⟩, ⟨(some 17), .fieldAddr 2 (.t 1), true, none⟩, ⟨(some 18), .load false 1 (.t 17), true, none⟩, ⟨(some 19), .call 64 [(.t 16), (.t 18)], false, none⟩, ⟨(some 14), .mv (.t 19), true, none⟩, ⟨(some 20), .extract (.t 14) 0, true, none⟩, ⟨(some 21), .extract (.t 14) 1, true, none⟩, ⟨(some 4), .mv (.t 20), true, none⟩, ⟨(some 5), .mv (.t 21), true, none⟩])
  (.seq (.seq (.region [1, 2, 4, 23] [⟨(some 22), .mv (.t 5), true, none⟩, ⟨(some 23), .un .not (.t 22), true, none⟩])
  (.cond (.t 23) (.seq (.region [2, 3] [⟨(some 24), .build [(.int .i64 0), (.int .i64 0), .nils] [], true, none⟩, ⟨none, .store 3 (.t 2) (.t 24), false, none⟩, ⟨(some 3), .mv (.c (.int .i64 4)), true, none⟩])
  .ret) .skip))
  (.seq (.region [2, 3] [⟨(some 25), .fieldAddr 0 (.t 1), true, none⟩, ⟨(some 26), .load false 1 (.t 25), true, none⟩, ⟨(some 27), .fieldAddr 1 (.t 1), true, none⟩, ⟨(some 28), .load false 1 (.t 27), true, none⟩, ⟨(some 29), .mv (.t 4), true, none⟩, ⟨(some 30), .call 42 [(.t 26), (.t 28), (.t 29)], false, none⟩, ⟨none, .store 3 (.t 2) (.t 30), false, none⟩, ⟨(some 3), .mv (.c (.int .i64 0)), true, none⟩])
  .ret))))))⟩
theorem cf25 : cF Try.prog Try.f25 = some if25 := by kernel_rfl

/-- loop.example/g01076/impl.Determinant -/
def if26 : IFn := ⟨[0], [(.tmp 2), (.tmp 3)], (.seq (.region [1] [⟨(some 1), .box (.t 0), false, none⟩, ⟨(some 2), .mv (.c (.int .i64 0)), true, none⟩, ⟨(some 3), .mv (.c (.int .i64 0)), true, none⟩])
  (.seq (.seq (.region [1, 6] [⟨(some 4), .load true 3 (.t 1), true, none⟩, ⟨(some 5), .call 38 [(.t 4)], false, none⟩, ⟨(some 6), .un .not (.t 5), true, none⟩])
  (.cond (.t 6) (.seq (.region [2, 3] [⟨(some 2), .mv (.c (.int .i64 0)), true, none⟩, ⟨(some 3), .mv (.c (.int .i64 1)), true, none⟩])
  .ret) .skip))
  (.seq (.seq (.region [1, 12] [⟨(some 7), .fieldAddr 2 (.t 1), true, none⟩, ⟨(some 8), .load false 1 (.t 7), true, none⟩, ⟨(some 9), .len (.t 8), true, none⟩, ⟨(some 10), .fieldAddr 1 (.t 1), true, none⟩, ⟨(some 11), .load false 1 (.t 10), true, none⟩, ⟨(some 12), .bin .neq .other (.t 9) (.t 11), true, none⟩])
  (.cond (.t 12) (.seq (.region [2, 3] [⟨(some 2), .mv (.c (.int .i64 0)), true, none⟩, ⟨(some 3), .mv (.c (.int .i64 2)), true, none⟩])
  .ret) .skip))
  (.seq (.region [2, 3] [⟨(some 13), .load true 3 (.t 1), true, none⟩, ⟨(some 14), .call 65 [(.t 13)], false, none⟩, ⟨(some 2), .mv (.t 14), true, none⟩, ⟨(some 3), .mv (.c (.int .i64 0)), true, none⟩])
  .ret))))⟩
theorem cf26 : cF Try.prog Try.f26 = some if26 := by kernel_rfl

/-- loop.example/g01076/impl.IdentityMatrix -/
def if27 : IFn := ⟨[0, 1], [(.cell 4 true 3), (.tmp 5)], (.seq (.region [0, 1, 4] [⟨(some 4), .alloc [(.int .i64 0), (.int .i64 0), .nils], false, none⟩, ⟨(some 5), .mv (.c (.int .i64 0)), true, none⟩])
  (.seq (.seq (.region [0, 1, 4, 13] [⟨(some 6), .mv (.t 0), true, none⟩, ⟨(some 7), .call 66 [(.t 6)], false, none⟩, ⟨(some 8), .un .not (.t 7), true, none⟩, ⟨(some 9), .mv (.t 8), true, none⟩, ⟨(some 10), .mv (.t 1), true, (some (9, false))⟩, ⟨(some 11), .call 67 [(.t 10), (.c (.int .i64 0)), (.c (.int .i64 8))], false, (some (9, false))⟩, ⟨(some 12), .un .not (.t 11), true, (some (9, false))⟩, ⟨(some 13), .pick (.t 9) (.c (.bool true)) (.t 12), true, none⟩])
  (.cond (.t 13) (.seq (.region [4, 5] [⟨(some 14), .build [(.int .i64 0), (.int .i64 0), .nils] [], true, none⟩, ⟨none, .store 3 (.t 4) (.t 14), false, none⟩, ⟨(some 5), .mv (.c (.int .i64 2)), true, none⟩])
  .ret) .skip))
  (.seq (.region [4, 5] [⟨(some 15), .mv (.t 0), true, none⟩, ⟨(some 16), .mv (.t 1), true, none⟩, ⟨(some 17), .call 68 [(.t 15), (.t 16)], false, none⟩, ⟨none, .store 3 (.t 4) (.t 17), false, none⟩, ⟨(some 5), .mv (.c (.int .i64 0)), true, none⟩])
  .ret)))⟩
theorem cf27 : cF Try.prog Try.f27 = some if27 := by kernel_rfl

/-- loop.example/g01076/spec.DrawImageSubspace -/
def if28 : IFn := ⟨[0], [(.cell 2 true 3), (.cell 3 true 3)], (.seq (.region [0, 2, 3] [⟨(some 2), .alloc [(.int .i64 0), (.int .i64 0), .nils], false, none⟩, ⟨(some 3), .alloc [(.int .i64 0), (.int .i64 0), .nils], false, none⟩])
  (.seq (.region [2, 3, 4] [⟨(some 6), .mv (.t 0), true, none⟩, ⟨(some 7), .call 49 [(.t 6)], false, none⟩, ⟨(some 4), .mv (.t 7), true, none⟩])
  (.seq (.region [2, 3, 4, 5] [⟨(some 8), .mv (.t 4), true, none⟩, ⟨(some 9), .call 69 [(.t 8)], false, none⟩, ⟨(some 5), .alloc [(.int .i64 0), (.int .i64 0), .nils], false, none⟩, ⟨none, .store 3 (.t 5) (.t 9), false, none⟩])
  (.seq (.seq (.region [2, 3, 4, 5, 17] [⟨(some 10), .load true 3 (.t 5), true, none⟩, ⟨(some 11), .call 58 [(.t 10)], false, none⟩, ⟨(some 12), .un .not (.t 11), true, none⟩, ⟨(some 13), .mv (.t 12), true, none⟩, ⟨(some 14), .mv (.t 4), true, (some (13, false))⟩, ⟨(some 15), .call 51 [(.t 14), (.c (.int .i64 15))], false, (some (13, false))⟩, ⟨(some 16), .bin .eql .other (.t 15) (.c (.int .i64 0)), true, (some (13, false))⟩, ⟨(some 17), .pick (.t 13) (.c (.bool true)) (.t 16), true, none⟩])
  (.cond (.t 17) (.seq (.draw [2, 3] [] [⟨⟨(some 18), .load true 3 (.t 5), true, none⟩, 0, []⟩, ⟨⟨(some 19), .mv (.t 4), true, none⟩, 1, []⟩, ⟨⟨(some 20), .call 50 [(.t 19)], false, none⟩, 2, [0]⟩, ⟨⟨none, .store 3 (.t 2) (.t 18), false, none⟩, 3, []⟩, ⟨⟨none, .store 3 (.t 3) (.t 20), false, none⟩, 4, []⟩])
  .ret) .skip))
  (.seq (.draw [2, 3] [] [⟨⟨(some 21), .load true 3 (.t 5), true, none⟩, 0, []⟩, ⟨⟨(some 22), .mv (.t 4), true, none⟩, 1, []⟩, ⟨⟨(some 23), .mv (.t 4), true, none⟩, 2, []⟩, ⟨⟨(some 24), .fieldAddr 0 (.t 5), true, none⟩, 3, []⟩, ⟨⟨(some 25), .load false 1 (.t 24), true, none⟩, 4, []⟩, ⟨⟨(some 26), .fieldAddr 1 (.t 5), true, none⟩, 5, []⟩, ⟨⟨(some 27), .load false 1 (.t 26), true, none⟩, 6, []⟩, ⟨⟨(some 28), .mv (.t 4), true, none⟩, 7, []⟩, ⟨⟨(some 29), .call 51 [(.t 28), (.c (.int .i64 5))], false, none⟩, 8, [0, 4, 6]⟩, ⟨⟨(some 30), .call 54 [(.t 23), (.t 25), (.t 27), (.t 29)], false, none⟩, 9, [0]⟩, ⟨⟨(some 31), .call 53 [(.t 22), (.t 30)], false, none⟩, 10, [0]⟩, ⟨⟨none, .store 3 (.t 2) (.t 21), false, none⟩, 11, []⟩, ⟨⟨none, .store 3 (.t 3) (.t 31), false, none⟩, 12, []⟩])
  .ret)))))⟩
theorem cf28 : cF Try.prog Try.f28 = some if28 := by kernel_rfl

/-- loop.example/g01076/impl.PreimageSubspace -/
def if29 : IFn := ⟨[0, 1], [(.cell 4 true 3), (.tmp 5)], (.seq (.region [2, 3, 4] [⟨(some 2), .box (.t 0), false, none⟩, ⟨(some 3), .box (.t 1), false, none⟩, ⟨(some 4), .alloc [(.int .i64 0), (.int .i64 0), .nils], false, none⟩, ⟨(some 5), .mv (.c (.int .i64 0)), true, none⟩])
  (.seq (.seq (.region [2, 3, 4, 19] [⟨(some 12), .load true 3 (.t 2), true, none⟩, ⟨(some 13), .call 60 [(.t 12)], false, none⟩, ⟨(some 14), .un .not (.t 13), true, none⟩, ⟨(some 15), .mv (.t 14), true, none⟩, ⟨(some 16), .load true 3 (.t 3), true, (some (15, false))⟩, ⟨(some 17), .call 38 [(.t 16)], false, (some (15, false))⟩, ⟨(some 18), .un .not (.t 17), true, (some (15, false))⟩, ⟨(some 19), .pick (.t 15) (.c (.bool true)) (.t 18), true, none⟩])
  (.cond (.t 19) (.seq (.region [4, 5] [⟨(some 20), .build [(.int .i64 0), (.int .i64 0), .nils] [], true, none⟩, ⟨none, .store 3 (.t 4) (.t 20), false, none⟩, ⟨(some 5), .mv (.c (.int .i64 1)), true, none⟩])
  .ret) .skip))
  (.seq (.seq (.region [2, 3, 4, 32] [⟨(some 21), .fieldAddr 0 (.t 2), true, none⟩, ⟨(some 22), .load false 1 (.t 21), true, none⟩, ⟨(some 23), .fieldAddr 0 (.t 3), true, none⟩, ⟨(some 24), .load false 1 (.t 23), true, none⟩, ⟨(some 25), .bin .neq .other (.t 22) (.t 24), true, none⟩, ⟨(some 26), .mv (.t 25), true, none⟩, ⟨(some 27), .fieldAddr 1 (.t 2), true, (some (26, false))⟩, ⟨(some 28), .load false 1 (.t 27), true, (some (26, false))⟩, ⟨(some 29), .fieldAddr 1 (.t 3), true, (some (26, false))⟩, ⟨(some 30), .load false 1 (.t 29), true, (some (26, false))⟩, ⟨(some 31), .bin .neq .other (.t 28) (.t 30), true, (some (26, false))⟩, ⟨(some 32), .pick (.t 26) (.c (.bool true)) (.t 31), true, none⟩])
  (.cond (.t 32) (.seq (.region [4, 5] [⟨(some 33), .build [(.int .i64 0), (.int .i64 0), .nils] [], true, none⟩, ⟨none, .store 3 (.t 4) (.t 33), false, none⟩, ⟨(some 5), .mv (.c (.int .i64 2)), true, none⟩])
  .ret) .skip))
  (.seq (.region [2, 3, 4, 6] [⟨(some 34), .fieldAddr 2 (.t 3), true, none⟩, ⟨(some 35), .load false 1 (.t 34), true, none⟩, ⟨(some 36), .len (.t 35), true, none⟩, ⟨(some 6), .mv (.t 36), true, none⟩])
  (.seq (.draw [2, 3, 4, 6, 7] [[(.int .i64 0), (.int .i64 0), .nils]] [⟨⟨(some 37), .fieldAddr 0 (.t 2), true, none⟩, 0, []⟩, ⟨⟨(some 38), .load false 1 (.t 37), true, none⟩, 1, []⟩, ⟨⟨(some 39), .fieldAddr 1 (.t 2), true, none⟩, 2, []⟩, ⟨⟨(some 40), .load false 1 (.t 39), true, none⟩, 3, []⟩, ⟨⟨(some 41), .fieldAddr 2 (.t 3), true, none⟩, 4, []⟩, ⟨⟨(some 42), .load false 1 (.t 41), true, none⟩, 5, []⟩, ⟨⟨(some 44), .fieldAddr 2 (.t 2), true, none⟩, 7, []⟩, ⟨⟨(some 45), .load false 1 (.t 44), true, none⟩, 8, []⟩, ⟨⟨(some 7), .rev 0, true, none⟩, 11, []⟩, ⟨⟨(some 43), .call 71 [(.t 42)], false, none⟩, 6, [1, 3, 8]⟩, ⟨⟨(some 46), .append 1 24 (.t 43) (.t 45), false, none⟩, 9, [1, 3]⟩, ⟨⟨(some 47), .call 70 [(.t 38), (.t 40), (.t 46)], false, none⟩, 10, []⟩, ⟨⟨none, .store 3 (.t 7) (.t 47), false, none⟩, 12, []⟩])
  (.seq (.draw [2, 4, 6, 8] [] [⟨⟨(some 48), .fieldAddr 0 (.t 2), true, none⟩, 0, []⟩, ⟨⟨(some 49), .load false 1 (.t 48), true, none⟩, 1, []⟩, ⟨⟨(some 50), .fieldAddr 2 (.t 3), true, none⟩, 2, []⟩, ⟨⟨(some 51), .load false 1 (.t 50), true, none⟩, 3, []⟩, ⟨⟨(some 53), .fieldAddr 2 (.t 2), true, none⟩, 5, []⟩, ⟨⟨(some 54), .load false 1 (.t 53), true, none⟩, 6, []⟩, ⟨⟨(some 56), .fieldAddr 1 (.t 7), true, none⟩, 8, []⟩, ⟨⟨(some 57), .load false 1 (.t 56), true, none⟩, 9, []⟩, ⟨⟨(some 52), .call 71 [(.t 51)], false, none⟩, 4, [1, 6, 9]⟩, ⟨⟨(some 55), .append 1 24 (.t 52) (.t 54), false, none⟩, 7, [1, 9]⟩, ⟨⟨(some 58), .call 72 [(.t 49), (.t 55), (.t 57)], false, none⟩, 10, []⟩, ⟨⟨(some 8), .mv (.t 58), true, none⟩, 11, []⟩])
  (.seq (.region [2, 4, 6, 8, 9] [⟨(some 9), .mv (.c .nils), true, none⟩])
  (.seq (.seq (.region [2, 4, 6, 9, 59, 60, 61] [⟨(some 59), .mv (.t 8), true, none⟩, ⟨(some 60), .len (.t 59), true, none⟩, ⟨(some 61), .mv (.c (.int .i64 0)), true, none⟩])
  (.block 0 (.loop [2, 4, 6, 9, 59, 60, 61] (.seq (.region [2, 4, 6, 9, 59, 60, 61, 62] [⟨(some 62), .bin .lss .other (.t 61) (.t 60), true, none⟩])
  (.seq (.cond (.t 62) .skip (.exit 0))
  (.seq (.block 1 (.seq (.region [2, 4, 6, 9, 11, 59, 60, 61] [⟨(some 63), .indexAddr 1 (.t 59) (.t 61), true, none⟩, ⟨(some 64), .load false 1 (.t 63), true, none⟩, ⟨(some 11), .mv (.t 64), true, none⟩])
  (.region [2, 4, 6, 9, 59, 60, 61] [⟨(some 65), .mv (.t 9), true, none⟩, ⟨(some 66), .mv (.t 11), true, none⟩, ⟨(some 67), .mv (.t 6), true, none⟩, ⟨(some 68), .slice 1 (.t 66) none (some (.t 67)) none, true, none⟩, ⟨(some 69), .buildSl 1 1 [.nils] [(0, 1, (.t 68))], false, none⟩, ⟨(some 70), .append 1 24 (.t 65) (.t 69), false, none⟩, ⟨(some 9), .mv (.t 70), true, none⟩])))
  (.region [2, 4, 6, 9, 59, 60, 61] [⟨(some 71), .bin .add .other (.t 61) (.c (.int .i64 1)), true, none⟩, ⟨(some 61), .mv (.t 71), true, none⟩])))))))
  (.seq (.region [4, 5] [⟨(some 72), .fieldAddr 0 (.t 2), true, none⟩, ⟨(some 73), .load false 1 (.t 72), true, none⟩, ⟨(some 74), .mv (.t 6), true, none⟩, ⟨(some 75), .mv (.t 9), true, none⟩, ⟨(some 76), .call 70 [(.t 73), (.t 74), (.t 75)], false, none⟩, ⟨none, .store 3 (.t 4) (.t 76), false, none⟩, ⟨(some 5), .mv (.c (.int .i64 0)), true, none⟩])
  .ret)))))))))⟩
theorem cf29 : cF Try.prog Try.f29 = some if29 := by kernel_rfl

/-- loop.example/g01076/impl.LeftKernel -/
def if30 : IFn := ⟨[0], [(.cell 2 true 3), (.tmp 3)], (.seq (.region [1, 2] [⟨(some 1), .box (.t 0), false, none⟩, ⟨(some 2), .alloc [(.int .i64 0), (.int .i64 0), .nils], false, none⟩, ⟨(some 3), .mv (.c (.int .i64 0)), true, none⟩])
  (.seq (.seq (.region [1, 2, 6] [⟨(some 4), .load true 3 (.t 1), true, none⟩, ⟨(some 5), .call 38 [(.t 4)], false, none⟩, ⟨(some 6), .un .not (.t 5), true, none⟩])
  (.cond (.t 6) (.seq (.region [2, 3] [⟨(some 7), .build [(.int .i64 0), (.int .i64 0), .nils] [], true, none⟩, ⟨none, .store 3 (.t 2) (.t 7), false, none⟩, ⟨(some 3), .mv (.c (.int .i64 1)), true, none⟩])
  .ret) .skip))
  (.seq (.region [2, 3] [⟨(some 8), .load true 3 (.t 1), true, none⟩, ⟨(some 9), .call 73 [(.t 8)], false, none⟩, ⟨none, .store 3 (.t 2) (.t 9), false, none⟩, ⟨(some 3), .mv (.c (.int .i64 0)), true, none⟩])
  .ret)))⟩
theorem cf30 : cF Try.prog Try.f30 = some if30 := by kernel_rfl

/-- loop.example/g01076/impl.SubspaceSum -/
def if31 : IFn := ⟨[0, 1], [(.cell 4 true 3), (.tmp 5)], (.seq (.region [2, 3, 4] [⟨(some 2), .box (.t 0), false, none⟩, ⟨(some 3), .box (.t 1), false, none⟩, ⟨(some 4), .alloc [(.int .i64 0), (.int .i64 0), .nils], false, none⟩, ⟨(some 5), .mv (.c (.int .i64 0)), true, none⟩])
  (.seq (.seq (.region [2, 3, 4, 13] [⟨(some 6), .load true 3 (.t 2), true, none⟩, ⟨(some 7), .call 60 [(.t 6)], false, none⟩, ⟨(some 8), .un .not (.t 7), true, none⟩, ⟨(some 9), .mv (.t 8), true, none⟩, ⟨(some 10), .load true 3 (.t 3), true, (some (9, false))⟩, ⟨(some 11), .call 60 [(.t 10)], false, (some (9, false))⟩, ⟨(some 12), .un .not (.t 11), true, (some (9, false))⟩, ⟨(some 13), .pick (.t 9) (.c (.bool true)) (.t 12), true, none⟩])
  (.cond (.t 13) (.seq (.region [4, 5] [⟨(some 14), .build [(.int .i64 0), (.int .i64 0), .nils] [], true, none⟩, ⟨none, .store 3 (.t 4) (.t 14), false, none⟩, ⟨(some 5), .mv (.c (.int .i64 1)), true, none⟩])
  .ret) .skip))
  (.seq (.seq (.region [2, 3, 4, 26] [⟨(some 15), .fieldAddr 0 (.t 2), true, none⟩, ⟨(some 16), .load false 1 (.t 15), true, none⟩, ⟨(some 17), .fieldAddr 0 (.t 3), true, none⟩, ⟨(some 18), .load false 1 (.t 17), true, none⟩, ⟨(some 19), .bin .neq .other (.t 16) (.t 18), true, none⟩, ⟨(some 20), .mv (.t 19), true, none⟩, ⟨(some 21), .fieldAddr 1 (.t 2), true, (some (20, false))⟩, ⟨(some 22), .load false 1 (.t 21), true, (some (20, false))⟩, ⟨(some 23), .fieldAddr 1 (.t 3), true, (some (20, false))⟩, ⟨(some 24), .load false 1 (.t 23), true, (some (20, false))⟩, ⟨(some 25), .bin .neq .other (.t 22) (.t 24), true, (some (20, false))⟩, ⟨(some 26), .pick (.t 20) (.c (.bool true)) (.t 25), true, none⟩])
  (.cond (.t 26) (.seq (.region [4, 5] [⟨(some 27), .build [(.int .i64 0), (.int .i64 0), .nils] [], true, none⟩, ⟨none, .store 3 (.t 4) (.t 27), false, none⟩, ⟨(some 5), .mv (.c (.int .i64 2)), true, none⟩])
  .ret) .skip))
  (.seq (.region [4, 5] [⟨(some 28), .load true 3 (.t 2), true, none⟩, ⟨(some 29), .load true 3 (.t 3), true, none⟩, ⟨(some 30), .call 74 [(.t 28), (.t 29)], false, none⟩, ⟨none, .store 3 (.t 4) (.t 30), false, none⟩, ⟨(some 5), .mv (.c (.int .i64 0)), true, none⟩])
  .ret))))⟩
theorem cf31 : cF Try.prog Try.f31 = some if31 := by kernel_rfl

/-- loop.example/g01076/impl.SubspaceIntersection -/
def if32 : IFn := ⟨[0, 1], [(.cell 4 true 3), (.tmp 5)], (.seq (.region [2, 3, 4] [⟨(some 2), .box (.t 0), false, none⟩, ⟨(some 3), .box (.t 1), false, none⟩, ⟨(some 4), .alloc [(.int .i64 0), (.int .i64 0), .nils], false, none⟩, ⟨(some 5), .mv (.c (.int .i64 0)), true, none⟩])
  (.seq (.seq (.region [2, 3, 4, 13] [⟨(some 6), .load true 3 (.t 2), true, none⟩, ⟨(some 7), .call 60 [(.t 6)], false, none⟩, ⟨(some 8), .un .not (.t 7), true, none⟩, ⟨(some 9), .mv (.t 8), true, none⟩, ⟨(some 10), .load true 3 (.t 3), true, (some (9, false))⟩, ⟨(some 11), .call 60 [(.t 10)], false, (some (9, false))⟩, ⟨(some 12), .un .not (.t 11), true, (some (9, false))⟩, ⟨(some 13), .pick (.t 9) (.c (.bool true)) (.t 12), true, none⟩])
  (.cond (.t 13) (.seq (.region [4, 5] [⟨(some 14), .build [(.int .i64 0), (.int .i64 0), .nils] [], true, none⟩, ⟨none, .store 3 (.t 4) (.t 14), false, none⟩, ⟨(some 5), .mv (.c (.int .i64 1)), true, none⟩])
  .ret) .skip))
  (.seq (.seq (.region [2, 3, 4, 26] [⟨(some 15), .fieldAddr 0 (.t 2), true, none⟩, ⟨(some 16), .load false 1 (.t 15), true, none⟩, ⟨(some 17), .fieldAddr 0 (.t 3), true, none⟩, ⟨(some 18), .load false 1 (.t 17), true, none⟩, ⟨(some 19), .bin .neq .other (.t 16) (.t 18), true, none⟩, ⟨(some 20), .mv (.t 19), true, none⟩, ⟨(some 21), .fieldAddr 1 (.t 2), true, (some (20, false))⟩, ⟨(some 22), .load false 1 (.t 21), true, (some (20, false))⟩, ⟨(some 23), .fieldAddr 1 (.t 3), true, (some (20, false))⟩, ⟨(some 24), .load false 1 (.t 23), true, (some (20, false))⟩, ⟨(some 25), .bin .neq .other (.t 22) (.t 24), true, (some (20, false))⟩, ⟨(some 26), .pick (.t 20) (.c (.bool true)) (.t 25), true, none⟩])
  (.cond (.t 26) (.seq (.region [4, 5] [⟨(some 27), .build [(.int .i64 0), (.int .i64 0), .nils] [], true, none⟩, ⟨none, .store 3 (.t 4) (.t 27), false, none⟩, ⟨(some 5), .mv (.c (.int .i64 2)), true, none⟩])
  .ret) .skip))
  (.seq (.draw [4, 5] [] [⟨⟨(some 28), .load true 3 (.t 2), true, none⟩, 0, []⟩, ⟨⟨(some 30), .load true 3 (.t 3), true, none⟩, 2, []⟩, ⟨⟨(some 29), .call 75 [(.t 28)], false, none⟩, 1, [2]⟩, ⟨⟨(some 31), .call 75 [(.t 30)], false, none⟩, 3, []⟩, ⟨⟨(some 32), .call 74 [(.t 29), (.t 31)], false, none⟩, 4, []⟩, ⟨⟨(some 33), .call 75 [(.t 32)], false, none⟩, 5, []⟩, ⟨⟨none, .store 3 (.t 4) (.t 33), false, none⟩, 6, []⟩, ⟨⟨(some 5), .mv (.c (.int .i64 0)), true, none⟩, 7, []⟩])
  .ret))))⟩
theorem cf32 : cF Try.prog Try.f32 = some if32 := by kernel_rfl

/-- loop.example/g01076/spec.DrawSolveRows -/
def if33 : IFn := ⟨[0], [(.cell 2 true 3), (.tmp 3)], (.seq (.region [0, 2] [⟨(some 2), .alloc [(.int .i64 0), (.int .i64 0), .nils], false, none⟩, ⟨(some 3), .mv (.c .nils), true, none⟩])
  (.seq (.region [2, 4] [⟨(some 6), .mv (.t 0), true, none⟩, ⟨(some 7), .call 49 [(.t 6)], false, none⟩, ⟨(some 4), .mv (.t 7), true, none⟩])
  (.seq (.region [2, 4, 5] [⟨(some 8), .mv (.t 4), true, none⟩, ⟨(some 9), .call 50 [(.t 8)], false, none⟩, ⟨(some 5), .alloc [(.int .i64 0), (.int .i64 0), .nils], false, none⟩, ⟨none, .store 3 (.t 5) (.t 9), false, none⟩])
  (.seq (.seq (.region [2, 4, 5, 17] [⟨(some 10), .load true 3 (.t 5), true, none⟩, ⟨(some 11), .call 37 [(.t 10)], false, none⟩, ⟨(some 12), .un .not (.t 11), true, none⟩, ⟨(some 13), .mv (.t 12), true, none⟩, ⟨(some 14), .mv (.t 4), true, (some (13, false))⟩, ⟨(some 15), .call 51 [(.t 14), (.c (.int .i64 10))], false, (some (13, false))⟩, ⟨(some 16), .bin .eql .other (.t 15) (.c (.int .i64 0)), true, (some (13, false))⟩, ⟨(some 17), .pick (.t 13) (.c (.bool true)) (.t 16), true, none⟩])
  (.cond (.t 17) (.seq (.draw [2, 3] [] [⟨⟨(some 18), .load true 3 (.t 5), true, none⟩, 0, []⟩, ⟨⟨(some 19), .mv (.t 4), true, none⟩, 1, []⟩, ⟨⟨(some 20), .mv (.t 4), true, none⟩, 2, []⟩, ⟨⟨(some 21), .call 51 [(.t 20), (.c (.int .i64 4))], false, none⟩, 3, [0]⟩, ⟨⟨(some 22), .call 76 [(.t 19), (.c (.int .i64 3)), (.t 21)], false, none⟩, 4, [0]⟩, ⟨⟨none, .store 3 (.t 2) (.t 18), false, none⟩, 5, []⟩, ⟨⟨(some 3), .mv (.t 22), true, none⟩, 6, []⟩])
  .ret) .skip))
  (.seq (.seq (.region [2, 4, 5, 25] [⟨(some 23), .mv (.t 4), true, none⟩, ⟨(some 24), .call 51 [(.t 23), (.c (.int .i64 3))], false, none⟩, ⟨(some 25), .bin .eql .other (.t 24) (.c (.int .i64 0)), true, none⟩])
  (.cond (.t 25) (.seq (.draw [2, 3] [] [⟨⟨(some 26), .load true 3 (.t 5), true, none⟩, 0, []⟩, ⟨⟨(some 27), .mv (.t 4), true, none⟩, 1, []⟩, ⟨⟨(some 28), .fieldAddr 0 (.t 5), true, none⟩, 2, []⟩, ⟨⟨(some 29), .load false 1 (.t 28), true, none⟩, 3, []⟩, ⟨⟨(some 30), .fieldAddr 1 (.t 5), true, none⟩, 4, []⟩, ⟨⟨(some 31), .load false 1 (.t 30), true, none⟩, 5, []⟩, ⟨⟨(some 32), .call 76 [(.t 27), (.t 29), (.t 31)], false, none⟩, 6, [0]⟩, ⟨⟨none, .store 3 (.t 2) (.t 26), false, none⟩, 7, []⟩, ⟨⟨(some 3), .mv (.t 32), true, none⟩, 8, []⟩])
  .ret) .skip))
  (.seq (.draw [2, 3] [] [⟨⟨(some 33), .load true 3 (.t 5), true, none⟩, 0, []⟩, ⟨⟨(some 34), .fieldAddr 0 (.t 5), true, none⟩, 1, []⟩, ⟨⟨(some 35), .load false 1 (.t 34), true, none⟩, 2, []⟩, ⟨⟨(some 36), .mv (.t 4), true, none⟩, 3, []⟩, ⟨⟨(some 37), .fieldAddr 0 (.t 5), true, none⟩, 4, []⟩, ⟨⟨(some 38), .load false 1 (.t 37), true, none⟩, 5, []⟩, ⟨⟨(some 39), .fieldAddr 2 (.t 5), true, none⟩, 6, []⟩, ⟨⟨(some 40), .load false 1 (.t 39), true, none⟩, 7, []⟩, ⟨⟨(some 41), .len (.t 40), true, none⟩, 8, []⟩, ⟨⟨(some 43), .fieldAddr 2 (.t 5), true, none⟩, 10, []⟩, ⟨⟨(some 44), .load false 1 (.t 43), true, none⟩, 11, []⟩, ⟨⟨(some 45), .fieldAddr 1 (.t 5), true, none⟩, 12, []⟩, ⟨⟨(some 46), .load false 1 (.t 45), true, none⟩, 13, []⟩, ⟨⟨(some 42), .call 76 [(.t 36), (.t 38), (.t 41)], false, none⟩, 9, [0, 2, 11, 13]⟩, ⟨⟨(some 47), .call 77 [(.t 35), (.t 42), (.t 44), (.t 46)], false, none⟩, 14, [0]⟩, ⟨⟨none, .store 3 (.t 2) (.t 33), false, none⟩, 15, []⟩, ⟨⟨(some 3), .mv (.t 47), true, none⟩, 16, []⟩])
  .ret))))))⟩
theorem cf33 : cF Try.prog Try.f33 = some if33 := by kernel_rfl

/-- loop.example/g01076/impl.SolveRows -/
def if34 : IFn := ⟨[0, 1], [(.tmp 4), (.tmp 5)], (.seq (.region [1, 2] [⟨(some 2), .box (.t 0), false, none⟩, ⟨(some 4), .mv (.c .nils), true, none⟩, ⟨(some 5), .mv (.c (.int .i64 0)), true, none⟩])
  (.seq (.seq (.region [1, 2, 19] [⟨(some 8), .load true 3 (.t 2), true, none⟩, ⟨(some 9), .call 38 [(.t 8)], false, none⟩, ⟨(some 10), .un .not (.t 9), true, none⟩, ⟨(some 11), .mv (.t 10), true, none⟩, ⟨(some 12), .mv (.t 1), true, (some (11, false))⟩, ⟨(some 13), .fieldAddr 0 (.t 2), true, (some (11, false))⟩, ⟨(some 14), .load false 1 (.t 13), true, (some (11, false))⟩, ⟨(some 15), .fieldAddr 1 (.t 2), true, (some (11, false))⟩, ⟨(some 16), .load false 1 (.t 15), true, (some (11, false))⟩, ⟨(some 17), .call 78 [(.t 12), (.t 14), (.t 16)], false, (some (11, false))⟩, ⟨(some 18), .un .not (.t 17), true, (some (11, false))⟩, ⟨(some 19), .pick (.t 11) (.c (.bool true)) (.t 18), true, none⟩])
  (.cond (.t 19) (.seq (.region [4, 5] [⟨(some 4), .mv (.c .nils), true, none⟩, ⟨(some 5), .mv (.c (.int .i64 1)), true, none⟩])
  .ret) .skip))
  (.seq (.region [6, 7] [⟨(some 21), .load true 3 (.t 2), true, none⟩, ⟨(some 22), .mv (.t 1), true, none⟩, ⟨(some 23), .call 79 [(.t 21), (.t 22)], false, none⟩, ⟨(some 20), .mv (.t 23), true, none⟩, ⟨(some 24), .extract (.t 20) 0, true, none⟩, ⟨(some 25), .extract (.t 20) 1, true, none⟩, ⟨(some 6), .mv (.t 24), true, none⟩, ⟨(some 7), .mv (.t 25), true, none⟩])
  (.seq (.seq (.region [6, 27] [⟨(some 26), .mv (.t 7), true, none⟩, ⟨(some 27), .un .not (.t 26), true, none⟩])
  (.cond (.t 27) (.seq (.region [4, 5] [⟨(some 4), .mv (.c .nils), true, none⟩, ⟨(some 5), .mv (.c (.int .i64 4)), true, none⟩])
  .ret) .skip))
  (.seq (.region [4, 5] [⟨(some 28), .mv (.t 6), true, none⟩, ⟨(some 4), .mv (.t 28), true, none⟩, ⟨(some 5), .mv (.c (.int .i64 0)), true, none⟩])
  .ret)))))⟩
theorem cf34 : cF Try.prog Try.f34 = some if34 := by kernel_rfl

/-- loop.example/g01076/spec.SolveRows -/
def if35 : IFn := ⟨[0, 1], [(.tmp 4), (.tmp 5)], (.seq (.region [1, 2] [⟨(some 2), .box (.t 0), false, none⟩, ⟨(some 4), .mv (.c .nils), true, none⟩, ⟨(some 5), .mv (.c (.int .i64 0)), true, none⟩])
  (.seq (.seq (.region [1, 2, 19] [⟨(some 8), .load true 3 (.t 2), true, none⟩, ⟨(some 9), .call 37 [(.t 8)], false, none⟩, ⟨(some 10), .un .not (.t 9), true, none⟩, ⟨(some 11), .mv (.t 10), true, none⟩, ⟨(some 12), .fieldAddr 0 (.t 2), true, (some (11, false))⟩, ⟨(some 13), .load false 1 (.t 12), true, (some (11, false))⟩, ⟨(some 14), .fieldAddr 1 (.t 2), true, (some (11, false))⟩, ⟨(some 15), .load false 1 (.t 14), true, (some (11, false))⟩, ⟨(some 16), .mv (.t 1), true, (some (11, false))⟩, ⟨(some 17), .call 80 [(.t 13), (.t 15), (.t 16)], false, (some (11, false))⟩, ⟨(some 18), .un .not (.t 17), true, (some (11, false))⟩, ⟨(some 19), .pick (.t 11) (.c (.bool true)) (.t 18), true, none⟩])
  (.cond (.t 19) (.seq (.region [4, 5] [⟨(some 4), .mv (.c .nils), true, none⟩, ⟨(some 5), .mv (.c (.int .i64 1)), true, none⟩])
  .ret) .skip))
  (.seq (.region [6, 7] [⟨(some 21), .fieldAddr 0 (.t 2), true, none⟩, ⟨(some 22), .load false 1 (.t 21), true, none⟩, ⟨(some 23), .fieldAddr 2 (.t 2), true, none⟩, ⟨(some 24), .load false 1 (.t 23), true, none⟩, ⟨(some 25), .fieldAddr 1 (.t 2), true, none⟩, ⟨(some 26), .load false 1 (.t 25), true, none⟩, ⟨(some 27), .mv (.t 1), true, none⟩, ⟨(some 28), .call 81 [(.t 22), (.t 24), (.t 26), (.t 27)], false, none⟩, ⟨(some 20), .mv (.t 28), true, none⟩, ⟨(some 29), .extract (.t 20) 0, true, none⟩, ⟨(some 30), .extract (.t 20) 1, true, none⟩, ⟨(some 6), .mv (.t 29), true, none⟩, ⟨(some 7), .mv (.t 30), true, none⟩])
  (.seq (.seq (.region [6, 32] [⟨(some 31), .mv (.t 7), true, none⟩, ⟨(some 32), .un .not (.t 31), true, none⟩])
  (.cond (.t 32) (.seq (.region [4, 5] [⟨(some 4), .mv (.c .nils), true, none⟩, ⟨(some 5), .mv (.c (.int .i64 4)), true, none⟩])
  .ret) .skip))
  (.seq (.region [4, 5] [⟨(some 33), .mv (.t 6), true, none⟩, ⟨(some 4), .mv (.t 33), true, none⟩, ⟨(some 5), .mv (.c (.int .i64 0)), true, none⟩])
  .ret)))))⟩
theorem cf35 : cF Try.prog Try.f35 = some if35 := by kernel_rfl

/-- loop.example/g01076/laws.likeInts -/
def if36 : IFn := ⟨[0, 1], [(.tmp 4)], (.seq (.region [0, 1] [⟨(some 4), .mv (.c (.bool false)), true, none⟩])
  (.seq (.seq (.region [0, 1, 10] [⟨(some 6), .mv (.t 0), true, none⟩, ⟨(some 7), .len (.t 6), true, none⟩, ⟨(some 8), .mv (.t 1), true, none⟩, ⟨(some 9), .len (.t 8), true, none⟩, ⟨(some 10), .bin .neq .other (.t 7) (.t 9), true, none⟩])
  (.cond (.t 10) (.seq (.region [4] [⟨(some 4), .mv (.c (.bool false)), true, none⟩])
  .ret) .skip))
  (.seq (.seq (.region [0, 1, 5] [⟨(some 5), .mv (.c (.int .i64 0)), true, none⟩])
  (.block 0 (.loop [0, 1, 5] (.seq (.seq (.region [0, 1, 5, 14] [⟨(some 11), .mv (.t 5), true, none⟩, ⟨(some 12), .mv (.t 0), true, none⟩, ⟨(some 13), .len (.t 12), true, none⟩, ⟨(some 14), .bin .lss .other (.t 11) (.t 13), true, none⟩])
  (.cond (.t 14) .skip (.exit 0)))
  (.seq (.block 1 (.seq (.draw [0, 1, 5, 25] [] [⟨⟨(some 17), .mv (.t 0), true, none⟩, 0, []⟩, ⟨⟨(some 18), .mv (.t 5), true, none⟩, 1, []⟩, ⟨⟨(some 19), .indexAddr 1 (.t 17) (.t 18), true, none⟩, 2, []⟩, ⟨⟨(some 20), .load false 1 (.t 19), true, none⟩, 3, []⟩, ⟨⟨(some 21), .mv (.t 1), true, none⟩, 4, []⟩, ⟨⟨(some 22), .mv (.t 5), true, none⟩, 5, []⟩, ⟨⟨(some 23), .indexAddr 1 (.t 21) (.t 22), true, none⟩, 6, []⟩, ⟨⟨(some 24), .load false 1 (.t 23), true, none⟩, 7, []⟩, ⟨⟨(some 25), .bin .neq .other (.t 20) (.t 24), true, none⟩, 8, []⟩])
  (.cond (.t 25) (.seq (.region [4] [⟨(some 4), .mv (.c (.bool false)), true, none⟩])
  .ret) .skip)))
  (.region [0, 1, 5] [⟨(some 15), .mv (.t 5), true, none⟩, ⟨(some 16), .bin .add .other (.t 15) (.c (.int .i64 1)), true, none⟩, ⟨(some 5), .mv (.t 16), true, none⟩]))))))
  (.seq (.region [4] [⟨(some 4), .mv (.c (.bool true)), true, none⟩])
  .ret))))⟩
theorem cf36 : cF Try.prog Try.f36 = some if36 := by kernel_rfl

/-- loop.example/g01076/spec.IsMatrix -/
def if37 : IFn := ⟨[0], [(.tmp 2)], (.seq (.region [1] [⟨(some 1), .box (.t 0), false, none⟩, ⟨(some 2), .mv (.c (.bool false)), true, none⟩])
  (.seq (.seq (.region [1, 19] [⟨(some 4), .fieldAddr 0 (.t 1), true, none⟩, ⟨(some 5), .load false 1 (.t 4), true, none⟩, ⟨(some 6), .call 52 [(.t 5)], false, none⟩, ⟨(some 7), .un .not (.t 6), true, none⟩, ⟨(some 8), .mv (.t 7), true, none⟩, ⟨(some 9), .fieldAddr 1 (.t 1), true, (some (8, false))⟩, ⟨(some 10), .load false 1 (.t 9), true, (some (8, false))⟩, ⟨(some 11), .call 82 [(.t 10), (.c (.int .i64 0)), (.c (.int .i64 8))], false, (some (8, false))⟩, ⟨(some 12), .un .not (.t 11), true, (some (8, false))⟩, ⟨(some 13), .pick (.t 8) (.c (.bool true)) (.t 12), true, none⟩, ⟨(some 14), .mv (.t 13), true, none⟩, ⟨(some 15), .fieldAddr 2 (.t 1), true, (some (14, false))⟩, ⟨(some 16), .load false 1 (.t 15), true, (some (14, false))⟩, ⟨(some 17), .len (.t 16), true, (some (14, false))⟩, ⟨(some 18), .bin .gtr .other (.t 17) (.c (.int .i64 8)), true, (some (14, false))⟩, ⟨(some 19), .pick (.t 14) (.c (.bool true)) (.t 18), true, none⟩])
  (.cond (.t 19) (.seq (.region [2] [⟨(some 2), .mv (.c (.bool false)), true, none⟩])
  .ret) .skip))
  (.seq (.seq (.region [1, 3] [⟨(some 3), .mv (.c (.int .i64 0)), true, none⟩])
  (.block 0 (.loop [1, 3] (.seq (.seq (.region [1, 3, 24] [⟨(some 20), .mv (.t 3), true, none⟩, ⟨(some 21), .fieldAddr 2 (.t 1), true, none⟩, ⟨(some 22), .load false 1 (.t 21), true, none⟩, ⟨(some 23), .len (.t 22), true, none⟩, ⟨(some 24), .bin .lss .other (.t 20) (.t 23), true, none⟩])
  (.cond (.t 24) .skip (.exit 0)))
  (.seq (.block 1 (.seq (.draw [1, 3, 37] [] [⟨⟨(some 27), .fieldAddr 0 (.t 1), true, none⟩, 0, []⟩, ⟨⟨(some 28), .load false 1 (.t 27), true, none⟩, 1, []⟩, ⟨⟨(some 29), .fieldAddr 1 (.t 1), true, none⟩, 2, []⟩, ⟨⟨(some 30), .load false 1 (.t 29), true, none⟩, 3, []⟩, ⟨⟨(some 31), .fieldAddr 2 (.t 1), true, none⟩, 4, []⟩, ⟨⟨(some 32), .load false 1 (.t 31), true, none⟩, 5, []⟩, ⟨⟨(some 33), .mv (.t 3), true, none⟩, 6, []⟩, ⟨⟨(some 34), .indexAddr 1 (.t 32) (.t 33), true, none⟩, 7, []⟩, ⟨⟨(some 35), .load false 1 (.t 34), true, none⟩, 8, []⟩, ⟨⟨(some 36), .call 80 [(.t 28), (.t 30), (.t 35)], false, none⟩, 9, []⟩, ⟨⟨(some 37), .un .not (.t 36), true, none⟩, 10, []⟩])
  (.cond (.t 37) (.seq (.region [2] [⟨(some 2), .mv (.c (.bool false)), true, none⟩])
  .ret) .skip)))
  (.region [1, 3] [⟨(some 25), .mv (.t 3), true, none⟩, ⟨(some 26), .bin .add .other (.t 25) (.c (.int .i64 1)), true, none⟩, ⟨(some 3), .mv (.t 26), true, none⟩]))))))
  (.seq (.region [2] [⟨(some 2), .mv (.c (.bool true)), true, none⟩])
  .ret))))⟩
theorem cf37 : cF Try.prog Try.f37 = some if37 := by kernel_rfl

/-- loop.example/g01076/impl.IsMatrix -/
def if38 : IFn := ⟨[0], [(.tmp 2)], (.seq (.region [1] [⟨(some 1), .box (.t 0), false, none⟩, ⟨(some 2), .mv (.c (.bool false)), true, none⟩])
  (.seq (.seq (.region [1, 20] [⟨(some 5), .fieldAddr 0 (.t 1), true, none⟩, ⟨(some 6), .load false 1 (.t 5), true, none⟩, ⟨(some 7), .call 66 [(.t 6)], false, none⟩, ⟨(some 8), .un .not (.t 7), true, none⟩, ⟨(some 9), .mv (.t 8), true, none⟩, ⟨(some 10), .fieldAddr 1 (.t 1), true, (some (9, false))⟩, ⟨(some 11), .load false 1 (.t 10), true, (some (9, false))⟩, ⟨(some 12), .call 67 [(.t 11), (.c (.int .i64 0)), (.c (.int .i64 8))], false, (some (9, false))⟩, ⟨(some 13), .un .not (.t 12), true, (some (9, false))⟩, ⟨(some 14), .pick (.t 9) (.c (.bool true)) (.t 13), true, none⟩, ⟨(some 15), .mv (.t 14), true, none⟩, ⟨(some 16), .fieldAddr 2 (.t 1), true, (some (15, false))⟩, ⟨(some 17), .load false 1 (.t 16), true, (some (15, false))⟩, ⟨(some 18), .len (.t 17), true, (some (15, false))⟩, ⟨(some 19), .bin .gtr .other (.t 18) (.c (.int .i64 8)), true, (some (15, false))⟩, ⟨(some 20), .pick (.t 15) (.c (.bool true)) (.t 19), true, none⟩])
  (.cond (.t 20) (.seq (.region [2] [⟨(some 2), .mv (.c (.bool false)), true, none⟩])
  .ret) .skip))
  (.seq (.seq (.region [1, 22, 23, 24] [⟨(some 21), .fieldAddr 2 (.t 1), true, none⟩, ⟨(some 22), .load false 1 (.t 21), true, none⟩, ⟨(some 23), .len (.t 22), true, none⟩, ⟨(some 24), .mv (.c (.int .i64 0)), true, none⟩])
  (.block 0 (.loop [1, 22, 23, 24] (.seq (.region [1, 22, 23, 24, 25] [⟨(some 25), .bin .lss .other (.t 24) (.t 23), true, none⟩])
  (.seq (.cond (.t 25) .skip (.exit 0))
  (.seq (.block 1 (.seq (.region [1, 4, 22, 23, 24] [⟨(some 26), .indexAddr 1 (.t 22) (.t 24), true, none⟩, ⟨(some 27), .load false 1 (.t 26), true, none⟩, ⟨(some 4), .mv (.t 27), true, none⟩])
  (.seq (.region [1, 22, 23, 24, 34] [⟨(some 28), .mv (.t 4), true, none⟩, ⟨(some 29), .fieldAddr 0 (.t 1), true, none⟩, ⟨(some 30), .load false 1 (.t 29), true, none⟩, ⟨(some 31), .fieldAddr 1 (.t 1), true, none⟩, ⟨(some 32), .load false 1 (.t 31), true, none⟩, ⟨(some 33), .call 78 [(.t 28), (.t 30), (.t 32)], false, none⟩, ⟨(some 34), .un .not (.t 33), true, none⟩])
  (.cond (.t 34) (.seq (.region [2] [⟨(some 2), .mv (.c (.bool false)), true, none⟩])
  .ret) .skip))))
  (.region [1, 22, 23, 24] [⟨(some 35), .bin .add .other (.t 24) (.c (.int .i64 1)), true, none⟩, ⟨(some 24), .mv (.t 35), true, none⟩])))))))
  (.seq (.region [2] [⟨(some 2), .mv (.c (.bool true)), true, none⟩])
  .ret))))⟩
theorem cf38 : cF Try.prog Try.f38 = some if38 := by kernel_rfl

/-- loop.example/g01076/laws.sum -/
def if39 : IFn := ⟨[0], [(.tmp 2)], (.seq (.region [0] [⟨(some 2), .mv (.c (.int .i64 0)), true, none⟩])
  (.seq (.region [0, 3] [⟨(some 3), .mv (.c (.int .i64 0)), true, none⟩])
  (.seq (.seq (.region [0, 3, 4] [⟨(some 4), .mv (.c (.int .i64 0)), true, none⟩])
  (.block 0 (.loop [0, 3, 4] (.seq (.seq (.region [0, 3, 4, 8] [⟨(some 5), .mv (.t 4), true, none⟩, ⟨(some 6), .mv (.t 0), true, none⟩, ⟨(some 7), .len (.t 6), true, none⟩, ⟨(some 8), .bin .lss .other (.t 5) (.t 7), true, none⟩])
  (.cond (.t 8) .skip (.exit 0)))
  (.seq (.block 1 (.region [0, 3, 4] [⟨(some 11), .mv (.t 3), true, none⟩, ⟨(some 12), .mv (.t 0), true, none⟩, ⟨(some 13), .mv (.t 4), true, none⟩, ⟨(some 14), .indexAddr 1 (.t 12) (.t 13), true, none⟩, ⟨(some 15), .load false 1 (.t 14), true, none⟩, ⟨(some 16), .bin .add .other (.t 11) (.t 15), true, none⟩, ⟨(some 3), .mv (.t 16), true, none⟩]))
  (.region [0, 3, 4] [⟨(some 9), .mv (.t 4), true, none⟩, ⟨(some 10), .bin .add .other (.t 9) (.c (.int .i64 1)), true, none⟩, ⟨(some 4), .mv (.t 10), true, none⟩]))))))
  (.seq (.region [2] [⟨(some 17), .mv (.t 3), true, none⟩, ⟨(some 2), .mv (.t 17), true, none⟩])
  .ret))))⟩
theorem cf39 : cF Try.prog Try.f39 = some if39 := by kernel_rfl

/-- loop.example/g01076/impl.HasVector -/
def if40 : IFn := ⟨[0, 1], [(.tmp 4), (.tmp 5)], (.seq (.region [1, 2] [⟨(some 2), .box (.t 0), false, none⟩, ⟨(some 4), .mv (.c (.bool false)), true, none⟩, ⟨(some 5), .mv (.c (.int .i64 0)), true, none⟩])
  (.seq (.seq (.region [1, 2, 17] [⟨(some 6), .load true 3 (.t 2), true, none⟩, ⟨(some 7), .call 60 [(.t 6)], false, none⟩, ⟨(some 8), .un .not (.t 7), true, none⟩, ⟨(some 9), .mv (.t 8), true, none⟩, ⟨(some 10), .mv (.t 1), true, (some (9, false))⟩, ⟨(some 11), .fieldAddr 0 (.t 2), true, (some (9, false))⟩, ⟨(some 12), .load false 1 (.t 11), true, (some (9, false))⟩, ⟨(some 13), .fieldAddr 1 (.t 2), true, (some (9, false))⟩, ⟨(some 14), .load false 1 (.t 13), true, (some (9, false))⟩, ⟨(some 15), .call 78 [(.t 10), (.t 12), (.t 14)], false, (some (9, false))⟩, ⟨(some 16), .un .not (.t 15), true, (some (9, false))⟩, ⟨(some 17), .pick (.t 9) (.c (.bool true)) (.t 16), true, none⟩])
  (.cond (.t 17) (.seq (.region [4, 5] [⟨(some 4), .mv (.c (.bool false)), true, none⟩, ⟨(some 5), .mv (.c (.int .i64 1)), true, none⟩])
  .ret) .skip))
  (.seq (.region [4, 5] [⟨(some 18), .load true 3 (.t 2), true, none⟩, ⟨(some 19), .mv (.t 1), true, none⟩, ⟨(some 20), .call 84 [(.t 18), (.t 19)], false, none⟩, ⟨(some 21), .call 83 [(.t 20)], false, none⟩, ⟨(some 4), .mv (.t 21), true, none⟩, ⟨(some 5), .mv (.c (.int .i64 0)), true, none⟩])
  .ret)))⟩
theorem cf40 : cF Try.prog Try.f40 = some if40 := by kernel_rfl

/-- loop.example/g01076/laws.szInt64SS -/
def if41 : IFn := ⟨[0, 1], [(.tmp 4)], (.seq (.region [0, 1] [⟨(some 4), .mv (.c (.int .i64 0)), true, none⟩])
  (.seq (.region [0, 1] [⟨(some 6), .mv (.t 1), true, none⟩, ⟨(some 7), .mv (.t 0), true, none⟩, ⟨(some 8), .len (.t 7), true, none⟩, ⟨(some 9), .bin .sub .other (.t 6) (.t 8), true, none⟩, ⟨(some 1), .mv (.t 9), true, none⟩])
  (.seq (.seq (.region [0, 1, 11] [⟨(some 10), .mv (.t 1), true, none⟩, ⟨(some 11), .bin .lss .other (.t 10) (.c (.int .i64 0)), true, none⟩])
  (.cond (.t 11) (.seq (.region [4] [⟨(some 4), .mv (.c (.int .i64 (-1))), true, none⟩])
  .ret) .skip))
  (.seq (.seq (.region [0, 1, 5] [⟨(some 5), .mv (.c (.int .i64 0)), true, none⟩])
  (.block 0 (.loop [0, 1, 5] (.seq (.seq (.region [0, 1, 5, 15] [⟨(some 12), .mv (.t 5), true, none⟩, ⟨(some 13), .mv (.t 0), true, none⟩, ⟨(some 14), .len (.t 13), true, none⟩, ⟨(some 15), .bin .lss .other (.t 12) (.t 14), true, none⟩])
  (.cond (.t 15) .skip (.exit 0)))
  (.seq (.block 1 (.seq (.region [0, 1, 5] [⟨(some 18), .mv (.t 0), true, none⟩, ⟨(some 19), .mv (.t 5), true, none⟩, ⟨(some 20), .indexAddr 1 (.t 18) (.t 19), true, none⟩, ⟨(some 21), .load false 1 (.t 20), true, none⟩, ⟨(some 22), .mv (.t 1), true, none⟩, ⟨(some 23), .call 85 [(.t 21), (.t 22)], false, none⟩, ⟨(some 1), .mv (.t 23), true, none⟩])
  (.seq (.region [0, 1, 5, 25] [⟨(some 24), .mv (.t 1), true, none⟩, ⟨(some 25), .bin .lss .other (.t 24) (.c (.int .i64 0)), true, none⟩])
  (.cond (.t 25) (.seq (.region [4] [⟨(some 4), .mv (.c (.int .i64 (-1))), true, none⟩])
  .ret) .skip))))
  (.region [0, 1, 5] [⟨(some 16), .mv (.t 5), true, none⟩, ⟨(some 17), .bin .add .other (.t 16) (.c (.int .i64 1)), true, none⟩, ⟨(some 5), .mv (.t 17), true, none⟩]))))))
  (.seq (.region [4] [⟨(some 26), .mv (.t 1), true, none⟩, ⟨(some 4), .mv (.t 26), true, none⟩])
  .ret)))))⟩
theorem cf41 : cF Try.prog Try.f41 = some if41 := by kernel_rfl

/-- loop.example/g01076/spec.l02Make -/
def if42 : IFn := ⟨[0, 1, 2], [(.cell 6 true 3)], (.seq (.region [0, 1, 2, 6] [⟨(some 6), .alloc [(.int .i64 0), (.int .i64 0), .nils], false, none⟩])
  (.seq (.region [6] [⟨(some 7), .mv (.t 0), true, none⟩, ⟨(some 8), .mv (.t 1), true, none⟩, ⟨(some 9), .mv (.t 2), true, none⟩, ⟨(some 10), .call 86 [(.t 9)], false, none⟩, ⟨(some 11), .build [(.int .i64 0), (.int .i64 0), .nils] [(0, 1, (.t 7)), (1, 1, (.t 8)), (2, 1, (.t 10))], true, none⟩, ⟨none, .store 3 (.t 6) (.t 11), false, none⟩])
  .ret))⟩
theorem cf42 : cF Try.prog Try.f42 = some if42 := by kernel_rfl

/-- loop.example/g01076/spec.l02Product -/
def if43 : IFn := ⟨[0, 1, 2, 3], [(.tmp 8)], (.seq (.region [0, 1, 2, 3] [⟨(some 8), .mv (.c .nils), true, none⟩])
  (.seq (.region [0, 1, 2, 3, 9] [⟨(some 11), .buildSl 1 0 [.nils] [], false, none⟩, ⟨(some 9), .mv (.t 11), true, none⟩])
  (.seq (.seq (.region [0, 1, 2, 3, 9, 10] [⟨(some 10), .mv (.c (.int .i64 0)), true, none⟩])
  (.block 0 (.loop [0, 1, 2, 3, 9, 10] (.seq (.seq (.region [0, 1, 2, 3, 9, 10, 15] [⟨(some 12), .mv (.t 10), true, none⟩, ⟨(some 13), .mv (.t 1), true, none⟩, ⟨(some 14), .len (.t 13), true, none⟩, ⟨(some 15), .bin .lss .other (.t 12) (.t 14), true, none⟩])
  (.cond (.t 15) .skip (.exit 0)))
  (.seq (.block 1 (.region [0, 1, 2, 3, 9, 10] [⟨(some 18), .mv (.t 9), true, none⟩, ⟨(some 19), .mv (.t 0), true, none⟩, ⟨(some 20), .mv (.t 1), true, none⟩, ⟨(some 21), .mv (.t 10), true, none⟩, ⟨(some 22), .indexAddr 1 (.t 20) (.t 21), true, none⟩, ⟨(some 23), .load false 1 (.t 22), true, none⟩, ⟨(some 24), .mv (.t 2), true, none⟩, ⟨(some 25), .mv (.t 3), true, none⟩, ⟨(some 26), .call 77 [(.t 19), (.t 23), (.t 24), (.t 25)], false, none⟩, ⟨(some 27), .buildSl 1 1 [.nils] [(0, 1, (.t 26))], false, none⟩, ⟨(some 28), .append 1 24 (.t 18) (.t 27), false, none⟩, ⟨(some 9), .mv (.t 28), true, none⟩]))
  (.region [0, 1, 2, 3, 9, 10] [⟨(some 16), .mv (.t 10), true, none⟩, ⟨(some 17), .bin .add .other (.t 16) (.c (.int .i64 1)), true, none⟩, ⟨(some 10), .mv (.t 17), true, none⟩]))))))
  (.seq (.region [8] [⟨(some 29), .mv (.t 9), true, none⟩, ⟨(some 8), .mv (.t 29), true, none⟩])
  .ret))))⟩
theorem cf43 : cF Try.prog Try.f43 = some if43 := by kernel_rfl

/-- loop.example/g01076/laws.toInt64SS -/
def if44 : IFn := ⟨[0], [(.tmp 2)], (.seq (.region [0] [⟨(some 2), .mv (.c .nils), true, none⟩])
  (.seq (.region [0, 3] [⟨(some 5), .mv (.t 0), true, none⟩, ⟨(some 6), .len (.t 5), true, none⟩, ⟨(some 7), .makeSl 1 24 [.nils] (.t 6) (.t 6), false, none⟩, ⟨(some 3), .mv (.t 7), true, none⟩])
  (.seq (.seq (.region [0, 3, 4] [⟨(some 4), .mv (.c (.int .i64 0)), true, none⟩])
  (.block 0 (.loop [0, 3, 4] (.seq (.seq (.region [0, 3, 4, 11] [⟨(some 8), .mv (.t 4), true, none⟩, ⟨(some 9), .mv (.t 0), true, none⟩, ⟨(some 10), .len (.t 9), true, none⟩, ⟨(some 11), .bin .lss .other (.t 8) (.t 10), true, none⟩])
  (.cond (.t 11) .skip (.exit 0)))
  (.seq (.block 1 (.region [0, 3, 4] [⟨(some 14), .mv (.t 3), true, none⟩, ⟨(some 15), .mv (.t 4), true, none⟩, ⟨(some 16), .mv (.t 0), true, none⟩, ⟨(some 17), .mv (.t 4), true, none⟩, ⟨(some 18), .indexAddr 1 (.t 16) (.t 17), true, none⟩, ⟨(some 19), .load false 1 (.t 18), true, none⟩, ⟨(some 20), .call 87 [(.t 19)], false, none⟩, ⟨(some 21), .indexAddr 1 (.t 14) (.t 15), true, none⟩, ⟨none, .store 1 (.t 21) (.t 20), false, none⟩]))
  (.region [0, 3, 4] [⟨(some 12), .mv (.t 4), true, none⟩, ⟨(some 13), .bin .add .other (.t 12) (.c (.int .i64 1)), true, none⟩, ⟨(some 4), .mv (.t 13), true, none⟩]))))))
  (.seq (.region [2] [⟨(some 22), .mv (.t 3), true, none⟩, ⟨(some 2), .mv (.t 22), true, none⟩])
  .ret))))⟩
theorem cf44 : cF Try.prog Try.f44 = some if44 := by kernel_rfl

/-- loop.example/g01076/impl.product -/
def if45 : IFn := ⟨[0, 1], [(.cell 4 true 3)], (.seq (.region [2, 3, 4] [⟨(some 2), .box (.t 0), false, none⟩, ⟨(some 3), .box (.t 1), false, none⟩, ⟨(some 4), .alloc [(.int .i64 0), (.int .i64 0), .nils], false, none⟩])
  (.seq (.region [2, 3, 4, 5] [⟨(some 8), .fieldAddr 0 (.t 2), true, none⟩, ⟨(some 9), .load false 1 (.t 8), true, none⟩, ⟨(some 10), .fieldAddr 1 (.t 3), true, none⟩, ⟨(some 11), .load false 1 (.t 10), true, none⟩, ⟨(some 12), .build [(.int .i64 0), (.int .i64 0), .nils] [(0, 1, (.t 9)), (1, 1, (.t 11))], true, none⟩, ⟨(some 5), .alloc [(.int .i64 0), (.int .i64 0), .nils], false, none⟩, ⟨none, .store 3 (.t 5) (.t 12), false, none⟩])
  (.seq (.seq (.region [3, 4, 5, 14, 15, 16] [⟨(some 13), .fieldAddr 2 (.t 2), true, none⟩, ⟨(some 14), .load false 1 (.t 13), true, none⟩, ⟨(some 15), .len (.t 14), true, none⟩, ⟨(some 16), .mv (.c (.int .i64 0)), true, none⟩])
  (.block 0 (.loop [3, 4, 5, 14, 15, 16] (.seq (.region [3, 4, 5, 14, 15, 16, 17] [⟨(some 17), .bin .lss .other (.t 16) (.t 15), true, none⟩])
  (.seq (.cond (.t 17) .skip (.exit 0))
  (.seq (.block 1 (.seq (.region [3, 4, 5, 7, 14, 15, 16] [⟨(some 18), .indexAddr 1 (.t 14) (.t 16), true, none⟩, ⟨(some 19), .load false 1 (.t 18), true, none⟩, ⟨(some 7), .mv (.t 19), true, none⟩])
  (.draw [3, 4, 5, 14, 15, 16] [] [⟨⟨(some 20), .fieldAddr 2 (.t 5), true, none⟩, 0, []⟩, ⟨⟨(some 21), .load false 1 (.t 20), true, none⟩, 1, []⟩, ⟨⟨(some 22), .mv (.t 7), true, none⟩, 2, []⟩, ⟨⟨(some 23), .load true 3 (.t 3), true, none⟩, 3, []⟩, ⟨⟨(some 24), .call 88 [(.t 22), (.t 23)], false, none⟩, 4, [1]⟩, ⟨⟨(some 25), .buildSl 1 1 [.nils] [(0, 1, (.t 24))], false, none⟩, 5, [1]⟩, ⟨⟨(some 26), .append 1 24 (.t 21) (.t 25), false, none⟩, 6, []⟩, ⟨⟨(some 27), .fieldAddr 2 (.t 5), true, none⟩, 7, []⟩, ⟨⟨none, .store 1 (.t 27) (.t 26), false, none⟩, 8, []⟩])))
  (.region [3, 4, 5, 14, 15, 16] [⟨(some 28), .bin .add .other (.t 16) (.c (.int .i64 1)), true, none⟩, ⟨(some 16), .mv (.t 28), true, none⟩])))))))
  (.seq (.region [4] [⟨(some 29), .load true 3 (.t 5), true, none⟩, ⟨none, .store 3 (.t 4) (.t 29), false, none⟩])
  .ret))))⟩
theorem cf45 : cF Try.prog Try.f45 = some if45 := by kernel_rfl

/-- loop.example/g01076/laws.eqInt64SS -/
def if46 : IFn := ⟨[0, 1], [(.tmp 4)], (.seq (.region [0, 1] [⟨(some 4), .mv (.c (.bool false)), true, none⟩])
  (.seq (.seq (.region [0, 1, 10] [⟨(some 6), .mv (.t 0), true, none⟩, ⟨(some 7), .len (.t 6), true, none⟩, ⟨(some 8), .mv (.t 1), true, none⟩, ⟨(some 9), .len (.t 8), true, none⟩, ⟨(some 10), .bin .neq .other (.t 7) (.t 9), true, none⟩])
  (.cond (.t 10) (.seq (.region [4] [⟨(some 4), .mv (.c (.bool false)), true, none⟩])
  .ret) .skip))
  (.seq (.seq (.region [0, 1, 5] [⟨(some 5), .mv (.c (.int .i64 0)), true, none⟩])
  (.block 0 (.loop [0, 1, 5] (.seq (.seq (.region [0, 1, 5, 14] [⟨(some 11), .mv (.t 5), true, none⟩, ⟨(some 12), .mv (.t 0), true, none⟩, ⟨(some 13), .len (.t 12), true, none⟩, ⟨(some 14), .bin .lss .other (.t 11) (.t 13), true, none⟩])
  (.cond (.t 14) .skip (.exit 0)))
  (.seq (.block 1 (.seq (.draw [0, 1, 5, 26] [] [⟨⟨(some 17), .mv (.t 0), true, none⟩, 0, []⟩, ⟨⟨(some 18), .mv (.t 5), true, none⟩, 1, []⟩, ⟨⟨(some 19), .indexAddr 1 (.t 17) (.t 18), true, none⟩, 2, []⟩, ⟨⟨(some 20), .load false 1 (.t 19), true, none⟩, 3, []⟩, ⟨⟨(some 21), .mv (.t 1), true, none⟩, 4, []⟩, ⟨⟨(some 22), .mv (.t 5), true, none⟩, 5, []⟩, ⟨⟨(some 23), .indexAddr 1 (.t 21) (.t 22), true, none⟩, 6, []⟩, ⟨⟨(some 24), .load false 1 (.t 23), true, none⟩, 7, []⟩, ⟨⟨(some 25), .call 89 [(.t 20), (.t 24)], false, none⟩, 8, []⟩, ⟨⟨(some 26), .un .not (.t 25), true, none⟩, 9, []⟩])
  (.cond (.t 26) (.seq (.region [4] [⟨(some 4), .mv (.c (.bool false)), true, none⟩])
  .ret) .skip)))
  (.region [0, 1, 5] [⟨(some 15), .mv (.t 5), true, none⟩, ⟨(some 16), .bin .add .other (.t 15) (.c (.int .i64 1)), true, none⟩, ⟨(some 5), .mv (.t 16), true, none⟩]))))))
  (.seq (.region [4] [⟨(some 4), .mv (.c (.bool true)), true, none⟩])
  .ret))))⟩
theorem cf46 : cF Try.prog Try.f46 = some if46 := by kernel_rfl

/-- loop.example/g01076/laws.markInt64SS -/
def if47 : IFn := ⟨[0, 1], [(.tmp 4)], (.seq (.region [0, 1] [⟨(some 4), .mv (.c (.int .i64 0)), true, none⟩])
  (.seq (.seq (.region [0, 1, 5] [⟨(some 5), .mv (.c (.int .i64 0)), true, none⟩])
  (.block 0 (.loop [0, 1, 5] (.seq (.seq (.region [0, 1, 5, 9] [⟨(some 6), .mv (.t 5), true, none⟩, ⟨(some 7), .mv (.t 0), true, none⟩, ⟨(some 8), .len (.t 7), true, none⟩, ⟨(some 9), .bin .lss .other (.t 6) (.t 8), true, none⟩])
  (.cond (.t 9) .skip (.exit 0)))
  (.seq (.block 1 (.region [0, 1, 5] [⟨(some 12), .mv (.t 0), true, none⟩, ⟨(some 13), .mv (.t 5), true, none⟩, ⟨(some 14), .indexAddr 1 (.t 12) (.t 13), true, none⟩, ⟨(some 15), .load false 1 (.t 14), true, none⟩, ⟨(some 16), .mv (.t 1), true, none⟩, ⟨(some 17), .call 90 [(.t 15), (.t 16)], false, none⟩, ⟨(some 1), .mv (.t 17), true, none⟩]))
  (.region [0, 1, 5] [⟨(some 10), .mv (.t 5), true, none⟩, ⟨(some 11), .bin .add .other (.t 10) (.c (.int .i64 1)), true, none⟩, ⟨(some 5), .mv (.t 11), true, none⟩]))))))
  (.seq (.region [4] [⟨(some 18), .mv (.t 1), true, none⟩, ⟨(some 4), .mv (.t 18), true, none⟩])
  .ret)))⟩
theorem cf47 : cF Try.prog Try.f47 = some if47 := by kernel_rfl

/-- loop.example/g01076/laws.heldInt64SS -/
def if48 : IFn := ⟨[0, 1], [(.tmp 4)], (.seq (.region [0, 1] [⟨(some 4), .mv (.c (.int .i64 0)), true, none⟩])
  (.seq (.seq (.region [0, 1, 5] [⟨(some 5), .mv (.c (.int .i64 0)), true, none⟩])
  (.block 0 (.loop [0, 1, 5] (.seq (.seq (.region [0, 1, 5, 9] [⟨(some 6), .mv (.t 5), true, none⟩, ⟨(some 7), .mv (.t 0), true, none⟩, ⟨(some 8), .len (.t 7), true, none⟩, ⟨(some 9), .bin .lss .other (.t 6) (.t 8), true, none⟩])
  (.cond (.t 9) .skip (.exit 0)))
  (.seq (.block 1 (.seq (.region [0, 1, 5] [⟨(some 12), .mv (.t 0), true, none⟩, ⟨(some 13), .mv (.t 5), true, none⟩, ⟨(some 14), .indexAddr 1 (.t 12) (.t 13), true, none⟩, ⟨(some 15), .load false 1 (.t 14), true, none⟩, ⟨(some 16), .mv (.t 1), true, none⟩, ⟨(some 17), .call 91 [(.t 15), (.t 16)], false, none⟩, ⟨(some 1), .mv (.t 17), true, none⟩])
  (.seq (.region [0, 1, 5, 19] [⟨(some 18), .mv (.t 1), true, none⟩, ⟨(some 19), .bin .lss .other (.t 18) (.c (.int .i64 0)), true, none⟩])
  (.cond (.t 19) (.seq (.region [4] [⟨(some 4), .mv (.c (.int .i64 (-1))), true, none⟩])
  .ret) .skip))))
  (.region [0, 1, 5] [⟨(some 10), .mv (.t 5), true, none⟩, ⟨(some 11), .bin .add .other (.t 10) (.c (.int .i64 1)), true, none⟩, ⟨(some 5), .mv (.t 11), true, none⟩]))))))
  (.seq (.region [4] [⟨(some 20), .mv (.t 1), true, none⟩, ⟨(some 4), .mv (.t 20), true, none⟩])
  .ret)))⟩
theorem cf48 : cF Try.prog Try.f48 = some if48 := by kernel_rfl

/-- loop.example/g01076/spec.l01From -/
def if49 : IFn := ⟨[0], [(.tmp 2)], (.seq (.region [0] [⟨(some 2), .mv (.c .nilp), true, none⟩])
  (.seq (.region [0, 3] [⟨(some 5), .mv (.t 0), true, none⟩, ⟨(some 6), .build [.nils, (.int .i64 0), (.int .i64 0)] [(0, 1, (.t 5)), (2, 1, (.c (.int .i64 76001)))], true, none⟩, ⟨(some 7), .box (.t 6), false, none⟩, ⟨(some 3), .mv (.t 7), true, none⟩])
  (.seq (.seq (.region [0, 3, 4] [⟨(some 4), .mv (.c (.int .i64 0)), true, none⟩])
  (.block 0 (.loop [0, 3, 4] (.seq (.seq (.region [0, 3, 4, 15] [⟨(some 8), .mv (.t 4), true, none⟩, ⟨(some 9), .mv (.t 0), true, none⟩, ⟨(some 10), .len (.t 9), true, none⟩, ⟨(some 11), .bin .lss .other (.t 8) (.t 10), true, none⟩, ⟨(some 12), .mv (.t 11), true, none⟩, ⟨(some 13), .mv (.t 4), true, (some (12, true))⟩, ⟨(some 14), .bin .lss .other (.t 13) (.c (.int .i64 64)), true, (some (12, true))⟩, ⟨(some 15), .pick (.t 12) (.t 14) (.c (.bool false)), true, none⟩])
  (.cond (.t 15) .skip (.exit 0)))
  (.seq (.block 1 (.draw [0, 3, 4] [] [⟨⟨(some 18), .mv (.t 3), true, none⟩, 0, []⟩, ⟨⟨(some 19), .mv (.t 3), true, none⟩, 1, []⟩, ⟨⟨(some 20), .nilCheck (.t 19), true, none⟩, 2, []⟩, ⟨⟨(some 21), .fieldAddr 2 (.t 20), true, none⟩, 3, []⟩, ⟨⟨(some 22), .load false 1 (.t 21), true, none⟩, 4, []⟩, ⟨⟨(some 23), .bin .mul .other (.t 22) (.c (.int .i64 71)), true, none⟩, 5, []⟩, ⟨⟨(some 24), .mv (.t 0), true, none⟩, 6, []⟩, ⟨⟨(some 25), .mv (.t 4), true, none⟩, 7, []⟩, ⟨⟨(some 26), .indexAddr 1 (.t 24) (.t 25), true, none⟩, 8, []⟩, ⟨⟨(some 27), .load false 1 (.t 26), true, none⟩, 9, []⟩, ⟨⟨(some 28), .conv .i64 (.t 27), true, none⟩, 10, []⟩, ⟨⟨(some 29), .bin .add .other (.t 23) (.t 28), true, none⟩, 11, []⟩, ⟨⟨(some 30), .bin .rem .other (.t 29) (.c (.int .i64 2147483647)), true, none⟩, 12, []⟩, ⟨⟨(some 31), .nilCheck (.t 18), true, none⟩, 13, []⟩, ⟨⟨(some 32), .fieldAddr 2 (.t 31), true, none⟩, 14, []⟩, ⟨⟨none, .store 1 (.t 32) (.t 30), false, none⟩, 15, []⟩]))
  (.region [0, 3, 4] [⟨(some 16), .mv (.t 4), true, none⟩, ⟨(some 17), .bin .add .other (.t 16) (.c (.int .i64 1)), true, none⟩, ⟨(some 4), .mv (.t 17), true, none⟩]))))))
  (.seq (.region [2] [⟨(some 33), .mv (.t 3), true, none⟩, ⟨(some 2), .mv (.t 33), true, none⟩])
  .ret))))⟩
theorem cf49 : cF Try.prog Try.f49 = some if49 := by kernel_rfl

/-- loop.example/g01076/spec.l02Draw -/
def if50 : IFn := ⟨[0], [(.cell 2 true 3)], (.seq (.region [0, 2] [⟨(some 2), .alloc [(.int .i64 0), (.int .i64 0), .nils], false, none⟩])
  (.seq (.region [0, 2, 3] [⟨(some 6), .mv (.t 0), true, none⟩, ⟨(some 7), .call 92 [(.t 6)], false, none⟩, ⟨(some 3), .mv (.t 7), true, none⟩])
  (.seq (.region [0, 2, 3, 4, 5] [⟨(some 8), .mv (.t 0), true, none⟩, ⟨(some 9), .call 51 [(.t 8), (.c (.int .i64 5))], false, none⟩, ⟨(some 10), .mv (.t 0), true, none⟩, ⟨(some 11), .call 51 [(.t 10), (.c (.int .i64 5))], false, none⟩, ⟨(some 4), .mv (.t 9), true, none⟩, ⟨(some 5), .mv (.t 11), true, none⟩])
  (.seq (.seq (.region [0, 2, 3, 4, 5, 14] [⟨(some 12), .mv (.t 0), true, none⟩, ⟨(some 13), .call 51 [(.t 12), (.c (.int .i64 10))], false, none⟩, ⟨(some 14), .bin .eql .other (.t 13) (.c (.int .i64 0)), true, none⟩])
  (.cond (.t 14) (.region [0, 2, 3, 4, 5] [⟨(some 15), .mv (.t 0), true, none⟩, ⟨(some 16), .buildSl 1 3 [(.int .i64 0)] [(0, 1, (.c (.int .i64 8))), (1, 1, (.c (.int .i64 7))), (2, 1, (.c (.int .i64 6)))], false, none⟩, ⟨(some 17), .call 93 [(.t 15), (.t 16)], false, none⟩, ⟨(some 18), .mv (.t 0), true, none⟩, ⟨(some 19), .buildSl 1 3 [(.int .i64 0)] [(0, 1, (.c (.int .i64 8))), (1, 1, (.c (.int .i64 7))), (2, 1, (.c (.int .i64 6)))], false, none⟩, ⟨(some 20), .call 93 [(.t 18), (.t 19)], false, none⟩, ⟨(some 4), .mv (.t 17), true, none⟩, ⟨(some 5), .mv (.t 20), true, none⟩]) .skip))
  (.seq (.region [2] [⟨(some 21), .mv (.t 0), true, none⟩, ⟨(some 22), .mv (.t 0), true, none⟩, ⟨(some 23), .mv (.t 3), true, none⟩, ⟨(some 24), .mv (.t 4), true, none⟩, ⟨(some 25), .mv (.t 5), true, none⟩, ⟨(some 26), .call 54 [(.t 22), (.t 23), (.t 24), (.t 25)], false, none⟩, ⟨(some 27), .call 53 [(.t 21), (.t 26)], false, none⟩, ⟨none, .store 3 (.t 2) (.t 27), false, none⟩])
  .ret)))))⟩
theorem cf50 : cF Try.prog Try.f50 = some if50 := by kernel_rfl

/-- loop.example/g01076/spec.l01Next -/
def if51 : IFn := ⟨[0, 1], [(.tmp 4)], (.seq (.region [0, 1] [⟨(some 4), .mv (.c (.int .i64 0)), true, none⟩])
  (.seq (.seq (.region [0, 1, 7] [⟨(some 6), .mv (.t 1), true, none⟩, ⟨(some 7), .bin .leq .other (.t 6) (.c (.int .i64 1)), true, none⟩])
  (.cond (.t 7) (.seq (.region [4] [⟨(some 4), .mv (.c (.int .i64 0)), true, none⟩])
  .ret) .skip))
  (.seq (.region [0, 1] [⟨(some 8), .mv (.t 0), true, none⟩, ⟨(some 9), .mv (.t 0), true, none⟩, ⟨(some 10), .nilCheck (.t 9), true, none⟩, ⟨(some 11), .fieldAddr 2 (.t 10), true, none⟩, ⟨(some 12), .load false 1 (.t 11), true, none⟩, ⟨(some 13), .bin .mul .other (.t 12) (.c (.int .i64 48271)), true, none⟩, ⟨(some 14), .bin .add .other (.t 13) (.c (.int .i64 71)), true, none⟩, ⟨(some 15), .bin .rem .other (.t 14) (.c (.int .i64 2147483647)), true, none⟩, ⟨(some 16), .nilCheck (.t 8), true, none⟩, ⟨(some 17), .fieldAddr 2 (.t 16), true, none⟩, ⟨none, .store 1 (.t 17) (.t 15), false, none⟩])
  (.seq (.region [0, 1, 5] [⟨(some 18), .mv (.t 0), true, none⟩, ⟨(some 19), .nilCheck (.t 18), true, none⟩, ⟨(some 20), .fieldAddr 2 (.t 19), true, none⟩, ⟨(some 21), .load false 1 (.t 20), true, none⟩, ⟨(some 22), .bin .quo .other (.t 21) (.c (.int .i64 47)), true, none⟩, ⟨(some 5), .mv (.t 22), true, none⟩])
  (.seq (.seq (.draw [0, 1, 5, 32] [] [⟨⟨(some 23), .mv (.t 0), true, none⟩, 0, []⟩, ⟨⟨(some 24), .nilCheck (.t 23), true, none⟩, 1, []⟩, ⟨⟨(some 25), .fieldAddr 1 (.t 24), true, none⟩, 2, []⟩, ⟨⟨(some 26), .load false 1 (.t 25), true, none⟩, 3, []⟩, ⟨⟨(some 27), .mv (.t 0), true, none⟩, 4, []⟩, ⟨⟨(some 28), .nilCheck (.t 27), true, none⟩, 5, []⟩, ⟨⟨(some 29), .fieldAddr 0 (.t 28), true, none⟩, 6, []⟩, ⟨⟨(some 30), .load false 1 (.t 29), true, none⟩, 7, []⟩, ⟨⟨(some 31), .len (.t 30), true, none⟩, 8, []⟩, ⟨⟨(some 32), .bin .lss .other (.t 26) (.t 31), true, none⟩, 9, []⟩])
  (.cond (.t 32) (.seq (.draw [0, 1, 5] [] [⟨⟨(some 33), .mv (.t 5), true, none⟩, 0, []⟩, ⟨⟨(some 34), .mv (.t 0), true, none⟩, 1, []⟩, ⟨⟨(some 35), .nilCheck (.t 34), true, none⟩, 2, []⟩, ⟨⟨(some 36), .fieldAddr 0 (.t 35), true, none⟩, 3, []⟩, ⟨⟨(some 37), .load false 1 (.t 36), true, none⟩, 4, []⟩, ⟨⟨(some 38), .mv (.t 0), true, none⟩, 5, []⟩, ⟨⟨(some 39), .nilCheck (.t 38), true, none⟩, 6, []⟩, ⟨⟨(some 40), .fieldAddr 1 (.t 39), true, none⟩, 7, []⟩, ⟨⟨(some 41), .load false 1 (.t 40), true, none⟩, 8, []⟩, ⟨⟨(some 42), .indexAddr 1 (.t 37) (.t 41), true, none⟩, 9, []⟩, ⟨⟨(some 43), .load false 1 (.t 42), true, none⟩, 10, []⟩, ⟨⟨(some 44), .conv .i64 (.t 43), true, none⟩, 11, []⟩, ⟨⟨(some 45), .bin .add .other (.t 33) (.t 44), true, none⟩, 12, []⟩, ⟨⟨(some 5), .mv (.t 45), true, none⟩, 13, []⟩])
  (.seq (.region [0, 1, 5] [⟨(some 46), .mv (.t 0), true, none⟩, ⟨(some 47), .nilCheck (.t 46), true, none⟩, ⟨(some 48), .fieldAddr 1 (.t 47), true, none⟩, ⟨(some 49), .load false 1 (.t 48), true, none⟩, ⟨(some 50), .bin .add .other (.t 49) (.c (.int .i64 1)), true, none⟩, ⟨(some 51), .nilCheck (.t 46), true, none⟩, ⟨(some 52), .fieldAddr 1 (.t 51), true, none⟩, ⟨none, .store 1 (.t 52) (.t 50), false, none⟩])
  (.seq (.region [0, 1, 5, 62] [⟨(some 53), .mv (.t 1), true, none⟩, ⟨(some 54), .bin .leq .other (.t 53) (.c (.int .i64 256)), true, none⟩, ⟨(some 55), .mv (.t 54), true, none⟩, ⟨(some 56), .mv (.t 0), true, (some (55, true))⟩, ⟨(some 57), .nilCheck (.t 56), true, (some (55, true))⟩, ⟨(some 58), .fieldAddr 1 (.t 57), true, (some (55, true))⟩, ⟨(some 59), .load false 1 (.t 58), true, (some (55, true))⟩, ⟨(some 60), .bin .rem .other (.t 59) (.c (.int .i64 2)), true, (some (55, true))⟩, ⟨(some 61), .bin .eql .other (.t 60) (.c (.int .i64 0)), true, (some (55, true))⟩, ⟨(some 62), .pick (.t 55) (.t 61) (.c (.bool false)), true, none⟩])
  (.cond (.t 62) (.draw [1, 5] [] [⟨⟨(some 63), .mv (.t 0), true, none⟩, 0, []⟩, ⟨⟨(some 64), .nilCheck (.t 63), true, none⟩, 1, []⟩, ⟨⟨(some 65), .fieldAddr 0 (.t 64), true, none⟩, 2, []⟩, ⟨⟨(some 66), .load false 1 (.t 65), true, none⟩, 3, []⟩, ⟨⟨(some 67), .mv (.t 0), true, none⟩, 4, []⟩, ⟨⟨(some 68), .nilCheck (.t 67), true, none⟩, 5, []⟩, ⟨⟨(some 69), .fieldAddr 1 (.t 68), true, none⟩, 6, []⟩, ⟨⟨(some 70), .load false 1 (.t 69), true, none⟩, 7, []⟩, ⟨⟨(some 71), .bin .sub .other (.t 70) (.c (.int .i64 1)), true, none⟩, 8, []⟩, ⟨⟨(some 72), .indexAddr 1 (.t 66) (.t 71), true, none⟩, 9, []⟩, ⟨⟨(some 73), .load false 1 (.t 72), true, none⟩, 10, []⟩, ⟨⟨(some 74), .conv .i64 (.t 73), true, none⟩, 11, []⟩, ⟨⟨(some 5), .mv (.t 74), true, none⟩, 12, []⟩]) .skip)))) .skip))
  (.seq (.region [4] [⟨(some 75), .mv (.t 5), true, none⟩, ⟨(some 76), .mv (.t 1), true, none⟩, ⟨(some 77), .bin .rem .other (.t 75) (.t 76), true, none⟩, ⟨(some 4), .mv (.t 77), true, none⟩])
  .ret))))))⟩
theorem cf51 : cF Try.prog Try.f51 = some if51 := by kernel_rfl

/-- loop.example/g01076/spec.l01Prime -/
def if52 : IFn := ⟨[0], [(.tmp 2)], (.seq (.region [0] [⟨(some 2), .mv (.c (.bool false)), true, none⟩])
  (.seq (.region [2] [⟨(some 3), .mv (.t 0), true, none⟩, ⟨(some 4), .bin .eql .other (.t 3) (.c (.int .i64 2)), true, none⟩, ⟨(some 5), .mv (.t 4), true, none⟩, ⟨(some 6), .mv (.t 0), true, (some (5, false))⟩, ⟨(some 7), .bin .eql .other (.t 6) (.c (.int .i64 3)), true, (some (5, false))⟩, ⟨(some 8), .pick (.t 5) (.c (.bool true)) (.t 7), true, none⟩, ⟨(some 9), .mv (.t 8), true, none⟩, ⟨(some 10), .mv (.t 0), true, (some (9, false))⟩, ⟨(some 11), .bin .eql .other (.t 10) (.c (.int .i64 5)), true, (some (9, false))⟩, ⟨(some 12), .pick (.t 9) (.c (.bool true)) (.t 11), true, none⟩, ⟨(some 13), .mv (.t 12), true, none⟩, ⟨(some 14), .mv (.t 0), true, (some (13, false))⟩, ⟨(some 15), .bin .eql .other (.t 14) (.c (.int .i64 7)), true, (some (13, false))⟩, ⟨(some 16), .pick (.t 13) (.c (.bool true)) (.t 15), true, none⟩, ⟨(some 2), .mv (.t 16), true, none⟩])
  .ret))⟩
theorem cf52 : cF Try.prog Try.f52 = some if52 := by kernel_rfl

-- BAD 53 loop.example/g01076/spec.l02Bend
/-- loop.example/g01076/spec.l02DrawRows -/
def if54 : IFn := ⟨[0, 1, 2, 3], [(.cell 8 true 3)], (.seq (.region [0, 1, 2, 3, 8] [⟨(some 8), .alloc [(.int .i64 0), (.int .i64 0), .nils], false, none⟩])
  (.seq (.region [0, 1, 2, 3, 8, 9] [⟨(some 12), .mv (.t 1), true, none⟩, ⟨(some 13), .mv (.t 3), true, none⟩, ⟨(some 14), .build [(.int .i64 0), (.int .i64 0), .nils] [(0, 1, (.t 12)), (1, 1, (.t 13))], true, none⟩, ⟨(some 9), .alloc [(.int .i64 0), (.int .i64 0), .nils], false, none⟩, ⟨none, .store 3 (.t 9) (.t 14), false, none⟩])
  (.seq (.seq (.region [0, 1, 2, 3, 8, 9, 10] [⟨(some 10), .mv (.c (.int .i64 0)), true, none⟩])
  (.block 0 (.loop [0, 1, 2, 3, 8, 9, 10] (.seq (.seq (.region [0, 1, 2, 3, 8, 9, 10, 17] [⟨(some 15), .mv (.t 10), true, none⟩, ⟨(some 16), .mv (.t 2), true, none⟩, ⟨(some 17), .bin .lss .other (.t 15) (.t 16), true, none⟩])
  (.cond (.t 17) .skip (.exit 0)))
  (.seq (.block 1 (.seq (.region [0, 1, 2, 3, 8, 9, 10, 11] [⟨(some 20), .mv (.t 0), true, none⟩, ⟨(some 21), .mv (.t 1), true, none⟩, ⟨(some 22), .mv (.t 3), true, none⟩, ⟨(some 23), .call 76 [(.t 20), (.t 21), (.t 22)], false, none⟩, ⟨(some 11), .mv (.t 23), true, none⟩])
  (.seq (.seq (.region [0, 1, 2, 3, 8, 9, 10, 11, 30] [⟨(some 24), .mv (.t 10), true, none⟩, ⟨(some 25), .bin .gtr .other (.t 24) (.c (.int .i64 0)), true, none⟩, ⟨(some 26), .mv (.t 25), true, none⟩, ⟨(some 27), .mv (.t 0), true, (some (26, true))⟩, ⟨(some 28), .call 51 [(.t 27), (.c (.int .i64 4))], false, (some (26, true))⟩, ⟨(some 29), .bin .eql .other (.t 28) (.c (.int .i64 0)), true, (some (26, true))⟩, ⟨(some 30), .pick (.t 26) (.t 29) (.c (.bool false)), true, none⟩])
  (.cond (.t 30) (.draw [0, 1, 2, 3, 8, 9, 10, 11] [] [⟨⟨(some 31), .mv (.t 1), true, none⟩, 0, []⟩, ⟨⟨(some 32), .mv (.t 0), true, none⟩, 1, []⟩, ⟨⟨(some 33), .mv (.t 1), true, none⟩, 2, []⟩, ⟨⟨(some 35), .fieldAddr 2 (.t 9), true, none⟩, 4, []⟩, ⟨⟨(some 36), .load false 1 (.t 35), true, none⟩, 5, []⟩, ⟨⟨(some 37), .mv (.t 0), true, none⟩, 6, []⟩, ⟨⟨(some 38), .mv (.t 10), true, none⟩, 7, []⟩, ⟨⟨(some 34), .call 51 [(.t 32), (.t 33)], false, none⟩, 3, [5]⟩, ⟨⟨(some 39), .call 51 [(.t 37), (.t 38)], false, none⟩, 8, [5]⟩, ⟨⟨(some 40), .indexAddr 1 (.t 36) (.t 39), true, none⟩, 9, []⟩, ⟨⟨(some 41), .load false 1 (.t 40), true, none⟩, 10, []⟩, ⟨⟨(some 42), .call 95 [(.t 31), (.t 34), (.t 41)], false, none⟩, 11, []⟩, ⟨⟨(some 11), .mv (.t 42), true, none⟩, 12, []⟩]) .skip))
  (.region [0, 1, 2, 3, 8, 9, 10] [⟨(some 43), .fieldAddr 2 (.t 9), true, none⟩, ⟨(some 44), .load false 1 (.t 43), true, none⟩, ⟨(some 45), .mv (.t 11), true, none⟩, ⟨(some 46), .buildSl 1 1 [.nils] [(0, 1, (.t 45))], false, none⟩, ⟨(some 47), .append 1 24 (.t 44) (.t 46), false, none⟩, ⟨(some 48), .fieldAddr 2 (.t 9), true, none⟩, ⟨none, .store 1 (.t 48) (.t 47), false, none⟩]))))
  (.region [0, 1, 2, 3, 8, 9, 10] [⟨(some 18), .mv (.t 10), true, none⟩, ⟨(some 19), .bin .add .other (.t 18) (.c (.int .i64 1)), true, none⟩, ⟨(some 10), .mv (.t 19), true, none⟩]))))))
  (.seq (.region [8] [⟨(some 49), .load true 3 (.t 9), true, none⟩, ⟨none, .store 3 (.t 8) (.t 49), false, none⟩])
  .ret))))⟩
theorem cf54 : cF Try.prog Try.f54 = some if54 := by kernel_rfl

/-- loop.example/g01076/laws.like29 -/
def if55 : IFn := ⟨[0, 1], [(.tmp 4)], (.seq (.region [0, 1] [⟨(some 4), .mv (.c (.bool false)), true, none⟩])
  (.seq (.seq (.region [0, 1, 10] [⟨(some 6), .mv (.t 0), true, none⟩, ⟨(some 7), .len (.t 6), true, none⟩, ⟨(some 8), .mv (.t 1), true, none⟩, ⟨(some 9), .len (.t 8), true, none⟩, ⟨(some 10), .bin .neq .other (.t 7) (.t 9), true, none⟩])
  (.cond (.t 10) (.seq (.region [4] [⟨(some 4), .mv (.c (.bool false)), true, none⟩])
  .ret) .skip))
  (.seq (.seq (.region [0, 1, 5] [⟨(some 5), .mv (.c (.int .i64 0)), true, none⟩])
  (.block 0 (.loop [0, 1, 5] (.seq (.seq (.region [0, 1, 5, 14] [⟨(some 11), .mv (.t 5), true, none⟩, ⟨(some 12), .mv (.t 0), true, none⟩, ⟨(some 13), .len (.t 12), true, none⟩, ⟨(some 14), .bin .lss .other (.t 11) (.t 13), true, none⟩])
  (.cond (.t 14) .skip (.exit 0)))
  (.seq (.block 1 (.seq (.draw [0, 1, 5, 26] [] [⟨⟨(some 17), .mv (.t 0), true, none⟩, 0, []⟩, ⟨⟨(some 18), .mv (.t 5), true, none⟩, 1, []⟩, ⟨⟨(some 19), .indexAddr 1 (.t 17) (.t 18), true, none⟩, 2, []⟩, ⟨⟨(some 20), .load false 1 (.t 19), true, none⟩, 3, []⟩, ⟨⟨(some 21), .mv (.t 1), true, none⟩, 4, []⟩, ⟨⟨(some 22), .mv (.t 5), true, none⟩, 5, []⟩, ⟨⟨(some 23), .indexAddr 1 (.t 21) (.t 22), true, none⟩, 6, []⟩, ⟨⟨(some 24), .load false 1 (.t 23), true, none⟩, 7, []⟩, ⟨⟨(some 25), .call 36 [(.t 20), (.t 24)], false, none⟩, 8, []⟩, ⟨⟨(some 26), .un .not (.t 25), true, none⟩, 9, []⟩])
  (.cond (.t 26) (.seq (.region [4] [⟨(some 4), .mv (.c (.bool false)), true, none⟩])
  .ret) .skip)))
  (.region [0, 1, 5] [⟨(some 15), .mv (.t 5), true, none⟩, ⟨(some 16), .bin .add .other (.t 15) (.c (.int .i64 1)), true, none⟩, ⟨(some 5), .mv (.t 16), true, none⟩]))))))
  (.seq (.region [4] [⟨(some 4), .mv (.c (.bool true)), true, none⟩])
  .ret))))⟩
theorem cf55 : cF Try.prog Try.f55 = some if55 := by kernel_rfl

/-- loop.example/g01076/impl.transposed -/
def if56 : IFn := ⟨[0], [(.cell 2 true 3)], (.seq (.region [1, 2] [⟨(some 1), .box (.t 0), false, none⟩, ⟨(some 2), .alloc [(.int .i64 0), (.int .i64 0), .nils], false, none⟩])
  (.seq (.region [1, 2, 3] [⟨(some 7), .fieldAddr 0 (.t 1), true, none⟩, ⟨(some 8), .load false 1 (.t 7), true, none⟩, ⟨(some 9), .fieldAddr 2 (.t 1), true, none⟩, ⟨(some 10), .load false 1 (.t 9), true, none⟩, ⟨(some 11), .len (.t 10), true, none⟩, ⟨(some 12), .build [(.int .i64 0), (.int .i64 0), .nils] [(0, 1, (.t 8)), (1, 1, (.t 11))], true, none⟩, ⟨(some 3), .alloc [(.int .i64 0), (.int .i64 0), .nils], false, none⟩, ⟨none, .store 3 (.t 3) (.t 12), false, none⟩])
  (.seq (.seq (.region [1, 2, 3, 14, 15] [⟨(some 13), .fieldAddr 1 (.t 1), true, none⟩, ⟨(some 14), .load false 1 (.t 13), true, none⟩, ⟨(some 15), .mv (.c (.int .i64 0)), true, none⟩])
  (.block 0 (.loop [1, 2, 3, 14, 15] (.seq (.region [1, 2, 3, 14, 15, 16] [⟨(some 16), .bin .lss .other (.t 15) (.t 14), true, none⟩])
  (.seq (.cond (.t 16) .skip (.exit 0))
  (.seq (.block 1 (.seq (.region [1, 2, 3, 4, 14, 15] [⟨(some 17), .mv (.t 15), true, none⟩, ⟨(some 4), .mv (.t 17), true, none⟩])
  (.seq (.region [1, 2, 3, 4, 5, 14, 15] [⟨(some 5), .mv (.c .nils), true, none⟩])
  (.seq (.seq (.region [1, 2, 3, 4, 5, 14, 15, 20, 21] [⟨(some 18), .fieldAddr 2 (.t 1), true, none⟩, ⟨(some 19), .load false 1 (.t 18), true, none⟩, ⟨(some 20), .len (.t 19), true, none⟩, ⟨(some 21), .mv (.c (.int .i64 0)), true, none⟩])
  (.block 2 (.loop [1, 2, 3, 4, 5, 14, 15, 20, 21] (.seq (.region [1, 2, 3, 4, 5, 14, 15, 20, 21, 22] [⟨(some 22), .bin .lss .other (.t 21) (.t 20), true, none⟩])
  (.seq (.cond (.t 22) .skip (.exit 2))
  (.seq (.block 3 (.seq (.region [1, 2, 3, 4, 5, 6, 14, 15, 20, 21] [⟨(some 23), .mv (.t 21), true, none⟩, ⟨(some 6), .mv (.t 23), true, none⟩])
  (.region [1, 2, 3, 4, 5, 14, 15, 20, 21] [⟨(some 24), .mv (.t 5), true, none⟩, ⟨(some 25), .fieldAddr 2 (.t 1), true, none⟩, ⟨(some 26), .load false 1 (.t 25), true, none⟩, ⟨(some 27), .mv (.t 6), true, none⟩, ⟨(some 28), .indexAddr 1 (.t 26) (.t 27), true, none⟩, ⟨(some 29), .load false 1 (.t 28), true, none⟩, ⟨(some 30), .mv (.t 4), true, none⟩, ⟨(some 31), .indexAddr 1 (.t 29) (.t 30), true, none⟩, ⟨(some 32), .load false 1 (.t 31), true, none⟩, ⟨(some 33), .buildSl 1 1 [(.int .i64 0)] [(0, 1, (.t 32))], false, none⟩, ⟨(some 34), .append 1 8 (.t 24) (.t 33), false, none⟩, ⟨(some 5), .mv (.t 34), true, none⟩])))
  (.region [1, 2, 3, 4, 5, 14, 15, 20, 21] [⟨(some 35), .bin .add .other (.t 21) (.c (.int .i64 1)), true, none⟩, ⟨(some 21), .mv (.t 35), true, none⟩])))))))
  (.region [1, 2, 3, 14, 15] [⟨(some 36), .fieldAddr 2 (.t 3), true, none⟩, ⟨(some 37), .load false 1 (.t 36), true, none⟩, ⟨(some 38), .mv (.t 5), true, none⟩, ⟨(some 39), .buildSl 1 1 [.nils] [(0, 1, (.t 38))], false, none⟩, ⟨(some 40), .append 1 24 (.t 37) (.t 39), false, none⟩, ⟨(some 41), .fieldAddr 2 (.t 3), true, none⟩, ⟨none, .store 1 (.t 41) (.t 40), false, none⟩])))))
  (.region [1, 2, 3, 14, 15] [⟨(some 42), .bin .add .other (.t 15) (.c (.int .i64 1)), true, none⟩, ⟨(some 15), .mv (.t 42), true, none⟩])))))))
  (.seq (.region [2] [⟨(some 43), .load true 3 (.t 3), true, none⟩, ⟨none, .store 3 (.t 2) (.t 43), false, none⟩])
  .ret))))⟩
theorem cf56 : cF Try.prog Try.f56 = some if56 := by kernel_rfl

/-- loop.example/g01076/impl.reduced -/
def if57 : IFn := ⟨[0], [(.cell 2 true 3)], (.seq (.region [1, 2] [⟨(some 1), .box (.t 0), false, none⟩, ⟨(some 2), .alloc [(.int .i64 0), (.int .i64 0), .nils], false, none⟩])
  (.seq (.region [2] [⟨(some 3), .fieldAddr 0 (.t 1), true, none⟩, ⟨(some 4), .load false 1 (.t 3), true, none⟩, ⟨(some 5), .fieldAddr 1 (.t 1), true, none⟩, ⟨(some 6), .load false 1 (.t 5), true, none⟩, ⟨(some 7), .fieldAddr 2 (.t 1), true, none⟩, ⟨(some 8), .load false 1 (.t 7), true, none⟩, ⟨(some 9), .call 70 [(.t 4), (.t 6), (.t 8)], false, none⟩, ⟨none, .store 3 (.t 2) (.t 9), false, none⟩])
  .ret))⟩
theorem cf57 : cF Try.prog Try.f57 = some if57 := by kernel_rfl

/-- loop.example/g01076/spec.IsSubspace -/
def if58 : IFn := ⟨[0], [(.tmp 2)], (.seq (.region [1] [⟨(some 1), .box (.t 0), false, none⟩, ⟨(some 2), .mv (.c (.bool false)), true, none⟩])
  (.seq (.draw [2] [] [⟨⟨(some 3), .load true 3 (.t 1), true, none⟩, 0, []⟩, ⟨⟨(some 4), .call 37 [(.t 3)], false, none⟩, 1, []⟩, ⟨⟨(some 5), .mv (.t 4), true, none⟩, 2, []⟩, ⟨⟨(some 6), .fieldAddr 0 (.t 1), true, (some (5, true))⟩, 3, []⟩, ⟨⟨(some 7), .load false 1 (.t 6), true, (some (5, true))⟩, 4, []⟩, ⟨⟨(some 8), .fieldAddr 2 (.t 1), true, (some (5, true))⟩, 5, []⟩, ⟨⟨(some 9), .load false 1 (.t 8), true, (some (5, true))⟩, 6, []⟩, ⟨⟨(some 11), .fieldAddr 2 (.t 1), true, (some (5, true))⟩, 8, []⟩, ⟨⟨(some 12), .load false 1 (.t 11), true, (some (5, true))⟩, 9, []⟩, ⟨⟨(some 10), .call 59 [(.t 7), (.t 9)], false, (some (5, true))⟩, 7, [9]⟩, ⟨⟨(some 13), .call 96 [(.t 10), (.t 12)], false, (some (5, true))⟩, 10, []⟩, ⟨⟨(some 14), .pick (.t 5) (.t 13) (.c (.bool false)), true, none⟩, 11, []⟩, ⟨⟨(some 2), .mv (.t 14), true, none⟩, 12, []⟩])
  .ret))⟩
theorem cf58 : cF Try.prog Try.f58 = some if58 := by kernel_rfl

/-- loop.example/g01076/spec.l02Reduce -/
def if59 : IFn := ⟨[0, 1], [(.tmp 4)], (.seq (.region [0, 1] [⟨(some 4), .mv (.c .nils), true, none⟩])
  (.seq (.region [0, 1, 5] [⟨(some 12), .buildSl 1 0 [.nils] [], false, none⟩, ⟨(some 5), .mv (.t 12), true, none⟩])
  (.seq (.seq (.region [0, 1, 5, 6] [⟨(some 6), .mv (.c (.int .i64 0)), true, none⟩])
  (.block 0 (.loop [0, 1, 5, 6] (.seq (.seq (.region [0, 1, 5, 6, 16] [⟨(some 13), .mv (.t 6), true, none⟩, ⟨(some 14), .mv (.t 1), true, none⟩, ⟨(some 15), .len (.t 14), true, none⟩, ⟨(some 16), .bin .lss .other (.t 13) (.t 15), true, none⟩])
  (.cond (.t 16) .skip (.exit 0)))
  (.seq (.block 1 (.seq (.region [0, 1, 5, 6, 7] [⟨(some 19), .mv (.t 0), true, none⟩, ⟨(some 20), .mv (.t 5), true, none⟩, ⟨(some 21), .mv (.t 1), true, none⟩, ⟨(some 22), .mv (.t 6), true, none⟩, ⟨(some 23), .indexAddr 1 (.t 21) (.t 22), true, none⟩, ⟨(some 24), .load false 1 (.t 23), true, none⟩, ⟨(some 25), .call 97 [(.t 19), (.t 20), (.t 24)], false, none⟩, ⟨(some 7), .mv (.t 25), true, none⟩])
  (.seq (.region [0, 1, 5, 6, 7, 8] [⟨(some 26), .mv (.t 7), true, none⟩, ⟨(some 27), .call 98 [(.t 26)], false, none⟩, ⟨(some 8), .mv (.t 27), true, none⟩])
  (.seq (.seq (.region [0, 1, 5, 6, 7, 8, 31] [⟨(some 28), .mv (.t 8), true, none⟩, ⟨(some 29), .mv (.t 7), true, none⟩, ⟨(some 30), .len (.t 29), true, none⟩, ⟨(some 31), .bin .eql .other (.t 28) (.t 30), true, none⟩])
  (.cond (.t 31) (.exit 1) .skip))
  (.seq (.region [0, 1, 5, 6, 7, 8] [⟨(some 32), .mv (.t 0), true, none⟩, ⟨(some 33), .mv (.t 7), true, none⟩, ⟨(some 34), .mv (.t 8), true, none⟩, ⟨(some 35), .indexAddr 1 (.t 33) (.t 34), true, none⟩, ⟨(some 36), .load false 1 (.t 35), true, none⟩, ⟨(some 37), .mv (.t 0), true, none⟩, ⟨(some 38), .call 99 [(.t 36), (.t 37)], false, none⟩, ⟨(some 39), .mv (.t 7), true, none⟩, ⟨(some 40), .call 95 [(.t 32), (.t 38), (.t 39)], false, none⟩, ⟨(some 7), .mv (.t 40), true, none⟩])
  (.seq (.region [0, 1, 5, 6, 7, 8, 9, 10] [⟨(some 41), .buildSl 1 0 [.nils] [], false, none⟩, ⟨(some 9), .mv (.t 41), true, none⟩, ⟨(some 10), .mv (.c (.bool false)), true, none⟩])
  (.seq (.seq (.region [0, 1, 5, 6, 7, 8, 9, 10, 11] [⟨(some 11), .mv (.c (.int .i64 0)), true, none⟩])
  (.block 2 (.loop [0, 1, 5, 6, 7, 8, 9, 10, 11] (.seq (.seq (.region [0, 1, 5, 6, 7, 8, 9, 10, 11, 45] [⟨(some 42), .mv (.t 11), true, none⟩, ⟨(some 43), .mv (.t 5), true, none⟩, ⟨(some 44), .len (.t 43), true, none⟩, ⟨(some 45), .bin .lss .other (.t 42) (.t 44), true, none⟩])
  (.cond (.t 45) .skip (.exit 2)))
  (.seq (.block 3 (.seq (.seq (.region [0, 1, 5, 6, 7, 8, 9, 10, 11, 58] [⟨(some 48), .mv (.t 10), true, none⟩, ⟨(some 49), .un .not (.t 48), true, none⟩, ⟨(some 50), .mv (.t 49), true, none⟩, ⟨(some 51), .mv (.t 5), true, (some (50, true))⟩, ⟨(some 52), .mv (.t 11), true, (some (50, true))⟩, ⟨(some 53), .indexAddr 1 (.t 51) (.t 52), true, (some (50, true))⟩, ⟨(some 54), .load false 1 (.t 53), true, (some (50, true))⟩, ⟨(some 55), .call 98 [(.t 54)], false, (some (50, true))⟩, ⟨(some 56), .mv (.t 8), true, (some (50, true))⟩, ⟨(some 57), .bin .gtr .other (.t 55) (.t 56), true, (some (50, true))⟩, ⟨(some 58), .pick (.t 50) (.t 57) (.c (.bool false)), true, none⟩])
  (.cond (.t 58) (.seq (.region [0, 1, 5, 6, 7, 8, 9, 11] [⟨(some 59), .mv (.t 9), true, none⟩, ⟨(some 60), .mv (.t 7), true, none⟩, ⟨(some 61), .buildSl 1 1 [.nils] [(0, 1, (.t 60))], false, none⟩, ⟨(some 62), .append 1 24 (.t 59) (.t 61), false, none⟩, ⟨(some 9), .mv (.t 62), true, none⟩])
  (.region [0, 1, 5, 6, 7, 8, 9, 10, 11] [⟨(some 10), .mv (.c (.bool true)), true, none⟩])) .skip))
  (.draw [0, 1, 5, 6, 7, 8, 9, 10, 11] [] [⟨⟨(some 63), .mv (.t 9), true, none⟩, 0, []⟩, ⟨⟨(some 64), .mv (.t 0), true, none⟩, 1, []⟩, ⟨⟨(some 65), .mv (.t 5), true, none⟩, 2, []⟩, ⟨⟨(some 66), .mv (.t 11), true, none⟩, 3, []⟩, ⟨⟨(some 67), .indexAddr 1 (.t 65) (.t 66), true, none⟩, 4, []⟩, ⟨⟨(some 68), .load false 1 (.t 67), true, none⟩, 5, []⟩, ⟨⟨(some 69), .mv (.t 0), true, none⟩, 6, []⟩, ⟨⟨(some 70), .mv (.t 5), true, none⟩, 7, []⟩, ⟨⟨(some 71), .mv (.t 11), true, none⟩, 8, []⟩, ⟨⟨(some 72), .indexAddr 1 (.t 70) (.t 71), true, none⟩, 9, []⟩, ⟨⟨(some 73), .load false 1 (.t 72), true, none⟩, 10, []⟩, ⟨⟨(some 74), .mv (.t 8), true, none⟩, 11, []⟩, ⟨⟨(some 75), .indexAddr 1 (.t 73) (.t 74), true, none⟩, 12, []⟩, ⟨⟨(some 76), .load false 1 (.t 75), true, none⟩, 13, []⟩, ⟨⟨(some 77), .bin .sub .other (.t 69) (.t 76), true, none⟩, 14, []⟩, ⟨⟨(some 78), .mv (.t 7), true, none⟩, 15, []⟩, ⟨⟨(some 79), .call 100 [(.t 64), (.t 68), (.t 77), (.t 78)], false, none⟩, 16, []⟩, ⟨⟨(some 80), .buildSl 1 1 [.nils] [(0, 1, (.t 79))], false, none⟩, 17, []⟩, ⟨⟨(some 81), .append 1 24 (.t 63) (.t 80), false, none⟩, 18, []⟩, ⟨⟨(some 9), .mv (.t 81), true, none⟩, 19, []⟩])))
  (.region [0, 1, 5, 6, 7, 8, 9, 10, 11] [⟨(some 46), .mv (.t 11), true, none⟩, ⟨(some 47), .bin .add .other (.t 46) (.c (.int .i64 1)), true, none⟩, ⟨(some 11), .mv (.t 47), true, none⟩]))))))
  (.seq (.seq (.region [0, 1, 6, 7, 9, 83] [⟨(some 82), .mv (.t 10), true, none⟩, ⟨(some 83), .un .not (.t 82), true, none⟩])
  (.cond (.t 83) (.region [0, 1, 6, 9] [⟨(some 84), .mv (.t 9), true, none⟩, ⟨(some 85), .mv (.t 7), true, none⟩, ⟨(some 86), .buildSl 1 1 [.nils] [(0, 1, (.t 85))], false, none⟩, ⟨(some 87), .append 1 24 (.t 84) (.t 86), false, none⟩, ⟨(some 9), .mv (.t 87), true, none⟩]) .skip))
  (.region [0, 1, 5, 6] [⟨(some 88), .mv (.t 9), true, none⟩, ⟨(some 5), .mv (.t 88), true, none⟩])))))))))
  (.region [0, 1, 5, 6] [⟨(some 17), .mv (.t 6), true, none⟩, ⟨(some 18), .bin .add .other (.t 17) (.c (.int .i64 1)), true, none⟩, ⟨(some 6), .mv (.t 18), true, none⟩]))))))
  (.seq (.region [4] [⟨(some 89), .mv (.t 5), true, none⟩, ⟨(some 4), .mv (.t 89), true, none⟩])
  .ret))))⟩
theorem cf59 : cF Try.prog Try.f59 = some if59 := by kernel_rfl

/-- loop.example/g01076/impl.IsSubspace -/
def if60 : IFn := ⟨[0], [(.tmp 2)], (.seq (.region [1] [⟨(some 1), .box (.t 0), false, none⟩, ⟨(some 2), .mv (.c (.bool false)), true, none⟩])
  (.seq (.draw [2] [] [⟨⟨(some 3), .load true 3 (.t 1), true, none⟩, 0, []⟩, ⟨⟨(some 4), .call 38 [(.t 3)], false, none⟩, 1, []⟩, ⟨⟨(some 5), .mv (.t 4), true, none⟩, 2, []⟩, ⟨⟨(some 6), .load true 3 (.t 1), true, (some (5, true))⟩, 3, []⟩, ⟨⟨(some 9), .fieldAddr 2 (.t 1), true, (some (5, true))⟩, 6, []⟩, ⟨⟨(some 10), .load false 1 (.t 9), true, (some (5, true))⟩, 7, []⟩, ⟨⟨(some 7), .call 57 [(.t 6)], false, (some (5, true))⟩, 4, [7]⟩, ⟨⟨(some 8), .field false 1 2 (.t 7), true, (some (5, true))⟩, 5, []⟩, ⟨⟨(some 11), .call 101 [(.t 8), (.t 10)], false, (some (5, true))⟩, 8, []⟩, ⟨⟨(some 12), .pick (.t 5) (.t 11) (.c (.bool false)), true, none⟩, 9, []⟩, ⟨⟨(some 2), .mv (.t 12), true, none⟩, 10, []⟩])
  .ret))⟩
theorem cf60 : cF Try.prog Try.f60 = some if60 := by kernel_rfl

/-- loop.example/g01076/spec.l02DrawSquare -/
def if61 : IFn := ⟨[0], [(.cell 2 true 3)], (.seq (.region [0, 2] [⟨(some 2), .alloc [(.int .i64 0), (.int .i64 0), .nils], false, none⟩])
  (.seq (.region [0, 2, 3, 4] [⟨(some 5), .mv (.t 0), true, none⟩, ⟨(some 6), .call 92 [(.t 5)], false, none⟩, ⟨(some 7), .mv (.t 0), true, none⟩, ⟨(some 8), .call 51 [(.t 7), (.c (.int .i64 5))], false, none⟩, ⟨(some 3), .mv (.t 6), true, none⟩, ⟨(some 4), .mv (.t 8), true, none⟩])
  (.seq (.seq (.region [0, 2, 3, 4, 11] [⟨(some 9), .mv (.t 0), true, none⟩, ⟨(some 10), .call 51 [(.t 9), (.c (.int .i64 20))], false, none⟩, ⟨(some 11), .bin .eql .other (.t 10) (.c (.int .i64 0)), true, none⟩])
  (.cond (.t 11) (.seq (.region [2] [⟨(some 12), .mv (.t 0), true, none⟩, ⟨(some 13), .call 50 [(.t 12)], false, none⟩, ⟨none, .store 3 (.t 2) (.t 13), false, none⟩])
  .ret) .skip))
  (.seq (.region [2] [⟨(some 14), .mv (.t 0), true, none⟩, ⟨(some 15), .mv (.t 0), true, none⟩, ⟨(some 16), .mv (.t 3), true, none⟩, ⟨(some 17), .mv (.t 4), true, none⟩, ⟨(some 18), .mv (.t 4), true, none⟩, ⟨(some 19), .call 54 [(.t 15), (.t 16), (.t 17), (.t 18)], false, none⟩, ⟨(some 20), .call 53 [(.t 14), (.t 19)], false, none⟩, ⟨none, .store 3 (.t 2) (.t 20), false, none⟩])
  .ret))))⟩
theorem cf61 : cF Try.prog Try.f61 = some if61 := by kernel_rfl

/-- loop.example/g01076/impl.inverseOf -/
def if62 : IFn := ⟨[0], [(.cell 2 true 3), (.tmp 3)], (.seq (.region [1, 2] [⟨(some 1), .box (.t 0), false, none⟩, ⟨(some 2), .alloc [(.int .i64 0), (.int .i64 0), .nils], false, none⟩, ⟨(some 3), .mv (.c (.bool false)), true, none⟩])
  (.seq (.region [1, 2, 4] [⟨(some 8), .fieldAddr 2 (.t 1), true, none⟩, ⟨(some 9), .load false 1 (.t 8), true, none⟩, ⟨(some 10), .len (.t 9), true, none⟩, ⟨(some 4), .mv (.t 10), true, none⟩])
  (.seq (.region [1, 2, 4, 5] [⟨(some 11), .fieldAddr 0 (.t 1), true, none⟩, ⟨(some 12), .load false 1 (.t 11), true, none⟩, ⟨(some 13), .fieldAddr 1 (.t 1), true, none⟩, ⟨(some 14), .load false 1 (.t 13), true, none⟩, ⟨(some 15), .build [(.int .i64 0), (.int .i64 0), .nils] [(0, 1, (.t 12)), (1, 1, (.t 14))], true, none⟩, ⟨(some 5), .alloc [(.int .i64 0), (.int .i64 0), .nils], false, none⟩, ⟨none, .store 3 (.t 5) (.t 15), false, none⟩])
  (.seq (.seq (.draw [2, 4, 5, 21, 22, 23] [] [⟨⟨(some 16), .fieldAddr 0 (.t 1), true, none⟩, 0, []⟩, ⟨⟨(some 17), .load false 1 (.t 16), true, none⟩, 1, []⟩, ⟨⟨(some 18), .fieldAddr 2 (.t 1), true, none⟩, 2, []⟩, ⟨⟨(some 19), .load false 1 (.t 18), true, none⟩, 3, []⟩, ⟨⟨(some 23), .mv (.c (.int .i64 0)), true, none⟩, 7, []⟩, ⟨⟨(some 20), .call 103 [(.t 19)], false, none⟩, 4, [1]⟩, ⟨⟨(some 21), .call 102 [(.t 17), (.t 20)], false, none⟩, 5, []⟩, ⟨⟨(some 22), .len (.t 21), true, none⟩, 6, []⟩])
  (.block 0 (.loop [2, 4, 5, 21, 22, 23] (.seq (.region [2, 4, 5, 21, 22, 23, 24] [⟨(some 24), .bin .lss .other (.t 23) (.t 22), true, none⟩])
  (.seq (.cond (.t 24) .skip (.exit 0))
  (.seq (.block 1 (.seq (.region [2, 4, 5, 6, 7, 21, 22, 23] [⟨(some 25), .mv (.t 23), true, none⟩, ⟨(some 26), .indexAddr 1 (.t 21) (.t 23), true, none⟩, ⟨(some 27), .load false 1 (.t 26), true, none⟩, ⟨(some 6), .mv (.t 25), true, none⟩, ⟨(some 7), .mv (.t 27), true, none⟩])
  (.seq (.seq (.region [2, 4, 5, 7, 21, 22, 23, 32] [⟨(some 28), .mv (.t 7), true, none⟩, ⟨(some 29), .mv (.t 6), true, none⟩, ⟨(some 30), .indexAddr 1 (.t 28) (.t 29), true, none⟩, ⟨(some 31), .load false 1 (.t 30), true, none⟩, ⟨(some 32), .bin .neq .other (.t 31) (.c (.int .i64 1)), true, none⟩])
  (.cond (.t 32) (.seq (.region [2, 3] [⟨(some 33), .build [(.int .i64 0), (.int .i64 0), .nils] [], true, none⟩, ⟨none, .store 3 (.t 2) (.t 33), false, none⟩, ⟨(some 3), .mv (.c (.bool false)), true, none⟩])
  .ret) .skip))
  (.draw [2, 4, 5, 21, 22, 23] [] [⟨⟨(some 34), .fieldAddr 2 (.t 5), true, none⟩, 0, []⟩, ⟨⟨(some 35), .load false 1 (.t 34), true, none⟩, 1, []⟩, ⟨⟨(some 36), .mv (.t 7), true, none⟩, 2, []⟩, ⟨⟨(some 37), .mv (.t 4), true, none⟩, 3, []⟩, ⟨⟨(some 38), .slice 1 (.t 36) (some (.t 37)) none none, true, none⟩, 4, []⟩, ⟨⟨(some 39), .call 104 [(.t 38)], false, none⟩, 5, [1]⟩, ⟨⟨(some 40), .buildSl 1 1 [.nils] [(0, 1, (.t 39))], false, none⟩, 6, [1]⟩, ⟨⟨(some 41), .append 1 24 (.t 35) (.t 40), false, none⟩, 7, []⟩, ⟨⟨(some 42), .fieldAddr 2 (.t 5), true, none⟩, 8, []⟩, ⟨⟨none, .store 1 (.t 42) (.t 41), false, none⟩, 9, []⟩]))))
  (.region [2, 4, 5, 21, 22, 23] [⟨(some 43), .bin .add .other (.t 23) (.c (.int .i64 1)), true, none⟩, ⟨(some 23), .mv (.t 43), true, none⟩])))))))
  (.seq (.region [2, 3] [⟨(some 44), .load true 3 (.t 5), true, none⟩, ⟨none, .store 3 (.t 2) (.t 44), false, none⟩, ⟨(some 3), .mv (.c (.bool true)), true, none⟩])
  .ret)))))⟩
theorem cf62 : cF Try.prog Try.f62 = some if62 := by kernel_rfl

/-- loop.example/g01076/spec.l02Square -/
def if63 : IFn := ⟨[0], [(.tmp 2)], (.seq (.region [1] [⟨(some 1), .box (.t 0), false, none⟩, ⟨(some 2), .mv (.c (.bool false)), true, none⟩])
  (.seq (.region [2] [⟨(some 3), .fieldAddr 2 (.t 1), true, none⟩, ⟨(some 4), .load false 1 (.t 3), true, none⟩, ⟨(some 5), .len (.t 4), true, none⟩, ⟨(some 6), .fieldAddr 1 (.t 1), true, none⟩, ⟨(some 7), .load false 1 (.t 6), true, none⟩, ⟨(some 8), .bin .eql .other (.t 5) (.t 7), true, none⟩, ⟨(some 2), .mv (.t 8), true, none⟩])
  .ret))⟩
theorem cf63 : cF Try.prog Try.f63 = some if63 := by kernel_rfl

/-- loop.example/g01076/spec.l02Inverse -/
def if64 : IFn := ⟨[0, 1], [(.tmp 4), (.tmp 5)], (.seq (.region [0, 1] [⟨(some 4), .mv (.c .nils), true, none⟩, ⟨(some 5), .mv (.c (.bool false)), true, none⟩])
  (.seq (.region [1, 6] [⟨(some 9), .mv (.t 0), true, none⟩, ⟨(some 10), .mv (.t 1), true, none⟩, ⟨(some 11), .call 105 [(.t 9), (.t 10)], false, none⟩, ⟨(some 6), .mv (.t 11), true, none⟩])
  (.seq (.region [1, 6, 7] [⟨(some 12), .buildSl 1 0 [.nils] [], false, none⟩, ⟨(some 7), .mv (.t 12), true, none⟩])
  (.seq (.seq (.region [1, 6, 7, 8] [⟨(some 8), .mv (.c (.int .i64 0)), true, none⟩])
  (.block 0 (.loop [1, 6, 7, 8] (.seq (.seq (.region [1, 6, 7, 8, 16] [⟨(some 13), .mv (.t 8), true, none⟩, ⟨(some 14), .mv (.t 6), true, none⟩, ⟨(some 15), .len (.t 14), true, none⟩, ⟨(some 16), .bin .lss .other (.t 13) (.t 15), true, none⟩])
  (.cond (.t 16) .skip (.exit 0)))
  (.seq (.block 1 (.seq (.seq (.region [1, 6, 7, 8, 25] [⟨(some 19), .mv (.t 6), true, none⟩, ⟨(some 20), .mv (.t 8), true, none⟩, ⟨(some 21), .indexAddr 1 (.t 19) (.t 20), true, none⟩, ⟨(some 22), .load false 1 (.t 21), true, none⟩, ⟨(some 23), .call 98 [(.t 22)], false, none⟩, ⟨(some 24), .mv (.t 8), true, none⟩, ⟨(some 25), .bin .neq .other (.t 23) (.t 24), true, none⟩])
  (.cond (.t 25) (.seq (.region [4, 5] [⟨(some 4), .mv (.c .nils), true, none⟩, ⟨(some 5), .mv (.c (.bool false)), true, none⟩])
  .ret) .skip))
  (.region [1, 6, 7, 8] [⟨(some 26), .mv (.t 7), true, none⟩, ⟨(some 27), .mv (.t 6), true, none⟩, ⟨(some 28), .mv (.t 8), true, none⟩, ⟨(some 29), .indexAddr 1 (.t 27) (.t 28), true, none⟩, ⟨(some 30), .load false 1 (.t 29), true, none⟩, ⟨(some 31), .mv (.t 1), true, none⟩, ⟨(some 32), .len (.t 31), true, none⟩, ⟨(some 33), .slice 1 (.t 30) (some (.t 32)) none none, true, none⟩, ⟨(some 34), .call 94 [(.t 33)], false, none⟩, ⟨(some 35), .buildSl 1 1 [.nils] [(0, 1, (.t 34))], false, none⟩, ⟨(some 36), .append 1 24 (.t 26) (.t 35), false, none⟩, ⟨(some 7), .mv (.t 36), true, none⟩])))
  (.region [1, 6, 7, 8] [⟨(some 17), .mv (.t 8), true, none⟩, ⟨(some 18), .bin .add .other (.t 17) (.c (.int .i64 1)), true, none⟩, ⟨(some 8), .mv (.t 18), true, none⟩]))))))
  (.seq (.region [4, 5] [⟨(some 37), .mv (.t 7), true, none⟩, ⟨(some 4), .mv (.t 37), true, none⟩, ⟨(some 5), .mv (.c (.bool true)), true, none⟩])
  .ret)))))⟩
theorem cf64 : cF Try.prog Try.f64 = some if64 := by kernel_rfl

/-- loop.example/g01076/impl.determinantMod -/
def if65 : IFn := ⟨[0], [(.tmp 2)], (.seq (.region [1] [⟨(some 1), .box (.t 0), false, none⟩, ⟨(some 2), .mv (.c (.int .i64 0)), true, none⟩])
  (.seq (.region [1, 3] [⟨(some 11), .fieldAddr 2 (.t 1), true, none⟩, ⟨(some 12), .load false 1 (.t 11), true, none⟩, ⟨(some 13), .call 71 [(.t 12)], false, none⟩, ⟨(some 3), .mv (.t 13), true, none⟩])
  (.seq (.region [1, 3, 4] [⟨(some 4), .mv (.c (.int .i64 1)), true, none⟩])
  (.seq (.seq (.region [1, 3, 4, 15, 16] [⟨(some 14), .mv (.t 3), true, none⟩, ⟨(some 15), .len (.t 14), true, none⟩, ⟨(some 16), .mv (.c (.int .i64 0)), true, none⟩])
  (.block 0 (.loop [1, 3, 4, 15, 16] (.seq (.region [1, 3, 4, 15, 16, 17] [⟨(some 17), .bin .lss .other (.t 16) (.t 15), true, none⟩])
  (.seq (.cond (.t 17) .skip (.exit 0))
  (.seq (.block 1 (.seq (.region [1, 3, 4, 5, 15, 16] [⟨(some 18), .mv (.t 16), true, none⟩, ⟨(some 5), .mv (.t 18), true, none⟩])
  (.seq (.region [1, 3, 4, 5, 6, 15, 16] [⟨(some 19), .mv (.t 5), true, none⟩, ⟨(some 6), .mv (.t 19), true, none⟩])
  (.seq (.block 2 (.loop [1, 3, 4, 5, 6, 15, 16] (.seq (.seq (.region [1, 3, 4, 5, 6, 15, 16, 33] [⟨(some 20), .mv (.t 6), true, none⟩, ⟨(some 21), .mv (.t 3), true, none⟩, ⟨(some 22), .len (.t 21), true, none⟩, ⟨(some 23), .bin .lss .other (.t 20) (.t 22), true, none⟩, ⟨(some 24), .mv (.t 23), true, none⟩, ⟨(some 25), .mv (.t 3), true, (some (24, true))⟩, ⟨(some 26), .mv (.t 6), true, (some (24, true))⟩, ⟨(some 27), .indexAddr 1 (.t 25) (.t 26), true, (some (24, true))⟩, ⟨(some 28), .load false 1 (.t 27), true, (some (24, true))⟩, ⟨(some 29), .mv (.t 5), true, (some (24, true))⟩, ⟨(some 30), .indexAddr 1 (.t 28) (.t 29), true, (some (24, true))⟩, ⟨(some 31), .load false 1 (.t 30), true, (some (24, true))⟩, ⟨(some 32), .bin .eql .other (.t 31) (.c (.int .i64 0)), true, (some (24, true))⟩, ⟨(some 33), .pick (.t 24) (.t 32) (.c (.bool false)), true, none⟩])
  (.cond (.t 33) .skip (.exit 2)))
  (.block 3 (.region [1, 3, 4, 5, 6, 15, 16] [⟨(some 34), .mv (.t 6), true, none⟩, ⟨(some 35), .bin .add .other (.t 34) (.c (.int .i64 1)), true, none⟩, ⟨(some 6), .mv (.t 35), true, none⟩])))))
  (.seq (.seq (.region [1, 3, 4, 5, 6, 15, 16, 39] [⟨(some 36), .mv (.t 6), true, none⟩, ⟨(some 37), .mv (.t 3), true, none⟩, ⟨(some 38), .len (.t 37), true, none⟩, ⟨(some 39), .bin .eql .other (.t 36) (.t 38), true, none⟩])
  (.cond (.t 39) (.seq (.region [2] [⟨(some 2), .mv (.c (.int .i64 0)), true, none⟩])
  .ret) .skip))
  (.seq (.seq (.region [1, 3, 4, 5, 6, 15, 16, 42] [⟨(some 40), .mv (.t 6), true, none⟩, ⟨(some 41), .mv (.t 5), true, none⟩, ⟨(some 42), .bin .neq .other (.t 40) (.t 41), true, none⟩])
  (.cond (.t 42) (.seq (.draw [1, 3, 4, 5, 15, 16] [] [⟨⟨(some 43), .mv (.t 3), true, none⟩, 0, []⟩, ⟨⟨(some 44), .mv (.t 5), true, none⟩, 1, []⟩, ⟨⟨(some 45), .mv (.t 3), true, none⟩, 2, []⟩, ⟨⟨(some 46), .mv (.t 6), true, none⟩, 3, []⟩, ⟨⟨(some 47), .mv (.t 3), true, none⟩, 4, []⟩, ⟨⟨(some 48), .mv (.t 6), true, none⟩, 5, []⟩, ⟨⟨(some 49), .indexAddr 1 (.t 47) (.t 48), true, none⟩, 6, []⟩, ⟨⟨(some 50), .load false 1 (.t 49), true, none⟩, 7, []⟩, ⟨⟨(some 51), .mv (.t 3), true, none⟩, 8, []⟩, ⟨⟨(some 52), .mv (.t 5), true, none⟩, 9, []⟩, ⟨⟨(some 53), .indexAddr 1 (.t 51) (.t 52), true, none⟩, 10, []⟩, ⟨⟨(some 54), .load false 1 (.t 53), true, none⟩, 11, []⟩, ⟨⟨(some 55), .indexAddr 1 (.t 43) (.t 44), true, none⟩, 12, []⟩, ⟨⟨none, .store 1 (.t 55) (.t 50), false, none⟩, 13, []⟩, ⟨⟨(some 56), .indexAddr 1 (.t 45) (.t 46), true, none⟩, 14, []⟩, ⟨⟨none, .store 1 (.t 56) (.t 54), false, none⟩, 15, []⟩])
  (.region [1, 3, 4, 5, 15, 16] [⟨(some 57), .fieldAddr 0 (.t 1), true, none⟩, ⟨(some 58), .load false 1 (.t 57), true, none⟩, ⟨(some 59), .mv (.t 4), true, none⟩, ⟨(some 60), .bin .sub .other (.t 58) (.t 59), true, none⟩, ⟨(some 4), .mv (.t 60), true, none⟩])) .skip))
  (.seq (.draw [1, 3, 4, 5, 15, 16] [] [⟨⟨(some 61), .mv (.t 4), true, none⟩, 0, []⟩, ⟨⟨(some 62), .mv (.t 3), true, none⟩, 1, []⟩, ⟨⟨(some 63), .mv (.t 5), true, none⟩, 2, []⟩, ⟨⟨(some 64), .indexAddr 1 (.t 62) (.t 63), true, none⟩, 3, []⟩, ⟨⟨(some 65), .load false 1 (.t 64), true, none⟩, 4, []⟩, ⟨⟨(some 66), .mv (.t 5), true, none⟩, 5, []⟩, ⟨⟨(some 67), .indexAddr 1 (.t 65) (.t 66), true, none⟩, 6, []⟩, ⟨⟨(some 68), .load false 1 (.t 67), true, none⟩, 7, []⟩, ⟨⟨(some 69), .bin .mul .other (.t 61) (.t 68), true, none⟩, 8, []⟩, ⟨⟨(some 70), .fieldAddr 0 (.t 1), true, none⟩, 9, []⟩, ⟨⟨(some 71), .load false 1 (.t 70), true, none⟩, 10, []⟩, ⟨⟨(some 72), .bin .rem .other (.t 69) (.t 71), true, none⟩, 11, []⟩, ⟨⟨(some 4), .mv (.t 72), true, none⟩, 12, []⟩])
  (.seq (.draw [1, 3, 4, 5, 7, 15, 16] [] [⟨⟨(some 74), .mv (.t 3), true, none⟩, 0, []⟩, ⟨⟨(some 75), .mv (.t 5), true, none⟩, 1, []⟩, ⟨⟨(some 76), .indexAddr 1 (.t 74) (.t 75), true, none⟩, 2, []⟩, ⟨⟨(some 77), .load false 1 (.t 76), true, none⟩, 3, []⟩, ⟨⟨(some 78), .mv (.t 5), true, none⟩, 4, []⟩, ⟨⟨(some 79), .indexAddr 1 (.t 77) (.t 78), true, none⟩, 5, []⟩, ⟨⟨(some 80), .load false 1 (.t 79), true, none⟩, 6, []⟩, ⟨⟨(some 81), .fieldAddr 0 (.t 1), true, none⟩, 7, []⟩, ⟨⟨(some 82), .load false 1 (.t 81), true, none⟩, 8, []⟩, ⟨⟨(some 83), .call 106 [(.t 80), (.t 82)], false, none⟩, 9, []⟩, ⟨⟨(some 73), .mv (.t 83), true, none⟩, 10, []⟩, ⟨⟨(some 84), .extract (.t 73) 0, true, none⟩, 11, []⟩, ⟨⟨(some 85), .extract (.t 73) 1, true, none⟩, 12, []⟩, ⟨⟨(some 7), .mv (.t 84), true, none⟩, 13, []⟩, ⟨⟨(some 8), .mv (.t 85), true, none⟩, 14, []⟩])
  (.seq (.region [1, 3, 4, 5, 7, 15, 16, 89, 90, 91] [⟨(some 86), .mv (.t 3), true, none⟩, ⟨(some 87), .mv (.t 5), true, none⟩, ⟨(some 88), .bin .add .other (.t 87) (.c (.int .i64 1)), true, none⟩, ⟨(some 89), .slice 1 (.t 86) (some (.t 88)) none none, true, none⟩, ⟨(some 90), .len (.t 89), true, none⟩, ⟨(some 91), .mv (.c (.int .i64 0)), true, none⟩])
  (.block 4 (.loop [1, 3, 4, 5, 7, 15, 16, 89, 90, 91] (.seq (.region [1, 3, 4, 5, 7, 15, 16, 89, 90, 91, 92] [⟨(some 92), .bin .lss .other (.t 91) (.t 90), true, none⟩])
  (.seq (.cond (.t 92) .skip (.exit 4))
  (.seq (.block 5 (.seq (.region [1, 3, 4, 5, 7, 10, 15, 16, 89, 90, 91] [⟨(some 93), .indexAddr 1 (.t 89) (.t 91), true, none⟩, ⟨(some 94), .load false 1 (.t 93), true, none⟩, ⟨(some 10), .mv (.t 94), true, none⟩])
  (.draw [1, 3, 4, 5, 7, 15, 16, 89, 90, 91] [] [⟨⟨(some 95), .mv (.t 10), true, none⟩, 0, []⟩, ⟨⟨(some 96), .mv (.t 3), true, none⟩, 1, []⟩, ⟨⟨(some 97), .mv (.t 5), true, none⟩, 2, []⟩, ⟨⟨(some 98), .indexAddr 1 (.t 96) (.t 97), true, none⟩, 3, []⟩, ⟨⟨(some 99), .load false 1 (.t 98), true, none⟩, 4, []⟩, ⟨⟨(some 100), .mv (.t 10), true, none⟩, 5, []⟩, ⟨⟨(some 101), .mv (.t 5), true, none⟩, 6, []⟩, ⟨⟨(some 102), .indexAddr 1 (.t 100) (.t 101), true, none⟩, 7, []⟩, ⟨⟨(some 103), .load false 1 (.t 102), true, none⟩, 8, []⟩, ⟨⟨(some 104), .un .neg (.t 103), true, none⟩, 9, []⟩, ⟨⟨(some 105), .mv (.t 7), true, none⟩, 10, []⟩, ⟨⟨(some 106), .bin .mul .other (.t 104) (.t 105), true, none⟩, 11, []⟩, ⟨⟨(some 107), .fieldAddr 0 (.t 1), true, none⟩, 12, []⟩, ⟨⟨(some 108), .load false 1 (.t 107), true, none⟩, 13, []⟩, ⟨⟨(some 109), .call 107 [(.t 95), (.t 99), (.t 106), (.t 108)], false, none⟩, 14, []⟩])))
  (.region [1, 3, 4, 5, 7, 15, 16, 89, 90, 91] [⟨(some 110), .bin .add .other (.t 91) (.c (.int .i64 1)), true, none⟩, ⟨(some 91), .mv (.t 110), true, none⟩])))))))))))))))
  (.region [1, 3, 4, 15, 16] [⟨(some 111), .bin .add .other (.t 16) (.c (.int .i64 1)), true, none⟩, ⟨(some 16), .mv (.t 111), true, none⟩])))))))
  (.seq (.region [2] [⟨(some 112), .mv (.t 4), true, none⟩, ⟨(some 2), .mv (.t 112), true, none⟩])
  .ret)))))⟩
theorem cf65 : cF Try.prog Try.f65 = some if65 := by kernel_rfl

/-- loop.example/g01076/impl.IsGroupPrime -/
def if66 : IFn := ⟨[0], [(.tmp 2)], (.seq (.region [0] [⟨(some 2), .mv (.c (.bool false)), true, none⟩])
  (.seq (.region [2] [⟨(some 3), .mv (.t 0), true, none⟩, ⟨(some 4), .bin .eql .other (.t 3) (.c (.int .i64 2)), true, none⟩, ⟨(some 5), .mv (.t 4), true, none⟩, ⟨(some 6), .mv (.t 0), true, (some (5, false))⟩, ⟨(some 7), .bin .eql .other (.t 6) (.c (.int .i64 3)), true, (some (5, false))⟩, ⟨(some 8), .pick (.t 5) (.c (.bool true)) (.t 7), true, none⟩, ⟨(some 9), .mv (.t 8), true, none⟩, ⟨(some 10), .mv (.t 0), true, (some (9, false))⟩, ⟨(some 11), .bin .eql .other (.t 10) (.c (.int .i64 5)), true, (some (9, false))⟩, ⟨(some 12), .pick (.t 9) (.c (.bool true)) (.t 11), true, none⟩, ⟨(some 13), .mv (.t 12), true, none⟩, ⟨(some 14), .mv (.t 0), true, (some (13, false))⟩, ⟨(some 15), .bin .eql .other (.t 14) (.c (.int .i64 7)), true, (some (13, false))⟩, ⟨(some 16), .pick (.t 13) (.c (.bool true)) (.t 15), true, none⟩, ⟨(some 2), .mv (.t 16), true, none⟩])
  .ret))⟩
theorem cf66 : cF Try.prog Try.f66 = some if66 := by kernel_rfl

/-- loop.example/g01076/impl.inside -/
def if67 : IFn := ⟨[0, 1, 2], [(.tmp 6)], (.seq (.region [0, 1, 2] [⟨(some 6), .mv (.c (.bool false)), true, none⟩])
  (.seq (.region [6] [⟨(some 7), .mv (.t 0), true, none⟩, ⟨(some 8), .mv (.t 1), true, none⟩, ⟨(some 9), .bin .geq .other (.t 7) (.t 8), true, none⟩, ⟨(some 10), .mv (.t 9), true, none⟩, ⟨(some 11), .mv (.t 0), true, (some (10, true))⟩, ⟨(some 12), .mv (.t 2), true, (some (10, true))⟩, ⟨(some 13), .bin .leq .other (.t 11) (.t 12), true, (some (10, true))⟩, ⟨(some 14), .pick (.t 10) (.t 13) (.c (.bool false)), true, none⟩, ⟨(some 6), .mv (.t 14), true, none⟩])
  .ret))⟩
theorem cf67 : cF Try.prog Try.f67 = some if67 := by kernel_rfl

/-- loop.example/g01076/impl.identityOf -/
def if68 : IFn := ⟨[0, 1], [(.cell 4 true 3)], (.seq (.region [0, 1, 4] [⟨(some 4), .alloc [(.int .i64 0), (.int .i64 0), .nils], false, none⟩])
  (.seq (.region [1, 4, 5] [⟨(some 8), .mv (.t 0), true, none⟩, ⟨(some 9), .mv (.t 1), true, none⟩, ⟨(some 10), .build [(.int .i64 0), (.int .i64 0), .nils] [(0, 1, (.t 8)), (1, 1, (.t 9))], true, none⟩, ⟨(some 5), .alloc [(.int .i64 0), (.int .i64 0), .nils], false, none⟩, ⟨none, .store 3 (.t 5) (.t 10), false, none⟩])
  (.seq (.seq (.region [1, 4, 5, 11, 12] [⟨(some 11), .mv (.t 1), true, none⟩, ⟨(some 12), .mv (.c (.int .i64 0)), true, none⟩])
  (.block 0 (.loop [1, 4, 5, 11, 12] (.seq (.region [1, 4, 5, 11, 12, 13] [⟨(some 13), .bin .lss .other (.t 12) (.t 11), true, none⟩])
  (.seq (.cond (.t 13) .skip (.exit 0))
  (.seq (.block 1 (.seq (.region [1, 4, 5, 6, 11, 12] [⟨(some 14), .mv (.t 12), true, none⟩, ⟨(some 6), .mv (.t 14), true, none⟩])
  (.seq (.region [1, 4, 5, 6, 7, 11, 12] [⟨(some 15), .mv (.t 1), true, none⟩, ⟨(some 16), .makeSl 1 8 [(.int .i64 0)] (.t 15) (.t 15), false, none⟩, ⟨(some 7), .mv (.t 16), true, none⟩])
  (.seq (.region [1, 4, 5, 7, 11, 12] [⟨(some 17), .mv (.t 7), true, none⟩, ⟨(some 18), .mv (.t 6), true, none⟩, ⟨(some 19), .indexAddr 1 (.t 17) (.t 18), true, none⟩, ⟨none, .store 1 (.t 19) (.c (.int .i64 1)), false, none⟩])
  (.region [1, 4, 5, 11, 12] [⟨(some 20), .fieldAddr 2 (.t 5), true, none⟩, ⟨(some 21), .load false 1 (.t 20), true, none⟩, ⟨(some 22), .mv (.t 7), true, none⟩, ⟨(some 23), .buildSl 1 1 [.nils] [(0, 1, (.t 22))], false, none⟩, ⟨(some 24), .append 1 24 (.t 21) (.t 23), false, none⟩, ⟨(some 25), .fieldAddr 2 (.t 5), true, none⟩, ⟨none, .store 1 (.t 25) (.t 24), false, none⟩])))))
  (.region [1, 4, 5, 11, 12] [⟨(some 26), .bin .add .other (.t 12) (.c (.int .i64 1)), true, none⟩, ⟨(some 12), .mv (.t 26), true, none⟩])))))))
  (.seq (.region [4] [⟨(some 27), .load true 3 (.t 5), true, none⟩, ⟨none, .store 3 (.t 4) (.t 27), false, none⟩])
  .ret))))⟩
theorem cf68 : cF Try.prog Try.f68 = some if68 := by kernel_rfl

/-- loop.example/g01076/spec.l03Draw -/
def if69 : IFn := ⟨[0], [(.cell 2 true 3)], (.seq (.region [0, 2] [⟨(some 2), .alloc [(.int .i64 0), (.int .i64 0), .nils], false, none⟩])
  (.seq (.region [0, 2, 3, 4] [⟨(some 5), .mv (.t 0), true, none⟩, ⟨(some 6), .call 92 [(.t 5)], false, none⟩, ⟨(some 7), .mv (.t 0), true, none⟩, ⟨(some 8), .call 51 [(.t 7), (.c (.int .i64 5))], false, none⟩, ⟨(some 3), .mv (.t 6), true, none⟩, ⟨(some 4), .mv (.t 8), true, none⟩])
  (.seq (.seq (.region [0, 2, 3, 4, 11] [⟨(some 9), .mv (.t 0), true, none⟩, ⟨(some 10), .call 51 [(.t 9), (.c (.int .i64 15))], false, none⟩, ⟨(some 11), .bin .eql .other (.t 10) (.c (.int .i64 0)), true, none⟩])
  (.cond (.t 11) (.region [0, 2, 3, 4] [⟨(some 12), .mv (.t 0), true, none⟩, ⟨(some 13), .buildSl 1 3 [(.int .i64 0)] [(0, 1, (.c (.int .i64 6))), (1, 1, (.c (.int .i64 7))), (2, 1, (.c (.int .i64 8)))], false, none⟩, ⟨(some 14), .call 93 [(.t 12), (.t 13)], false, none⟩, ⟨(some 4), .mv (.t 14), true, none⟩]) .skip))
  (.seq (.seq (.region [0, 2, 3, 4, 17] [⟨(some 15), .mv (.t 0), true, none⟩, ⟨(some 16), .call 51 [(.t 15), (.c (.int .i64 25))], false, none⟩, ⟨(some 17), .bin .eql .other (.t 16) (.c (.int .i64 0)), true, none⟩])
  (.cond (.t 17) (.seq (.region [2] [⟨(some 18), .mv (.t 0), true, none⟩, ⟨(some 19), .call 50 [(.t 18)], false, none⟩, ⟨none, .store 3 (.t 2) (.t 19), false, none⟩])
  .ret) .skip))
  (.seq (.region [2] [⟨(some 20), .mv (.t 0), true, none⟩, ⟨(some 21), .mv (.t 0), true, none⟩, ⟨(some 22), .mv (.t 3), true, none⟩, ⟨(some 23), .mv (.t 4), true, none⟩, ⟨(some 24), .call 108 [(.t 21), (.t 22), (.t 23)], false, none⟩, ⟨(some 25), .call 53 [(.t 20), (.t 24)], false, none⟩, ⟨none, .store 3 (.t 2) (.t 25), false, none⟩])
  .ret)))))⟩
theorem cf69 : cF Try.prog Try.f69 = some if69 := by kernel_rfl

/-- loop.example/g01076/impl.spanOf -/
def if70 : IFn := ⟨[0, 1, 2], [(.cell 6 true 3)], (.seq (.region [0, 1, 2, 6] [⟨(some 6), .alloc [(.int .i64 0), (.int .i64 0), .nils], false, none⟩])
  (.seq (.region [6] [⟨(some 7), .mv (.t 0), true, none⟩, ⟨(some 8), .mv (.t 1), true, none⟩, ⟨(some 9), .mv (.t 0), true, none⟩, ⟨(some 10), .mv (.t 2), true, none⟩, ⟨(some 11), .call 102 [(.t 9), (.t 10)], false, none⟩, ⟨(some 12), .build [(.int .i64 0), (.int .i64 0), .nils] [(0, 1, (.t 7)), (1, 1, (.t 8)), (2, 1, (.t 11))], true, none⟩, ⟨none, .store 3 (.t 6) (.t 12), false, none⟩])
  .ret))⟩
theorem cf70 : cF Try.prog Try.f70 = some if70 := by kernel_rfl

/-- loop.example/g01076/impl.copyRows -/
def if71 : IFn := ⟨[0], [(.tmp 2)], (.seq (.region [0] [⟨(some 2), .mv (.c .nils), true, none⟩])
  (.seq (.region [0, 3] [⟨(some 3), .mv (.c .nils), true, none⟩])
  (.seq (.seq (.region [3, 6, 7, 8] [⟨(some 6), .mv (.t 0), true, none⟩, ⟨(some 7), .len (.t 6), true, none⟩, ⟨(some 8), .mv (.c (.int .i64 0)), true, none⟩])
  (.block 0 (.loop [3, 6, 7, 8] (.seq (.region [3, 6, 7, 8, 9] [⟨(some 9), .bin .lss .other (.t 8) (.t 7), true, none⟩])
  (.seq (.cond (.t 9) .skip (.exit 0))
  (.seq (.block 1 (.seq (.region [3, 5, 6, 7, 8] [⟨(some 10), .indexAddr 1 (.t 6) (.t 8), true, none⟩, ⟨(some 11), .load false 1 (.t 10), true, none⟩, ⟨(some 5), .mv (.t 11), true, none⟩])
  (.region [3, 6, 7, 8] [⟨(some 12), .mv (.t 3), true, none⟩, ⟨(some 13), .mv (.t 5), true, none⟩, ⟨(some 14), .call 104 [(.t 13)], false, none⟩, ⟨(some 15), .buildSl 1 1 [.nils] [(0, 1, (.t 14))], false, none⟩, ⟨(some 16), .append 1 24 (.t 12) (.t 15), false, none⟩, ⟨(some 3), .mv (.t 16), true, none⟩])))
  (.region [3, 6, 7, 8] [⟨(some 17), .bin .add .other (.t 8) (.c (.int .i64 1)), true, none⟩, ⟨(some 8), .mv (.t 17), true, none⟩])))))))
  (.seq (.region [2] [⟨(some 18), .mv (.t 3), true, none⟩, ⟨(some 2), .mv (.t 18), true, none⟩])
  .ret))))⟩
theorem cf71 : cF Try.prog Try.f71 = some if71 := by kernel_rfl

/-- loop.example/g01076/impl.leftKernelRows -/
def if72 : IFn := ⟨[0, 1, 2], [(.tmp 6)], (.seq (.region [0, 1, 2] [⟨(some 6), .mv (.c .nils), true, none⟩])
  (.seq (.region [0, 1, 2, 7] [⟨(some 7), .mv (.c .nils), true, none⟩])
  (.seq (.seq (.region [0, 2, 7, 13, 14, 15] [⟨(some 10), .mv (.t 0), true, none⟩, ⟨(some 11), .mv (.t 1), true, none⟩, ⟨(some 12), .call 103 [(.t 11)], false, none⟩, ⟨(some 13), .call 102 [(.t 10), (.t 12)], false, none⟩, ⟨(some 14), .len (.t 13), true, none⟩, ⟨(some 15), .mv (.c (.int .i64 0)), true, none⟩])
  (.block 0 (.loop [0, 2, 7, 13, 14, 15] (.seq (.region [0, 2, 7, 13, 14, 15, 16] [⟨(some 16), .bin .lss .other (.t 15) (.t 14), true, none⟩])
  (.seq (.cond (.t 16) .skip (.exit 0))
  (.seq (.block 1 (.seq (.region [0, 2, 7, 9, 13, 14, 15] [⟨(some 17), .indexAddr 1 (.t 13) (.t 15), true, none⟩, ⟨(some 18), .load false 1 (.t 17), true, none⟩, ⟨(some 9), .mv (.t 18), true, none⟩])
  (.seq (.region [0, 2, 7, 9, 13, 14, 15, 22] [⟨(some 19), .mv (.t 9), true, none⟩, ⟨(some 20), .mv (.t 2), true, none⟩, ⟨(some 21), .slice 1 (.t 19) none (some (.t 20)) none, true, none⟩, ⟨(some 22), .call 83 [(.t 21)], false, none⟩])
  (.cond (.t 22) (.region [0, 2, 7, 13, 14, 15] [⟨(some 23), .mv (.t 7), true, none⟩, ⟨(some 24), .mv (.t 9), true, none⟩, ⟨(some 25), .mv (.t 2), true, none⟩, ⟨(some 26), .slice 1 (.t 24) (some (.t 25)) none none, true, none⟩, ⟨(some 27), .buildSl 1 1 [.nils] [(0, 1, (.t 26))], false, none⟩, ⟨(some 28), .append 1 24 (.t 23) (.t 27), false, none⟩, ⟨(some 7), .mv (.t 28), true, none⟩]) .skip))))
  (.region [0, 2, 7, 13, 14, 15] [⟨(some 29), .bin .add .other (.t 15) (.c (.int .i64 1)), true, none⟩, ⟨(some 15), .mv (.t 29), true, none⟩])))))))
  (.seq (.region [6] [⟨(some 30), .mv (.t 0), true, none⟩, ⟨(some 31), .mv (.t 7), true, none⟩, ⟨(some 32), .call 102 [(.t 30), (.t 31)], false, none⟩, ⟨(some 6), .mv (.t 32), true, none⟩])
  .ret))))⟩
theorem cf72 : cF Try.prog Try.f72 = some if72 := by kernel_rfl

/-- loop.example/g01076/impl.leftKernel -/
def if73 : IFn := ⟨[0], [(.cell 2 true 3)], (.seq (.region [1, 2] [⟨(some 1), .box (.t 0), false, none⟩, ⟨(some 2), .alloc [(.int .i64 0), (.int .i64 0), .nils], false, none⟩])
  (.seq (.draw [2] [] [⟨⟨(some 3), .fieldAddr 0 (.t 1), true, none⟩, 0, []⟩, ⟨⟨(some 4), .load false 1 (.t 3), true, none⟩, 1, []⟩, ⟨⟨(some 5), .fieldAddr 2 (.t 1), true, none⟩, 2, []⟩, ⟨⟨(some 6), .load false 1 (.t 5), true, none⟩, 3, []⟩, ⟨⟨(some 7), .len (.t 6), true, none⟩, 4, []⟩, ⟨⟨(some 8), .fieldAddr 0 (.t 1), true, none⟩, 5, []⟩, ⟨⟨(some 9), .load false 1 (.t 8), true, none⟩, 6, []⟩, ⟨⟨(some 10), .fieldAddr 2 (.t 1), true, none⟩, 7, []⟩, ⟨⟨(some 11), .load false 1 (.t 10), true, none⟩, 8, []⟩, ⟨⟨(some 12), .fieldAddr 1 (.t 1), true, none⟩, 9, []⟩, ⟨⟨(some 13), .load false 1 (.t 12), true, none⟩, 10, []⟩, ⟨⟨(some 14), .call 72 [(.t 9), (.t 11), (.t 13)], false, none⟩, 11, [1, 3]⟩, ⟨⟨(some 15), .build [(.int .i64 0), (.int .i64 0), .nils] [(0, 1, (.t 4)), (1, 1, (.t 7)), (2, 1, (.t 14))], true, none⟩, 12, []⟩, ⟨⟨none, .store 3 (.t 2) (.t 15), false, none⟩, 13, []⟩])
  .ret))⟩
theorem cf73 : cF Try.prog Try.f73 = some if73 := by kernel_rfl

/-- loop.example/g01076/impl.spaceSum -/
def if74 : IFn := ⟨[0, 1], [(.cell 4 true 3)], (.seq (.region [2, 3, 4] [⟨(some 2), .box (.t 0), false, none⟩, ⟨(some 3), .box (.t 1), false, none⟩, ⟨(some 4), .alloc [(.int .i64 0), (.int .i64 0), .nils], false, none⟩])
  (.seq (.draw [4] [] [⟨⟨(some 5), .fieldAddr 0 (.t 2), true, none⟩, 0, []⟩, ⟨⟨(some 6), .load false 1 (.t 5), true, none⟩, 1, []⟩, ⟨⟨(some 7), .fieldAddr 1 (.t 2), true, none⟩, 2, []⟩, ⟨⟨(some 8), .load false 1 (.t 7), true, none⟩, 3, []⟩, ⟨⟨(some 9), .fieldAddr 2 (.t 2), true, none⟩, 4, []⟩, ⟨⟨(some 10), .load false 1 (.t 9), true, none⟩, 5, []⟩, ⟨⟨(some 12), .fieldAddr 2 (.t 3), true, none⟩, 7, []⟩, ⟨⟨(some 13), .load false 1 (.t 12), true, none⟩, 8, []⟩, ⟨⟨(some 11), .call 71 [(.t 10)], false, none⟩, 6, [1, 3, 8]⟩, ⟨⟨(some 14), .append 1 24 (.t 11) (.t 13), false, none⟩, 9, [1, 3]⟩, ⟨⟨(some 15), .call 70 [(.t 6), (.t 8), (.t 14)], false, none⟩, 10, []⟩, ⟨⟨none, .store 3 (.t 4) (.t 15), false, none⟩, 11, []⟩])
  .ret))⟩
theorem cf74 : cF Try.prog Try.f74 = some if74 := by kernel_rfl

/-- loop.example/g01076/impl.annihilator -/
def if75 : IFn := ⟨[0], [(.cell 2 true 3)], (.seq (.region [1, 2] [⟨(some 1), .box (.t 0), false, none⟩, ⟨(some 2), .alloc [(.int .i64 0), (.int .i64 0), .nils], false, none⟩])
  (.seq (.region [1, 2, 3] [⟨(some 4), .load true 3 (.t 1), true, none⟩, ⟨(some 5), .call 56 [(.t 4)], false, none⟩, ⟨(some 3), .alloc [(.int .i64 0), (.int .i64 0), .nils], false, none⟩, ⟨none, .store 3 (.t 3) (.t 5), false, none⟩])
  (.seq (.draw [2] [] [⟨⟨(some 6), .fieldAddr 0 (.t 1), true, none⟩, 0, []⟩, ⟨⟨(some 7), .load false 1 (.t 6), true, none⟩, 1, []⟩, ⟨⟨(some 8), .fieldAddr 1 (.t 1), true, none⟩, 2, []⟩, ⟨⟨(some 9), .load false 1 (.t 8), true, none⟩, 3, []⟩, ⟨⟨(some 10), .fieldAddr 0 (.t 1), true, none⟩, 4, []⟩, ⟨⟨(some 11), .load false 1 (.t 10), true, none⟩, 5, []⟩, ⟨⟨(some 12), .fieldAddr 2 (.t 3), true, none⟩, 6, []⟩, ⟨⟨(some 13), .load false 1 (.t 12), true, none⟩, 7, []⟩, ⟨⟨(some 14), .fieldAddr 2 (.t 1), true, none⟩, 8, []⟩, ⟨⟨(some 15), .load false 1 (.t 14), true, none⟩, 9, []⟩, ⟨⟨(some 16), .len (.t 15), true, none⟩, 10, []⟩, ⟨⟨(some 17), .call 72 [(.t 11), (.t 13), (.t 16)], false, none⟩, 11, [1, 3]⟩, ⟨⟨(some 18), .build [(.int .i64 0), (.int .i64 0), .nils] [(0, 1, (.t 7)), (1, 1, (.t 9)), (2, 1, (.t 17))], true, none⟩, 12, []⟩, ⟨⟨none, .store 3 (.t 2) (.t 18), false, none⟩, 13, []⟩])
  .ret)))⟩
theorem cf75 : cF Try.prog Try.f75 = some if75 := by kernel_rfl

/-- loop.example/g01076/spec.l02DrawVector -/
def if76 : IFn := ⟨[0, 1, 2], [(.tmp 6)], (.seq (.region [0, 1, 2] [⟨(some 6), .mv (.c .nils), true, none⟩])
  (.seq (.region [0, 1, 2, 7] [⟨(some 9), .buildSl 1 0 [(.int .i64 0)] [], false, none⟩, ⟨(some 7), .mv (.t 9), true, none⟩])
  (.seq (.seq (.region [0, 1, 2, 7, 8] [⟨(some 8), .mv (.c (.int .i64 0)), true, none⟩])
  (.block 0 (.loop [0, 1, 2, 7, 8] (.seq (.seq (.region [0, 1, 2, 7, 8, 12] [⟨(some 10), .mv (.t 8), true, none⟩, ⟨(some 11), .mv (.t 2), true, none⟩, ⟨(some 12), .bin .lss .other (.t 10) (.t 11), true, none⟩])
  (.cond (.t 12) .skip (.exit 0)))
  (.seq (.block 1 (.region [0, 1, 2, 7, 8] [⟨(some 15), .mv (.t 7), true, none⟩, ⟨(some 16), .mv (.t 0), true, none⟩, ⟨(some 17), .mv (.t 1), true, none⟩, ⟨(some 18), .call 51 [(.t 16), (.t 17)], false, none⟩, ⟨(some 19), .buildSl 1 1 [(.int .i64 0)] [(0, 1, (.t 18))], false, none⟩, ⟨(some 20), .append 1 8 (.t 15) (.t 19), false, none⟩, ⟨(some 7), .mv (.t 20), true, none⟩]))
  (.region [0, 1, 2, 7, 8] [⟨(some 13), .mv (.t 8), true, none⟩, ⟨(some 14), .bin .add .other (.t 13) (.c (.int .i64 1)), true, none⟩, ⟨(some 8), .mv (.t 14), true, none⟩]))))))
  (.seq (.region [6] [⟨(some 21), .mv (.t 7), true, none⟩, ⟨(some 6), .mv (.t 21), true, none⟩])
  .ret))))⟩
theorem cf76 : cF Try.prog Try.f76 = some if76 := by kernel_rfl

/-- loop.example/g01076/spec.l02Times -/
def if77 : IFn := ⟨[0, 1, 2, 3], [(.tmp 8)], (.seq (.region [0, 1, 2, 3] [⟨(some 8), .mv (.c .nils), true, none⟩])
  (.seq (.region [0, 1, 2, 9] [⟨(some 12), .mv (.t 3), true, none⟩, ⟨(some 13), .makeSl 1 8 [(.int .i64 0)] (.t 12) (.t 12), false, none⟩, ⟨(some 9), .mv (.t 13), true, none⟩])
  (.seq (.seq (.region [0, 1, 2, 9, 10] [⟨(some 10), .mv (.c (.int .i64 0)), true, none⟩])
  (.block 0 (.loop [0, 1, 2, 9, 10] (.seq (.seq (.region [0, 1, 2, 9, 10, 23] [⟨(some 14), .mv (.t 10), true, none⟩, ⟨(some 15), .mv (.t 1), true, none⟩, ⟨(some 16), .len (.t 15), true, none⟩, ⟨(some 17), .bin .lss .other (.t 14) (.t 16), true, none⟩, ⟨(some 18), .mv (.t 17), true, none⟩, ⟨(some 19), .mv (.t 10), true, (some (18, true))⟩, ⟨(some 20), .mv (.t 2), true, (some (18, true))⟩, ⟨(some 21), .len (.t 20), true, (some (18, true))⟩, ⟨(some 22), .bin .lss .other (.t 19) (.t 21), true, (some (18, true))⟩, ⟨(some 23), .pick (.t 18) (.t 22) (.c (.bool false)), true, none⟩])
  (.cond (.t 23) .skip (.exit 0)))
  (.seq (.block 1 (.seq (.region [0, 1, 2, 9, 10, 11] [⟨(some 11), .mv (.c (.int .i64 0)), true, none⟩])
  (.block 2 (.loop [0, 1, 2, 9, 10, 11] (.seq (.seq (.region [0, 1, 2, 9, 10, 11, 38] [⟨(some 26), .mv (.t 11), true, none⟩, ⟨(some 27), .mv (.t 9), true, none⟩, ⟨(some 28), .len (.t 27), true, none⟩, ⟨(some 29), .bin .lss .other (.t 26) (.t 28), true, none⟩, ⟨(some 30), .mv (.t 29), true, none⟩, ⟨(some 31), .mv (.t 11), true, (some (30, true))⟩, ⟨(some 32), .mv (.t 2), true, (some (30, true))⟩, ⟨(some 33), .mv (.t 10), true, (some (30, true))⟩, ⟨(some 34), .indexAddr 1 (.t 32) (.t 33), true, (some (30, true))⟩, ⟨(some 35), .load false 1 (.t 34), true, (some (30, true))⟩, ⟨(some 36), .len (.t 35), true, (some (30, true))⟩, ⟨(some 37), .bin .lss .other (.t 31) (.t 36), true, (some (30, true))⟩, ⟨(some 38), .pick (.t 30) (.t 37) (.c (.bool false)), true, none⟩])
  (.cond (.t 38) .skip (.exit 2)))
  (.seq (.block 3 (.draw [0, 1, 2, 9, 10, 11] [] [⟨⟨(some 41), .mv (.t 9), true, none⟩, 0, []⟩, ⟨⟨(some 42), .mv (.t 11), true, none⟩, 1, []⟩, ⟨⟨(some 43), .mv (.t 9), true, none⟩, 2, []⟩, ⟨⟨(some 44), .mv (.t 11), true, none⟩, 3, []⟩, ⟨⟨(some 45), .indexAddr 1 (.t 43) (.t 44), true, none⟩, 4, []⟩, ⟨⟨(some 46), .load false 1 (.t 45), true, none⟩, 5, []⟩, ⟨⟨(some 47), .mv (.t 1), true, none⟩, 6, []⟩, ⟨⟨(some 48), .mv (.t 10), true, none⟩, 7, []⟩, ⟨⟨(some 49), .indexAddr 1 (.t 47) (.t 48), true, none⟩, 8, []⟩, ⟨⟨(some 50), .load false 1 (.t 49), true, none⟩, 9, []⟩, ⟨⟨(some 51), .mv (.t 2), true, none⟩, 10, []⟩, ⟨⟨(some 52), .mv (.t 10), true, none⟩, 11, []⟩, ⟨⟨(some 53), .indexAddr 1 (.t 51) (.t 52), true, none⟩, 12, []⟩, ⟨⟨(some 54), .load false 1 (.t 53), true, none⟩, 13, []⟩, ⟨⟨(some 55), .mv (.t 11), true, none⟩, 14, []⟩, ⟨⟨(some 56), .indexAddr 1 (.t 54) (.t 55), true, none⟩, 15, []⟩, ⟨⟨(some 57), .load false 1 (.t 56), true, none⟩, 16, []⟩, ⟨⟨(some 58), .bin .mul .other (.t 50) (.t 57), true, none⟩, 17, []⟩, ⟨⟨(some 59), .bin .add .other (.t 46) (.t 58), true, none⟩, 18, []⟩, ⟨⟨(some 60), .mv (.t 0), true, none⟩, 19, []⟩, ⟨⟨(some 61), .bin .rem .other (.t 59) (.t 60), true, none⟩, 20, []⟩, ⟨⟨(some 62), .indexAddr 1 (.t 41) (.t 42), true, none⟩, 21, []⟩, ⟨⟨none, .store 1 (.t 62) (.t 61), false, none⟩, 22, []⟩]))
  (.region [0, 1, 2, 9, 10, 11] [⟨(some 39), .mv (.t 11), true, none⟩, ⟨(some 40), .bin .add .other (.t 39) (.c (.int .i64 1)), true, none⟩, ⟨(some 11), .mv (.t 40), true, none⟩])))))))
  (.region [0, 1, 2, 9, 10] [⟨(some 24), .mv (.t 10), true, none⟩, ⟨(some 25), .bin .add .other (.t 24) (.c (.int .i64 1)), true, none⟩, ⟨(some 10), .mv (.t 25), true, none⟩]))))))
  (.seq (.region [8] [⟨(some 63), .mv (.t 9), true, none⟩, ⟨(some 8), .mv (.t 63), true, none⟩])
  .ret))))⟩
theorem cf77 : cF Try.prog Try.f77 = some if77 := by kernel_rfl

/-- loop.example/g01076/impl.isVector -/
def if78 : IFn := ⟨[0, 1, 2], [(.tmp 6)], (.seq (.region [0, 1, 2] [⟨(some 6), .mv (.c (.bool false)), true, none⟩])
  (.seq (.seq (.region [0, 1, 12] [⟨(some 9), .mv (.t 0), true, none⟩, ⟨(some 10), .len (.t 9), true, none⟩, ⟨(some 11), .mv (.t 2), true, none⟩, ⟨(some 12), .bin .neq .other (.t 10) (.t 11), true, none⟩])
  (.cond (.t 12) (.seq (.region [6] [⟨(some 6), .mv (.c (.bool false)), true, none⟩])
  .ret) .skip))
  (.seq (.seq (.region [1, 13, 14, 15] [⟨(some 13), .mv (.t 0), true, none⟩, ⟨(some 14), .len (.t 13), true, none⟩, ⟨(some 15), .mv (.c (.int .i64 0)), true, none⟩])
  (.block 0 (.loop [1, 13, 14, 15] (.seq (.region [1, 13, 14, 15, 16] [⟨(some 16), .bin .lss .other (.t 15) (.t 14), true, none⟩])
  (.seq (.cond (.t 16) .skip (.exit 0))
  (.seq (.block 1 (.seq (.region [1, 8, 13, 14, 15] [⟨(some 17), .indexAddr 1 (.t 13) (.t 15), true, none⟩, ⟨(some 18), .load false 1 (.t 17), true, none⟩, ⟨(some 8), .mv (.t 18), true, none⟩])
  (.seq (.region [1, 13, 14, 15, 23] [⟨(some 19), .mv (.t 8), true, none⟩, ⟨(some 20), .mv (.t 1), true, none⟩, ⟨(some 21), .bin .sub .other (.t 20) (.c (.int .i64 1)), true, none⟩, ⟨(some 22), .call 67 [(.t 19), (.c (.int .i64 0)), (.t 21)], false, none⟩, ⟨(some 23), .un .not (.t 22), true, none⟩])
  (.cond (.t 23) (.seq (.region [6] [⟨(some 6), .mv (.c (.bool false)), true, none⟩])
  .ret) .skip))))
  (.region [1, 13, 14, 15] [⟨(some 24), .bin .add .other (.t 15) (.c (.int .i64 1)), true, none⟩, ⟨(some 15), .mv (.t 24), true, none⟩])))))))
  (.seq (.region [6] [⟨(some 6), .mv (.c (.bool true)), true, none⟩])
  .ret))))⟩
theorem cf78 : cF Try.prog Try.f78 = some if78 := by kernel_rfl

-- BAD 79 loop.example/g01076/impl.solveRows
/-- loop.example/g01076/spec.l02Vector -/
def if80 : IFn := ⟨[0, 1, 2], [(.tmp 6)], (.seq (.region [0, 1, 2] [⟨(some 6), .mv (.c (.bool false)), true, none⟩])
  (.seq (.seq (.region [0, 2, 11] [⟨(some 8), .mv (.t 2), true, none⟩, ⟨(some 9), .len (.t 8), true, none⟩, ⟨(some 10), .mv (.t 1), true, none⟩, ⟨(some 11), .bin .neq .other (.t 9) (.t 10), true, none⟩])
  (.cond (.t 11) (.seq (.region [6] [⟨(some 6), .mv (.c (.bool false)), true, none⟩])
  .ret) .skip))
  (.seq (.seq (.region [0, 2, 7] [⟨(some 7), .mv (.c (.int .i64 0)), true, none⟩])
  (.block 0 (.loop [0, 2, 7] (.seq (.seq (.region [0, 2, 7, 15] [⟨(some 12), .mv (.t 7), true, none⟩, ⟨(some 13), .mv (.t 2), true, none⟩, ⟨(some 14), .len (.t 13), true, none⟩, ⟨(some 15), .bin .lss .other (.t 12) (.t 14), true, none⟩])
  (.cond (.t 15) .skip (.exit 0)))
  (.seq (.block 1 (.seq (.region [0, 2, 7, 25] [⟨(some 18), .mv (.t 2), true, none⟩, ⟨(some 19), .mv (.t 7), true, none⟩, ⟨(some 20), .indexAddr 1 (.t 18) (.t 19), true, none⟩, ⟨(some 21), .load false 1 (.t 20), true, none⟩, ⟨(some 22), .mv (.t 0), true, none⟩, ⟨(some 23), .bin .sub .other (.t 22) (.c (.int .i64 1)), true, none⟩, ⟨(some 24), .call 82 [(.t 21), (.c (.int .i64 0)), (.t 23)], false, none⟩, ⟨(some 25), .un .not (.t 24), true, none⟩])
  (.cond (.t 25) (.seq (.region [6] [⟨(some 6), .mv (.c (.bool false)), true, none⟩])
  .ret) .skip)))
  (.region [0, 2, 7] [⟨(some 16), .mv (.t 7), true, none⟩, ⟨(some 17), .bin .add .other (.t 16) (.c (.int .i64 1)), true, none⟩, ⟨(some 7), .mv (.t 17), true, none⟩]))))))
  (.seq (.region [6] [⟨(some 6), .mv (.c (.bool true)), true, none⟩])
  .ret))))⟩
theorem cf80 : cF Try.prog Try.f80 = some if80 := by kernel_rfl

-- BAD 81 loop.example/g01076/spec.l02Solve
/-- loop.example/g01076/spec.l01In -/
def if82 : IFn := ⟨[0, 1, 2], [(.tmp 6)], (.seq (.region [0, 1, 2] [⟨(some 6), .mv (.c (.bool false)), true, none⟩])
  (.seq (.region [6] [⟨(some 7), .mv (.t 0), true, none⟩, ⟨(some 8), .mv (.t 1), true, none⟩, ⟨(some 9), .bin .geq .other (.t 7) (.t 8), true, none⟩, ⟨(some 10), .mv (.t 9), true, none⟩, ⟨(some 11), .mv (.t 0), true, (some (10, true))⟩, ⟨(some 12), .mv (.t 2), true, (some (10, true))⟩, ⟨(some 13), .bin .leq .other (.t 11) (.t 12), true, (some (10, true))⟩, ⟨(some 14), .pick (.t 10) (.t 13) (.c (.bool false)), true, none⟩, ⟨(some 6), .mv (.t 14), true, none⟩])
  .ret))⟩
theorem cf82 : cF Try.prog Try.f82 = some if82 := by kernel_rfl

/-- loop.example/g01076/impl.isZero -/
def if83 : IFn := ⟨[0], [(.tmp 2)], (.seq (.region [0] [⟨(some 2), .mv (.c (.bool false)), true, none⟩])
  (.seq (.seq (.region [5, 6, 7] [⟨(some 5), .mv (.t 0), true, none⟩, ⟨(some 6), .len (.t 5), true, none⟩, ⟨(some 7), .mv (.c (.int .i64 0)), true, none⟩])
  (.block 0 (.loop [5, 6, 7] (.seq (.region [5, 6, 7, 8] [⟨(some 8), .bin .lss .other (.t 7) (.t 6), true, none⟩])
  (.seq (.cond (.t 8) .skip (.exit 0))
  (.seq (.block 1 (.seq (.region [4, 5, 6, 7] [⟨(some 9), .indexAddr 1 (.t 5) (.t 7), true, none⟩, ⟨(some 10), .load false 1 (.t 9), true, none⟩, ⟨(some 4), .mv (.t 10), true, none⟩])
  (.seq (.region [5, 6, 7, 12] [⟨(some 11), .mv (.t 4), true, none⟩, ⟨(some 12), .bin .neq .other (.t 11) (.c (.int .i64 0)), true, none⟩])
  (.cond (.t 12) (.seq (.region [2] [⟨(some 2), .mv (.c (.bool false)), true, none⟩])
  .ret) .skip))))
  (.region [5, 6, 7] [⟨(some 13), .bin .add .other (.t 7) (.c (.int .i64 1)), true, none⟩, ⟨(some 7), .mv (.t 13), true, none⟩])))))))
  (.seq (.region [2] [⟨(some 2), .mv (.c (.bool true)), true, none⟩])
  .ret)))⟩
theorem cf83 : cF Try.prog Try.f83 = some if83 := by kernel_rfl

/-- loop.example/g01076/impl.remainderMod -/
def if84 : IFn := ⟨[0, 1], [(.tmp 4)], (.seq (.region [1, 2] [⟨(some 2), .box (.t 0), false, none⟩, ⟨(some 4), .mv (.c .nils), true, none⟩])
  (.seq (.region [2, 5] [⟨(some 8), .mv (.t 1), true, none⟩, ⟨(some 9), .call 104 [(.t 8)], false, none⟩, ⟨(some 5), .mv (.t 9), true, none⟩])
  (.seq (.seq (.region [2, 5, 12, 13, 14] [⟨(some 10), .fieldAddr 2 (.t 2), true, none⟩, ⟨(some 11), .load false 1 (.t 10), true, none⟩, ⟨(some 12), .call 114 [(.t 11)], false, none⟩, ⟨(some 13), .len (.t 12), true, none⟩, ⟨(some 14), .mv (.c (.int .i64 0)), true, none⟩])
  (.block 0 (.loop [2, 5, 12, 13, 14] (.seq (.region [2, 5, 12, 13, 14, 15] [⟨(some 15), .bin .lss .other (.t 14) (.t 13), true, none⟩])
  (.seq (.cond (.t 15) .skip (.exit 0))
  (.seq (.block 1 (.seq (.region [2, 5, 6, 7, 12, 13, 14] [⟨(some 16), .mv (.t 14), true, none⟩, ⟨(some 17), .indexAddr 1 (.t 12) (.t 14), true, none⟩, ⟨(some 18), .load false 1 (.t 17), true, none⟩, ⟨(some 6), .mv (.t 16), true, none⟩, ⟨(some 7), .mv (.t 18), true, none⟩])
  (.draw [2, 5, 12, 13, 14] [] [⟨⟨(some 19), .mv (.t 5), true, none⟩, 0, []⟩, ⟨⟨(some 20), .fieldAddr 2 (.t 2), true, none⟩, 1, []⟩, ⟨⟨(some 21), .load false 1 (.t 20), true, none⟩, 2, []⟩, ⟨⟨(some 22), .mv (.t 6), true, none⟩, 3, []⟩, ⟨⟨(some 23), .indexAddr 1 (.t 21) (.t 22), true, none⟩, 4, []⟩, ⟨⟨(some 24), .load false 1 (.t 23), true, none⟩, 5, []⟩, ⟨⟨(some 25), .mv (.t 5), true, none⟩, 6, []⟩, ⟨⟨(some 26), .mv (.t 7), true, none⟩, 7, []⟩, ⟨⟨(some 27), .indexAddr 1 (.t 25) (.t 26), true, none⟩, 8, []⟩, ⟨⟨(some 28), .load false 1 (.t 27), true, none⟩, 9, []⟩, ⟨⟨(some 29), .un .neg (.t 28), true, none⟩, 10, []⟩, ⟨⟨(some 30), .fieldAddr 0 (.t 2), true, none⟩, 11, []⟩, ⟨⟨(some 31), .load false 1 (.t 30), true, none⟩, 12, []⟩, ⟨⟨(some 32), .call 107 [(.t 19), (.t 24), (.t 29), (.t 31)], false, none⟩, 13, []⟩])))
  (.region [2, 5, 12, 13, 14] [⟨(some 33), .bin .add .other (.t 14) (.c (.int .i64 1)), true, none⟩, ⟨(some 14), .mv (.t 33), true, none⟩])))))))
  (.seq (.region [4] [⟨(some 34), .mv (.t 5), true, none⟩, ⟨(some 4), .mv (.t 34), true, none⟩])
  .ret))))⟩
theorem cf84 : cF Try.prog Try.f84 = some if84 := by kernel_rfl

/-- loop.example/g01076/laws.szInt64S -/
def if85 : IFn := ⟨[0, 1], [(.tmp 4)], (.seq (.region [0, 1] [⟨(some 4), .mv (.c (.int .i64 0)), true, none⟩])
  (.seq (.region [1] [⟨(some 5), .mv (.t 1), true, none⟩, ⟨(some 6), .mv (.t 0), true, none⟩, ⟨(some 7), .len (.t 6), true, none⟩, ⟨(some 8), .bin .sub .other (.t 5) (.t 7), true, none⟩, ⟨(some 1), .mv (.t 8), true, none⟩])
  (.seq (.seq (.region [1, 10] [⟨(some 9), .mv (.t 1), true, none⟩, ⟨(some 10), .bin .lss .other (.t 9) (.c (.int .i64 0)), true, none⟩])
  (.cond (.t 10) (.seq (.region [4] [⟨(some 4), .mv (.c (.int .i64 (-1))), true, none⟩])
  .ret) .skip))
  (.seq (.region [4] [⟨(some 11), .mv (.t 1), true, none⟩, ⟨(some 4), .mv (.t 11), true, none⟩])
  .ret))))⟩
theorem cf85 : cF Try.prog Try.f85 = some if85 := by kernel_rfl

/-- loop.example/g01076/spec.l01Own2 -/
def if86 : IFn := ⟨[0], [(.tmp 2)], (.seq (.region [0] [⟨(some 2), .mv (.c .nils), true, none⟩])
  (.seq (.region [0, 3] [⟨(some 5), .buildSl 1 0 [.nils] [], false, none⟩, ⟨(some 3), .mv (.t 5), true, none⟩])
  (.seq (.seq (.region [0, 3, 4] [⟨(some 4), .mv (.c (.int .i64 0)), true, none⟩])
  (.block 0 (.loop [0, 3, 4] (.seq (.seq (.region [0, 3, 4, 9] [⟨(some 6), .mv (.t 4), true, none⟩, ⟨(some 7), .mv (.t 0), true, none⟩, ⟨(some 8), .len (.t 7), true, none⟩, ⟨(some 9), .bin .lss .other (.t 6) (.t 8), true, none⟩])
  (.cond (.t 9) .skip (.exit 0)))
  (.seq (.block 1 (.region [0, 3, 4] [⟨(some 12), .mv (.t 3), true, none⟩, ⟨(some 13), .mv (.t 0), true, none⟩, ⟨(some 14), .mv (.t 4), true, none⟩, ⟨(some 15), .indexAddr 1 (.t 13) (.t 14), true, none⟩, ⟨(some 16), .load false 1 (.t 15), true, none⟩, ⟨(some 17), .call 94 [(.t 16)], false, none⟩, ⟨(some 18), .buildSl 1 1 [.nils] [(0, 1, (.t 17))], false, none⟩, ⟨(some 19), .append 1 24 (.t 12) (.t 18), false, none⟩, ⟨(some 3), .mv (.t 19), true, none⟩]))
  (.region [0, 3, 4] [⟨(some 10), .mv (.t 4), true, none⟩, ⟨(some 11), .bin .add .other (.t 10) (.c (.int .i64 1)), true, none⟩, ⟨(some 4), .mv (.t 11), true, none⟩]))))))
  (.seq (.region [2] [⟨(some 20), .mv (.t 3), true, none⟩, ⟨(some 2), .mv (.t 20), true, none⟩])
  .ret))))⟩
theorem cf86 : cF Try.prog Try.f86 = some if86 := by kernel_rfl

/-- loop.example/g01076/laws.toInt64S -/
def if87 : IFn := ⟨[0], [(.tmp 2)], (.seq (.region [0] [⟨(some 2), .mv (.c .nils), true, none⟩])
  (.seq (.region [0, 3] [⟨(some 5), .mv (.t 0), true, none⟩, ⟨(some 6), .len (.t 5), true, none⟩, ⟨(some 7), .makeSl 1 8 [(.int .i64 0)] (.t 6) (.t 6), false, none⟩, ⟨(some 3), .mv (.t 7), true, none⟩])
  (.seq (.seq (.region [0, 3, 4] [⟨(some 4), .mv (.c (.int .i64 0)), true, none⟩])
  (.block 0 (.loop [0, 3, 4] (.seq (.seq (.region [0, 3, 4, 11] [⟨(some 8), .mv (.t 4), true, none⟩, ⟨(some 9), .mv (.t 0), true, none⟩, ⟨(some 10), .len (.t 9), true, none⟩, ⟨(some 11), .bin .lss .other (.t 8) (.t 10), true, none⟩])
  (.cond (.t 11) .skip (.exit 0)))
  (.seq (.block 1 (.region [0, 3, 4] [⟨(some 14), .mv (.t 3), true, none⟩, ⟨(some 15), .mv (.t 4), true, none⟩, ⟨(some 16), .mv (.t 0), true, none⟩, ⟨(some 17), .mv (.t 4), true, none⟩, ⟨(some 18), .indexAddr 1 (.t 16) (.t 17), true, none⟩, ⟨(some 19), .load false 1 (.t 18), true, none⟩, ⟨(some 20), .indexAddr 1 (.t 14) (.t 15), true, none⟩, ⟨none, .store 1 (.t 20) (.t 19), false, none⟩]))
  (.region [0, 3, 4] [⟨(some 12), .mv (.t 4), true, none⟩, ⟨(some 13), .bin .add .other (.t 12) (.c (.int .i64 1)), true, none⟩, ⟨(some 4), .mv (.t 13), true, none⟩]))))))
  (.seq (.region [2] [⟨(some 21), .mv (.t 3), true, none⟩, ⟨(some 2), .mv (.t 21), true, none⟩])
  .ret))))⟩
theorem cf87 : cF Try.prog Try.f87 = some if87 := by kernel_rfl

/-- loop.example/g01076/impl.vectorTimes -/
def if88 : IFn := ⟨[0, 1], [(.tmp 4)], (.seq (.region [0, 3] [⟨(some 3), .box (.t 1), false, none⟩, ⟨(some 4), .mv (.c .nils), true, none⟩])
  (.seq (.region [0, 3, 5] [⟨(some 8), .fieldAddr 1 (.t 3), true, none⟩, ⟨(some 9), .load false 1 (.t 8), true, none⟩, ⟨(some 10), .makeSl 1 8 [(.int .i64 0)] (.t 9) (.t 9), false, none⟩, ⟨(some 5), .mv (.t 10), true, none⟩])
  (.seq (.seq (.region [3, 5, 11, 12, 13] [⟨(some 11), .mv (.t 0), true, none⟩, ⟨(some 12), .len (.t 11), true, none⟩, ⟨(some 13), .mv (.c (.int .i64 0)), true, none⟩])
  (.block 0 (.loop [3, 5, 11, 12, 13] (.seq (.region [3, 5, 11, 12, 13, 14] [⟨(some 14), .bin .lss .other (.t 13) (.t 12), true, none⟩])
  (.seq (.cond (.t 14) .skip (.exit 0))
  (.seq (.block 1 (.seq (.region [3, 5, 6, 7, 11, 12, 13] [⟨(some 15), .mv (.t 13), true, none⟩, ⟨(some 16), .indexAddr 1 (.t 11) (.t 13), true, none⟩, ⟨(some 17), .load false 1 (.t 16), true, none⟩, ⟨(some 6), .mv (.t 15), true, none⟩, ⟨(some 7), .mv (.t 17), true, none⟩])
  (.draw [3, 5, 11, 12, 13] [] [⟨⟨(some 18), .mv (.t 5), true, none⟩, 0, []⟩, ⟨⟨(some 19), .fieldAddr 2 (.t 3), true, none⟩, 1, []⟩, ⟨⟨(some 20), .load false 1 (.t 19), true, none⟩, 2, []⟩, ⟨⟨(some 21), .mv (.t 6), true, none⟩, 3, []⟩, ⟨⟨(some 22), .indexAddr 1 (.t 20) (.t 21), true, none⟩, 4, []⟩, ⟨⟨(some 23), .load false 1 (.t 22), true, none⟩, 5, []⟩, ⟨⟨(some 24), .mv (.t 7), true, none⟩, 6, []⟩, ⟨⟨(some 25), .fieldAddr 0 (.t 3), true, none⟩, 7, []⟩, ⟨⟨(some 26), .load false 1 (.t 25), true, none⟩, 8, []⟩, ⟨⟨(some 27), .call 107 [(.t 18), (.t 23), (.t 24), (.t 26)], false, none⟩, 9, []⟩])))
  (.region [3, 5, 11, 12, 13] [⟨(some 28), .bin .add .other (.t 13) (.c (.int .i64 1)), true, none⟩, ⟨(some 13), .mv (.t 28), true, none⟩])))))))
  (.seq (.region [4] [⟨(some 29), .mv (.t 5), true, none⟩, ⟨(some 4), .mv (.t 29), true, none⟩])
  .ret))))⟩
theorem cf88 : cF Try.prog Try.f88 = some if88 := by kernel_rfl

/-- loop.example/g01076/laws.eqInt64S -/
def if89 : IFn := ⟨[0, 1], [(.tmp 4)], (.seq (.region [0, 1] [⟨(some 4), .mv (.c (.bool false)), true, none⟩])
  (.seq (.seq (.region [0, 1, 10] [⟨(some 6), .mv (.t 0), true, none⟩, ⟨(some 7), .len (.t 6), true, none⟩, ⟨(some 8), .mv (.t 1), true, none⟩, ⟨(some 9), .len (.t 8), true, none⟩, ⟨(some 10), .bin .neq .other (.t 7) (.t 9), true, none⟩])
  (.cond (.t 10) (.seq (.region [4] [⟨(some 4), .mv (.c (.bool false)), true, none⟩])
  .ret) .skip))
  (.seq (.seq (.region [0, 1, 5] [⟨(some 5), .mv (.c (.int .i64 0)), true, none⟩])
  (.block 0 (.loop [0, 1, 5] (.seq (.seq (.region [0, 1, 5, 14] [⟨(some 11), .mv (.t 5), true, none⟩, ⟨(some 12), .mv (.t 0), true, none⟩, ⟨(some 13), .len (.t 12), true, none⟩, ⟨(some 14), .bin .lss .other (.t 11) (.t 13), true, none⟩])
  (.cond (.t 14) .skip (.exit 0)))
  (.seq (.block 1 (.seq (.draw [0, 1, 5, 25] [] [⟨⟨(some 17), .mv (.t 0), true, none⟩, 0, []⟩, ⟨⟨(some 18), .mv (.t 5), true, none⟩, 1, []⟩, ⟨⟨(some 19), .indexAddr 1 (.t 17) (.t 18), true, none⟩, 2, []⟩, ⟨⟨(some 20), .load false 1 (.t 19), true, none⟩, 3, []⟩, ⟨⟨(some 21), .mv (.t 1), true, none⟩, 4, []⟩, ⟨⟨(some 22), .mv (.t 5), true, none⟩, 5, []⟩, ⟨⟨(some 23), .indexAddr 1 (.t 21) (.t 22), true, none⟩, 6, []⟩, ⟨⟨(some 24), .load false 1 (.t 23), true, none⟩, 7, []⟩, ⟨⟨(some 25), .bin .neq .other (.t 20) (.t 24), true, none⟩, 8, []⟩])
  (.cond (.t 25) (.seq (.region [4] [⟨(some 4), .mv (.c (.bool false)), true, none⟩])
  .ret) .skip)))
  (.region [0, 1, 5] [⟨(some 15), .mv (.t 5), true, none⟩, ⟨(some 16), .bin .add .other (.t 15) (.c (.int .i64 1)), true, none⟩, ⟨(some 5), .mv (.t 16), true, none⟩]))))))
  (.seq (.region [4] [⟨(some 4), .mv (.c (.bool true)), true, none⟩])
  .ret))))⟩
theorem cf89 : cF Try.prog Try.f89 = some if89 := by kernel_rfl

/-- loop.example/g01076/laws.markInt64S -/
def if90 : IFn := ⟨[0, 1], [(.tmp 4)], (.seq (.region [0, 1] [⟨(some 4), .mv (.c (.int .i64 0)), true, none⟩])
  (.seq (.seq (.region [0, 1, 5] [⟨(some 5), .mv (.c (.int .i64 0)), true, none⟩])
  (.block 0 (.loop [0, 1, 5] (.seq (.seq (.region [0, 1, 5, 9] [⟨(some 6), .mv (.t 5), true, none⟩, ⟨(some 7), .mv (.t 0), true, none⟩, ⟨(some 8), .len (.t 7), true, none⟩, ⟨(some 9), .bin .lss .other (.t 6) (.t 8), true, none⟩])
  (.cond (.t 9) .skip (.exit 0)))
  (.seq (.block 1 (.seq (.region [0, 1, 5] [⟨(some 12), .mv (.t 0), true, none⟩, ⟨(some 13), .mv (.t 5), true, none⟩, ⟨(some 14), .mv (.t 1), true, none⟩, ⟨(some 15), .indexAddr 1 (.t 12) (.t 13), true, none⟩, ⟨none, .store 1 (.t 15) (.t 14), false, none⟩])
  (.region [0, 1, 5] [⟨(some 16), .mv (.t 1), true, none⟩, ⟨(some 17), .bin .add .other (.t 16) (.c (.int .i64 1)), true, none⟩, ⟨(some 1), .mv (.t 17), true, none⟩])))
  (.region [0, 1, 5] [⟨(some 10), .mv (.t 5), true, none⟩, ⟨(some 11), .bin .add .other (.t 10) (.c (.int .i64 1)), true, none⟩, ⟨(some 5), .mv (.t 11), true, none⟩]))))))
  (.seq (.region [4] [⟨(some 18), .mv (.t 1), true, none⟩, ⟨(some 4), .mv (.t 18), true, none⟩])
  .ret)))⟩
theorem cf90 : cF Try.prog Try.f90 = some if90 := by kernel_rfl

/-- loop.example/g01076/laws.heldInt64S -/
def if91 : IFn := ⟨[0, 1], [(.tmp 4)], (.seq (.region [0, 1] [⟨(some 4), .mv (.c (.int .i64 0)), true, none⟩])
  (.seq (.seq (.region [0, 1, 5] [⟨(some 5), .mv (.c (.int .i64 0)), true, none⟩])
  (.block 0 (.loop [0, 1, 5] (.seq (.seq (.region [0, 1, 5, 9] [⟨(some 6), .mv (.t 5), true, none⟩, ⟨(some 7), .mv (.t 0), true, none⟩, ⟨(some 8), .len (.t 7), true, none⟩, ⟨(some 9), .bin .lss .other (.t 6) (.t 8), true, none⟩])
  (.cond (.t 9) .skip (.exit 0)))
  (.seq (.block 1 (.seq (.seq (.region [0, 1, 5, 17] [⟨(some 12), .mv (.t 0), true, none⟩, ⟨(some 13), .mv (.t 5), true, none⟩, ⟨(some 14), .indexAddr 1 (.t 12) (.t 13), true, none⟩, ⟨(some 15), .load false 1 (.t 14), true, none⟩, ⟨(some 16), .mv (.t 1), true, none⟩, ⟨(some 17), .bin .neq .other (.t 15) (.t 16), true, none⟩])
  (.cond (.t 17) (.seq (.region [4] [⟨(some 4), .mv (.c (.int .i64 (-1))), true, none⟩])
  .ret) .skip))
  (.region [0, 1, 5] [⟨(some 18), .mv (.t 1), true, none⟩, ⟨(some 19), .bin .add .other (.t 18) (.c (.int .i64 1)), true, none⟩, ⟨(some 1), .mv (.t 19), true, none⟩])))
  (.region [0, 1, 5] [⟨(some 10), .mv (.t 5), true, none⟩, ⟨(some 11), .bin .add .other (.t 10) (.c (.int .i64 1)), true, none⟩, ⟨(some 5), .mv (.t 11), true, none⟩]))))))
  (.seq (.region [4] [⟨(some 20), .mv (.t 1), true, none⟩, ⟨(some 4), .mv (.t 20), true, none⟩])
  .ret)))⟩
theorem cf91 : cF Try.prog Try.f91 = some if91 := by kernel_rfl

/-- loop.example/g01076/spec.l02DrawPrime -/
def if92 : IFn := ⟨[0], [(.tmp 2)], (.seq (.region [0] [⟨(some 2), .mv (.c (.int .i64 0)), true, none⟩])
  (.seq (.region [2] [⟨(some 3), .mv (.t 0), true, none⟩, ⟨(some 4), .buildSl 1 6 [(.int .i64 0)] [(0, 1, (.c (.int .i64 2))), (1, 1, (.c (.int .i64 2))), (2, 1, (.c (.int .i64 3))), (3, 1, (.c (.int .i64 3))), (4, 1, (.c (.int .i64 5))), (5, 1, (.c (.int .i64 7)))], false, none⟩, ⟨(some 5), .call 93 [(.t 3), (.t 4)], false, none⟩, ⟨(some 2), .mv (.t 5), true, none⟩])
  .ret))⟩
theorem cf92 : cF Try.prog Try.f92 = some if92 := by kernel_rfl

/-- loop.example/g01076/spec.l01Pick -/
def if93 : IFn := ⟨[0, 1], [(.tmp 4)], (.seq (.region [0, 1] [⟨(some 4), .mv (.c (.int .i64 0)), true, none⟩])
  (.seq (.region [4] [⟨(some 5), .mv (.t 1), true, none⟩, ⟨(some 6), .mv (.t 0), true, none⟩, ⟨(some 7), .mv (.t 1), true, none⟩, ⟨(some 8), .len (.t 7), true, none⟩, ⟨(some 9), .call 51 [(.t 6), (.t 8)], false, none⟩, ⟨(some 10), .indexAddr 1 (.t 5) (.t 9), true, none⟩, ⟨(some 11), .load false 1 (.t 10), true, none⟩, ⟨(some 4), .mv (.t 11), true, none⟩])
  .ret))⟩
theorem cf93 : cF Try.prog Try.f93 = some if93 := by kernel_rfl

/-- loop.example/g01076/spec.l01Own -/
def if94 : IFn := ⟨[0], [(.tmp 2)], (.seq (.region [0] [⟨(some 2), .mv (.c .nils), true, none⟩])
  (.seq (.region [2] [⟨(some 3), .buildSl 1 0 [(.int .i64 0)] [], false, none⟩, ⟨(some 4), .mv (.t 0), true, none⟩, ⟨(some 5), .append 1 8 (.t 3) (.t 4), false, none⟩, ⟨(some 2), .mv (.t 5), true, none⟩])
  .ret))⟩
theorem cf94 : cF Try.prog Try.f94 = some if94 := by kernel_rfl

/-- loop.example/g01076/spec.l02Scale -/
def if95 : IFn := ⟨[0, 1, 2], [(.tmp 6)], (.seq (.region [0, 1, 2] [⟨(some 6), .mv (.c .nils), true, none⟩])
  (.seq (.region [6] [⟨(some 7), .mv (.t 0), true, none⟩, ⟨(some 8), .mv (.t 2), true, none⟩, ⟨(some 9), .len (.t 8), true, none⟩, ⟨(some 10), .makeSl 1 8 [(.int .i64 0)] (.t 9) (.t 9), false, none⟩, ⟨(some 11), .mv (.t 1), true, none⟩, ⟨(some 12), .mv (.t 2), true, none⟩, ⟨(some 13), .call 100 [(.t 7), (.t 10), (.t 11), (.t 12)], false, none⟩, ⟨(some 6), .mv (.t 13), true, none⟩])
  .ret))⟩
theorem cf95 : cF Try.prog Try.f95 = some if95 := by kernel_rfl

/-- loop.example/g01076/spec.l01Same2 -/
def if96 : IFn := ⟨[0, 1], [(.tmp 4)], (.seq (.region [0, 1] [⟨(some 4), .mv (.c (.bool false)), true, none⟩])
  (.seq (.seq (.region [0, 1, 10] [⟨(some 6), .mv (.t 0), true, none⟩, ⟨(some 7), .len (.t 6), true, none⟩, ⟨(some 8), .mv (.t 1), true, none⟩, ⟨(some 9), .len (.t 8), true, none⟩, ⟨(some 10), .bin .neq .other (.t 7) (.t 9), true, none⟩])
  (.cond (.t 10) (.seq (.region [4] [⟨(some 4), .mv (.c (.bool false)), true, none⟩])
  .ret) .skip))
  (.seq (.seq (.region [0, 1, 5] [⟨(some 5), .mv (.c (.int .i64 0)), true, none⟩])
  (.block 0 (.loop [0, 1, 5] (.seq (.seq (.region [0, 1, 5, 14] [⟨(some 11), .mv (.t 5), true, none⟩, ⟨(some 12), .mv (.t 0), true, none⟩, ⟨(some 13), .len (.t 12), true, none⟩, ⟨(some 14), .bin .lss .other (.t 11) (.t 13), true, none⟩])
  (.cond (.t 14) .skip (.exit 0)))
  (.seq (.block 1 (.seq (.draw [0, 1, 5, 26] [] [⟨⟨(some 17), .mv (.t 0), true, none⟩, 0, []⟩, ⟨⟨(some 18), .mv (.t 5), true, none⟩, 1, []⟩, ⟨⟨(some 19), .indexAddr 1 (.t 17) (.t 18), true, none⟩, 2, []⟩, ⟨⟨(some 20), .load false 1 (.t 19), true, none⟩, 3, []⟩, ⟨⟨(some 21), .mv (.t 1), true, none⟩, 4, []⟩, ⟨⟨(some 22), .mv (.t 5), true, none⟩, 5, []⟩, ⟨⟨(some 23), .indexAddr 1 (.t 21) (.t 22), true, none⟩, 6, []⟩, ⟨⟨(some 24), .load false 1 (.t 23), true, none⟩, 7, []⟩, ⟨⟨(some 25), .call 115 [(.t 20), (.t 24)], false, none⟩, 8, []⟩, ⟨⟨(some 26), .un .not (.t 25), true, none⟩, 9, []⟩])
  (.cond (.t 26) (.seq (.region [4] [⟨(some 4), .mv (.c (.bool false)), true, none⟩])
  .ret) .skip)))
  (.region [0, 1, 5] [⟨(some 15), .mv (.t 5), true, none⟩, ⟨(some 16), .bin .add .other (.t 15) (.c (.int .i64 1)), true, none⟩, ⟨(some 5), .mv (.t 16), true, none⟩]))))))
  (.seq (.region [4] [⟨(some 4), .mv (.c (.bool true)), true, none⟩])
  .ret))))⟩
theorem cf96 : cF Try.prog Try.f96 = some if96 := by kernel_rfl

/-- loop.example/g01076/spec.l02Clear -/
def if97 : IFn := ⟨[0, 1, 2], [(.tmp 6)], (.seq (.region [0, 1, 2] [⟨(some 6), .mv (.c .nils), true, none⟩])
  (.seq (.region [0, 1, 7] [⟨(some 10), .mv (.t 2), true, none⟩, ⟨(some 11), .call 94 [(.t 10)], false, none⟩, ⟨(some 7), .mv (.t 11), true, none⟩])
  (.seq (.seq (.region [0, 1, 7, 8] [⟨(some 8), .mv (.c (.int .i64 0)), true, none⟩])
  (.block 0 (.loop [0, 1, 7, 8] (.seq (.seq (.region [0, 1, 7, 8, 15] [⟨(some 12), .mv (.t 8), true, none⟩, ⟨(some 13), .mv (.t 1), true, none⟩, ⟨(some 14), .len (.t 13), true, none⟩, ⟨(some 15), .bin .lss .other (.t 12) (.t 14), true, none⟩])
  (.cond (.t 15) .skip (.exit 0)))
  (.seq (.block 1 (.seq (.region [0, 1, 7, 8, 9] [⟨(some 18), .mv (.t 1), true, none⟩, ⟨(some 19), .mv (.t 8), true, none⟩, ⟨(some 20), .indexAddr 1 (.t 18) (.t 19), true, none⟩, ⟨(some 21), .load false 1 (.t 20), true, none⟩, ⟨(some 22), .call 98 [(.t 21)], false, none⟩, ⟨(some 9), .mv (.t 22), true, none⟩])
  (.seq (.region [0, 1, 7, 8, 9, 33] [⟨(some 23), .mv (.t 9), true, none⟩, ⟨(some 24), .mv (.t 7), true, none⟩, ⟨(some 25), .len (.t 24), true, none⟩, ⟨(some 26), .bin .lss .other (.t 23) (.t 25), true, none⟩, ⟨(some 27), .mv (.t 26), true, none⟩, ⟨(some 28), .mv (.t 7), true, (some (27, true))⟩, ⟨(some 29), .mv (.t 9), true, (some (27, true))⟩, ⟨(some 30), .indexAddr 1 (.t 28) (.t 29), true, (some (27, true))⟩, ⟨(some 31), .load false 1 (.t 30), true, (some (27, true))⟩, ⟨(some 32), .bin .neq .other (.t 31) (.c (.int .i64 0)), true, (some (27, true))⟩, ⟨(some 33), .pick (.t 27) (.t 32) (.c (.bool false)), true, none⟩])
  (.cond (.t 33) (.draw [0, 1, 7, 8] [] [⟨⟨(some 34), .mv (.t 0), true, none⟩, 0, []⟩, ⟨⟨(some 35), .mv (.t 7), true, none⟩, 1, []⟩, ⟨⟨(some 36), .mv (.t 0), true, none⟩, 2, []⟩, ⟨⟨(some 37), .mv (.t 7), true, none⟩, 3, []⟩, ⟨⟨(some 38), .mv (.t 9), true, none⟩, 4, []⟩, ⟨⟨(some 39), .indexAddr 1 (.t 37) (.t 38), true, none⟩, 5, []⟩, ⟨⟨(some 40), .load false 1 (.t 39), true, none⟩, 6, []⟩, ⟨⟨(some 41), .bin .sub .other (.t 36) (.t 40), true, none⟩, 7, []⟩, ⟨⟨(some 42), .mv (.t 1), true, none⟩, 8, []⟩, ⟨⟨(some 43), .mv (.t 8), true, none⟩, 9, []⟩, ⟨⟨(some 44), .indexAddr 1 (.t 42) (.t 43), true, none⟩, 10, []⟩, ⟨⟨(some 45), .load false 1 (.t 44), true, none⟩, 11, []⟩, ⟨⟨(some 46), .call 100 [(.t 34), (.t 35), (.t 41), (.t 45)], false, none⟩, 12, []⟩, ⟨⟨(some 7), .mv (.t 46), true, none⟩, 13, []⟩]) .skip))))
  (.region [0, 1, 7, 8] [⟨(some 16), .mv (.t 8), true, none⟩, ⟨(some 17), .bin .add .other (.t 16) (.c (.int .i64 1)), true, none⟩, ⟨(some 8), .mv (.t 17), true, none⟩]))))))
  (.seq (.region [6] [⟨(some 47), .mv (.t 7), true, none⟩, ⟨(some 6), .mv (.t 47), true, none⟩])
  .ret))))⟩
theorem cf97 : cF Try.prog Try.f97 = some if97 := by kernel_rfl

/-- loop.example/g01076/spec.l02Lead -/
def if98 : IFn := ⟨[0], [(.tmp 2)], (.seq (.region [0] [⟨(some 2), .mv (.c (.int .i64 0)), true, none⟩])
  (.seq (.seq (.region [0, 3] [⟨(some 3), .mv (.c (.int .i64 0)), true, none⟩])
  (.block 0 (.loop [0, 3] (.seq (.seq (.region [0, 3, 7] [⟨(some 4), .mv (.t 3), true, none⟩, ⟨(some 5), .mv (.t 0), true, none⟩, ⟨(some 6), .len (.t 5), true, none⟩, ⟨(some 7), .bin .lss .other (.t 4) (.t 6), true, none⟩])
  (.cond (.t 7) .skip (.exit 0)))
  (.seq (.block 1 (.seq (.region [0, 3, 14] [⟨(some 10), .mv (.t 0), true, none⟩, ⟨(some 11), .mv (.t 3), true, none⟩, ⟨(some 12), .indexAddr 1 (.t 10) (.t 11), true, none⟩, ⟨(some 13), .load false 1 (.t 12), true, none⟩, ⟨(some 14), .bin .neq .other (.t 13) (.c (.int .i64 0)), true, none⟩])
  (.cond (.t 14) (.seq (.region [2] [⟨(some 15), .mv (.t 3), true, none⟩, ⟨(some 2), .mv (.t 15), true, none⟩])
  .ret) .skip)))
  (.region [0, 3] [⟨(some 8), .mv (.t 3), true, none⟩, ⟨(some 9), .bin .add .other (.t 8) (.c (.int .i64 1)), true, none⟩, ⟨(some 3), .mv (.t 9), true, none⟩]))))))
  (.seq (.region [2] [⟨(some 16), .mv (.t 0), true, none⟩, ⟨(some 17), .len (.t 16), true, none⟩, ⟨(some 2), .mv (.t 17), true, none⟩])
  .ret)))⟩
theorem cf98 : cF Try.prog Try.f98 = some if98 := by kernel_rfl

/-- loop.example/g01076/spec.l01Inv -/
def if99 : IFn := ⟨[0, 1], [(.tmp 4)], (.seq (.region [0, 1] [⟨(some 4), .mv (.c (.int .i64 0)), true, none⟩])
  (.seq (.seq (.region [0, 1, 5] [⟨(some 5), .mv (.c (.int .i64 1)), true, none⟩])
  (.block 0 (.loop [0, 1, 5] (.seq (.seq (.region [0, 1, 5, 8] [⟨(some 6), .mv (.t 5), true, none⟩, ⟨(some 7), .mv (.t 1), true, none⟩, ⟨(some 8), .bin .lss .other (.t 6) (.t 7), true, none⟩])
  (.cond (.t 8) .skip (.exit 0)))
  (.seq (.block 1 (.seq (.region [0, 1, 5, 18] [⟨(some 11), .mv (.t 0), true, none⟩, ⟨(some 12), .mv (.t 1), true, none⟩, ⟨(some 13), .call 116 [(.t 11), (.t 12)], false, none⟩, ⟨(some 14), .mv (.t 5), true, none⟩, ⟨(some 15), .bin .mul .other (.t 13) (.t 14), true, none⟩, ⟨(some 16), .mv (.t 1), true, none⟩, ⟨(some 17), .bin .rem .other (.t 15) (.t 16), true, none⟩, ⟨(some 18), .bin .eql .other (.t 17) (.c (.int .i64 1)), true, none⟩])
  (.cond (.t 18) (.seq (.region [4] [⟨(some 19), .mv (.t 5), true, none⟩, ⟨(some 4), .mv (.t 19), true, none⟩])
  .ret) .skip)))
  (.region [0, 1, 5] [⟨(some 9), .mv (.t 5), true, none⟩, ⟨(some 10), .bin .add .other (.t 9) (.c (.int .i64 1)), true, none⟩, ⟨(some 5), .mv (.t 10), true, none⟩]))))))
  (.seq (.region [4] [⟨(some 4), .mv (.c (.int .i64 0)), true, none⟩])
  .ret)))⟩
theorem cf99 : cF Try.prog Try.f99 = some if99 := by kernel_rfl

/-- loop.example/g01076/spec.l02Add -/
def if100 : IFn := ⟨[0, 1, 2, 3], [(.tmp 8)], (.seq (.region [0, 1, 2, 3] [⟨(some 8), .mv (.c .nils), true, none⟩])
  (.seq (.region [0, 2, 3, 9] [⟨(some 11), .mv (.t 1), true, none⟩, ⟨(some 12), .call 94 [(.t 11)], false, none⟩, ⟨(some 9), .mv (.t 12), true, none⟩])
  (.seq (.seq (.region [0, 2, 3, 9, 10] [⟨(some 10), .mv (.c (.int .i64 0)), true, none⟩])
  (.block 0 (.loop [0, 2, 3, 9, 10] (.seq (.seq (.region [0, 2, 3, 9, 10, 22] [⟨(some 13), .mv (.t 10), true, none⟩, ⟨(some 14), .mv (.t 9), true, none⟩, ⟨(some 15), .len (.t 14), true, none⟩, ⟨(some 16), .bin .lss .other (.t 13) (.t 15), true, none⟩, ⟨(some 17), .mv (.t 16), true, none⟩, ⟨(some 18), .mv (.t 10), true, (some (17, true))⟩, ⟨(some 19), .mv (.t 3), true, (some (17, true))⟩, ⟨(some 20), .len (.t 19), true, (some (17, true))⟩, ⟨(some 21), .bin .lss .other (.t 18) (.t 20), true, (some (17, true))⟩, ⟨(some 22), .pick (.t 17) (.t 21) (.c (.bool false)), true, none⟩])
  (.cond (.t 22) .skip (.exit 0)))
  (.seq (.block 1 (.draw [0, 2, 3, 9, 10] [] [⟨⟨(some 25), .mv (.t 9), true, none⟩, 0, []⟩, ⟨⟨(some 26), .mv (.t 10), true, none⟩, 1, []⟩, ⟨⟨(some 27), .mv (.t 9), true, none⟩, 2, []⟩, ⟨⟨(some 28), .mv (.t 10), true, none⟩, 3, []⟩, ⟨⟨(some 29), .indexAddr 1 (.t 27) (.t 28), true, none⟩, 4, []⟩, ⟨⟨(some 30), .load false 1 (.t 29), true, none⟩, 5, []⟩, ⟨⟨(some 31), .mv (.t 2), true, none⟩, 6, []⟩, ⟨⟨(some 32), .mv (.t 3), true, none⟩, 7, []⟩, ⟨⟨(some 33), .mv (.t 10), true, none⟩, 8, []⟩, ⟨⟨(some 34), .indexAddr 1 (.t 32) (.t 33), true, none⟩, 9, []⟩, ⟨⟨(some 35), .load false 1 (.t 34), true, none⟩, 10, []⟩, ⟨⟨(some 36), .bin .mul .other (.t 31) (.t 35), true, none⟩, 11, []⟩, ⟨⟨(some 37), .bin .add .other (.t 30) (.t 36), true, none⟩, 12, []⟩, ⟨⟨(some 38), .mv (.t 0), true, none⟩, 13, []⟩, ⟨⟨(some 39), .call 116 [(.t 37), (.t 38)], false, none⟩, 14, []⟩, ⟨⟨(some 40), .indexAddr 1 (.t 25) (.t 26), true, none⟩, 15, []⟩, ⟨⟨none, .store 1 (.t 40) (.t 39), false, none⟩, 16, []⟩]))
  (.region [0, 2, 3, 9, 10] [⟨(some 23), .mv (.t 10), true, none⟩, ⟨(some 24), .bin .add .other (.t 23) (.c (.int .i64 1)), true, none⟩, ⟨(some 10), .mv (.t 24), true, none⟩]))))))
  (.seq (.region [8] [⟨(some 41), .mv (.t 9), true, none⟩, ⟨(some 8), .mv (.t 41), true, none⟩])
  .ret))))⟩
theorem cf100 : cF Try.prog Try.f100 = some if100 := by kernel_rfl

/-- loop.example/g01076/impl.sameRows -/
def if101 : IFn := ⟨[0, 1], [(.tmp 4)], (.seq (.region [0, 1] [⟨(some 4), .mv (.c (.bool false)), true, none⟩])
  (.seq (.region [4] [⟨(some 5), .mv (.t 0), true, none⟩, ⟨(some 6), .mv (.t 1), true, none⟩, ⟨(some 7), .call 117 [(.t 5), (.t 6), (.c (.clo 118 [] []))], false, none⟩, ⟨(some 4), .mv (.t 7), true, none⟩])
  .ret))⟩
theorem cf101 : cF Try.prog Try.f101 = some if101 := by kernel_rfl

/-- loop.example/g01076/impl.reduceRows -/
def if102 : IFn := ⟨[0, 1], [(.tmp 4)], (.seq (.region [0, 1] [⟨(some 4), .mv (.c .nils), true, none⟩])
  (.seq (.region [0, 1] [⟨(some 12), .mv (.t 1), true, none⟩, ⟨(some 13), .call 71 [(.t 12)], false, none⟩, ⟨(some 1), .mv (.t 13), true, none⟩])
  (.seq (.region [0, 1, 5] [⟨(some 5), .mv (.c (.int .i64 0)), true, none⟩])
  (.seq (.seq (.region [0, 1, 5, 6] [⟨(some 6), .mv (.c (.int .i64 0)), true, none⟩])
  (.block 0 (.loop [0, 1, 5, 6] (.seq (.seq (.region [0, 1, 5, 6, 30] [⟨(some 14), .mv (.t 1), true, none⟩, ⟨(some 15), .len (.t 14), true, none⟩, ⟨(some 16), .bin .gtr .other (.t 15) (.c (.int .i64 0)), true, none⟩, ⟨(some 17), .mv (.t 16), true, none⟩, ⟨(some 18), .mv (.t 6), true, (some (17, true))⟩, ⟨(some 19), .mv (.t 1), true, (some (17, true))⟩, ⟨(some 20), .indexAddr 1 (.t 19) (.c (.int .i64 0)), true, (some (17, true))⟩, ⟨(some 21), .load false 1 (.t 20), true, (some (17, true))⟩, ⟨(some 22), .len (.t 21), true, (some (17, true))⟩, ⟨(some 23), .bin .lss .other (.t 18) (.t 22), true, (some (17, true))⟩, ⟨(some 24), .pick (.t 17) (.t 23) (.c (.bool false)), true, none⟩, ⟨(some 25), .mv (.t 24), true, none⟩, ⟨(some 26), .mv (.t 5), true, (some (25, true))⟩, ⟨(some 27), .mv (.t 1), true, (some (25, true))⟩, ⟨(some 28), .len (.t 27), true, (some (25, true))⟩, ⟨(some 29), .bin .lss .other (.t 26) (.t 28), true, (some (25, true))⟩, ⟨(some 30), .pick (.t 25) (.t 29) (.c (.bool false)), true, none⟩])
  (.cond (.t 30) .skip (.exit 0)))
  (.seq (.block 1 (.seq (.region [0, 1, 5, 6, 7] [⟨(some 33), .mv (.t 5), true, none⟩, ⟨(some 7), .mv (.t 33), true, none⟩])
  (.seq (.block 2 (.loop [0, 1, 5, 6, 7] (.seq (.seq (.region [0, 1, 5, 6, 7, 47] [⟨(some 34), .mv (.t 7), true, none⟩, ⟨(some 35), .mv (.t 1), true, none⟩, ⟨(some 36), .len (.t 35), true, none⟩, ⟨(some 37), .bin .lss .other (.t 34) (.t 36), true, none⟩, ⟨(some 38), .mv (.t 37), true, none⟩, ⟨(some 39), .mv (.t 1), true, (some (38, true))⟩, ⟨(some 40), .mv (.t 7), true, (some (38, true))⟩, ⟨(some 41), .indexAddr 1 (.t 39) (.t 40), true, (some (38, true))⟩, ⟨(some 42), .load false 1 (.t 41), true, (some (38, true))⟩, ⟨(some 43), .mv (.t 6), true, (some (38, true))⟩, ⟨(some 44), .indexAddr 1 (.t 42) (.t 43), true, (some (38, true))⟩, ⟨(some 45), .load false 1 (.t 44), true, (some (38, true))⟩, ⟨(some 46), .bin .eql .other (.t 45) (.c (.int .i64 0)), true, (some (38, true))⟩, ⟨(some 47), .pick (.t 38) (.t 46) (.c (.bool false)), true, none⟩])
  (.cond (.t 47) .skip (.exit 2)))
  (.block 3 (.region [0, 1, 5, 6, 7] [⟨(some 48), .mv (.t 7), true, none⟩, ⟨(some 49), .bin .add .other (.t 48) (.c (.int .i64 1)), true, none⟩, ⟨(some 7), .mv (.t 49), true, none⟩])))))
  (.seq (.seq (.region [0, 1, 5, 6, 7, 53] [⟨(some 50), .mv (.t 7), true, none⟩, ⟨(some 51), .mv (.t 1), true, none⟩, ⟨(some 52), .len (.t 51), true, none⟩, ⟨(some 53), .bin .eql .other (.t 50) (.t 52), true, none⟩])
  (.cond (.t 53) (.exit 1) .skip))
  (.seq (.draw [0, 1, 5, 6] [] [⟨⟨(some 54), .mv (.t 1), true, none⟩, 0, []⟩, ⟨⟨(some 55), .mv (.t 5), true, none⟩, 1, []⟩, ⟨⟨(some 56), .mv (.t 1), true, none⟩, 2, []⟩, ⟨⟨(some 57), .mv (.t 7), true, none⟩, 3, []⟩, ⟨⟨(some 58), .mv (.t 1), true, none⟩, 4, []⟩, ⟨⟨(some 59), .mv (.t 7), true, none⟩, 5, []⟩, ⟨⟨(some 60), .indexAddr 1 (.t 58) (.t 59), true, none⟩, 6, []⟩, ⟨⟨(some 61), .load false 1 (.t 60), true, none⟩, 7, []⟩, ⟨⟨(some 62), .mv (.t 1), true, none⟩, 8, []⟩, ⟨⟨(some 63), .mv (.t 5), true, none⟩, 9, []⟩, ⟨⟨(some 64), .indexAddr 1 (.t 62) (.t 63), true, none⟩, 10, []⟩, ⟨⟨(some 65), .load false 1 (.t 64), true, none⟩, 11, []⟩, ⟨⟨(some 66), .indexAddr 1 (.t 54) (.t 55), true, none⟩, 12, []⟩, ⟨⟨none, .store 1 (.t 66) (.t 61), false, none⟩, 13, []⟩, ⟨⟨(some 67), .indexAddr 1 (.t 56) (.t 57), true, none⟩, 14, []⟩, ⟨⟨none, .store 1 (.t 67) (.t 65), false, none⟩, 15, []⟩])
  (.seq (.region [0, 1, 5, 6, 8] [⟨(some 69), .mv (.t 1), true, none⟩, ⟨(some 70), .mv (.t 5), true, none⟩, ⟨(some 71), .indexAddr 1 (.t 69) (.t 70), true, none⟩, ⟨(some 72), .load false 1 (.t 71), true, none⟩, ⟨(some 73), .mv (.t 6), true, none⟩, ⟨(some 74), .indexAddr 1 (.t 72) (.t 73), true, none⟩, ⟨(some 75), .load false 1 (.t 74), true, none⟩, ⟨(some 76), .mv (.t 0), true, none⟩, ⟨(some 77), .call 106 [(.t 75), (.t 76)], false, none⟩, ⟨(some 68), .mv (.t 77), true, none⟩, ⟨(some 78), .extract (.t 68) 0, true, none⟩, ⟨(some 79), .extract (.t 68) 1, true, none⟩, ⟨(some 8), .mv (.t 78), true, none⟩, ⟨(some 9), .mv (.t 79), true, none⟩])
  (.seq (.seq (.region [0, 1, 5, 6, 8, 84, 85] [⟨(some 80), .mv (.t 1), true, none⟩, ⟨(some 81), .mv (.t 5), true, none⟩, ⟨(some 82), .indexAddr 1 (.t 80) (.t 81), true, none⟩, ⟨(some 83), .load false 1 (.t 82), true, none⟩, ⟨(some 84), .len (.t 83), true, none⟩, ⟨(some 85), .mv (.c (.int .i64 0)), true, none⟩])
  (.block 4 (.loop [0, 1, 5, 6, 8, 84, 85] (.seq (.region [0, 1, 5, 6, 8, 84, 85, 86] [⟨(some 86), .bin .lss .other (.t 85) (.t 84), true, none⟩])
  (.seq (.cond (.t 86) .skip (.exit 4))
  (.seq (.block 5 (.seq (.region [0, 1, 5, 6, 8, 10, 84, 85] [⟨(some 87), .mv (.t 85), true, none⟩, ⟨(some 10), .mv (.t 87), true, none⟩])
  (.draw [0, 1, 5, 6, 8, 84, 85] [] [⟨⟨(some 88), .mv (.t 1), true, none⟩, 0, []⟩, ⟨⟨(some 89), .mv (.t 5), true, none⟩, 1, []⟩, ⟨⟨(some 90), .indexAddr 1 (.t 88) (.t 89), true, none⟩, 2, []⟩, ⟨⟨(some 91), .load false 1 (.t 90), true, none⟩, 3, []⟩, ⟨⟨(some 92), .mv (.t 10), true, none⟩, 4, []⟩, ⟨⟨(some 93), .mv (.t 1), true, none⟩, 5, []⟩, ⟨⟨(some 94), .mv (.t 5), true, none⟩, 6, []⟩, ⟨⟨(some 95), .indexAddr 1 (.t 93) (.t 94), true, none⟩, 7, []⟩, ⟨⟨(some 96), .load false 1 (.t 95), true, none⟩, 8, []⟩, ⟨⟨(some 97), .mv (.t 10), true, none⟩, 9, []⟩, ⟨⟨(some 98), .indexAddr 1 (.t 96) (.t 97), true, none⟩, 10, []⟩, ⟨⟨(some 99), .load false 1 (.t 98), true, none⟩, 11, []⟩, ⟨⟨(some 100), .mv (.t 8), true, none⟩, 12, []⟩, ⟨⟨(some 101), .bin .mul .other (.t 99) (.t 100), true, none⟩, 13, []⟩, ⟨⟨(some 102), .mv (.t 0), true, none⟩, 14, []⟩, ⟨⟨(some 103), .bin .rem .other (.t 101) (.t 102), true, none⟩, 15, []⟩, ⟨⟨(some 104), .indexAddr 1 (.t 91) (.t 92), true, none⟩, 16, []⟩, ⟨⟨none, .store 1 (.t 104) (.t 103), false, none⟩, 17, []⟩])))
  (.region [0, 1, 5, 6, 8, 84, 85] [⟨(some 105), .bin .add .other (.t 85) (.c (.int .i64 1)), true, none⟩, ⟨(some 85), .mv (.t 105), true, none⟩])))))))
  (.seq (.seq (.region [0, 1, 5, 6, 107, 108] [⟨(some 106), .mv (.t 1), true, none⟩, ⟨(some 107), .len (.t 106), true, none⟩, ⟨(some 108), .mv (.c (.int .i64 0)), true, none⟩])
  (.block 6 (.loop [0, 1, 5, 6, 107, 108] (.seq (.region [0, 1, 5, 6, 107, 108, 109] [⟨(some 109), .bin .lss .other (.t 108) (.t 107), true, none⟩])
  (.seq (.cond (.t 109) .skip (.exit 6))
  (.seq (.block 7 (.seq (.region [0, 1, 5, 6, 11, 107, 108] [⟨(some 110), .mv (.t 108), true, none⟩, ⟨(some 11), .mv (.t 110), true, none⟩])
  (.seq (.region [0, 1, 5, 6, 11, 107, 108, 113] [⟨(some 111), .mv (.t 11), true, none⟩, ⟨(some 112), .mv (.t 5), true, none⟩, ⟨(some 113), .bin .neq .other (.t 111) (.t 112), true, none⟩])
  (.cond (.t 113) (.draw [0, 1, 5, 6, 107, 108] [] [⟨⟨(some 114), .mv (.t 1), true, none⟩, 0, []⟩, ⟨⟨(some 115), .mv (.t 11), true, none⟩, 1, []⟩, ⟨⟨(some 116), .indexAddr 1 (.t 114) (.t 115), true, none⟩, 2, []⟩, ⟨⟨(some 117), .load false 1 (.t 116), true, none⟩, 3, []⟩, ⟨⟨(some 118), .mv (.t 1), true, none⟩, 4, []⟩, ⟨⟨(some 119), .mv (.t 5), true, none⟩, 5, []⟩, ⟨⟨(some 120), .indexAddr 1 (.t 118) (.t 119), true, none⟩, 6, []⟩, ⟨⟨(some 121), .load false 1 (.t 120), true, none⟩, 7, []⟩, ⟨⟨(some 122), .mv (.t 1), true, none⟩, 8, []⟩, ⟨⟨(some 123), .mv (.t 11), true, none⟩, 9, []⟩, ⟨⟨(some 124), .indexAddr 1 (.t 122) (.t 123), true, none⟩, 10, []⟩, ⟨⟨(some 125), .load false 1 (.t 124), true, none⟩, 11, []⟩, ⟨⟨(some 126), .mv (.t 6), true, none⟩, 12, []⟩, ⟨⟨(some 127), .indexAddr 1 (.t 125) (.t 126), true, none⟩, 13, []⟩, ⟨⟨(some 128), .load false 1 (.t 127), true, none⟩, 14, []⟩, ⟨⟨(some 129), .un .neg (.t 128), true, none⟩, 15, []⟩, ⟨⟨(some 130), .mv (.t 0), true, none⟩, 16, []⟩, ⟨⟨(some 131), .call 107 [(.t 117), (.t 121), (.t 129), (.t 130)], false, none⟩, 17, []⟩]) .skip))))
  (.region [0, 1, 5, 6, 107, 108] [⟨(some 132), .bin .add .other (.t 108) (.c (.int .i64 1)), true, none⟩, ⟨(some 108), .mv (.t 132), true, none⟩])))))))
  (.region [0, 1, 5, 6] [⟨(some 133), .mv (.t 5), true, none⟩, ⟨(some 134), .bin .add .other (.t 133) (.c (.int .i64 1)), true, none⟩, ⟨(some 5), .mv (.t 134), true, none⟩])))))))))
  (.region [0, 1, 5, 6] [⟨(some 31), .mv (.t 6), true, none⟩, ⟨(some 32), .bin .add .other (.t 31) (.c (.int .i64 1)), true, none⟩, ⟨(some 6), .mv (.t 32), true, none⟩]))))))
  (.seq (.region [4] [⟨(some 135), .mv (.t 1), true, none⟩, ⟨(some 136), .mv (.t 5), true, none⟩, ⟨(some 137), .mv (.t 5), true, none⟩, ⟨(some 138), .slice 1 (.t 135) none (some (.t 136)) (some (.t 137)), true, none⟩, ⟨(some 4), .mv (.t 138), true, none⟩])
  .ret)))))⟩
theorem cf102 : cF Try.prog Try.f102 = some if102 := by kernel_rfl

/-- loop.example/g01076/impl.withIdentity -/
def if103 : IFn := ⟨[0], [(.tmp 2)], (.seq (.region [0] [⟨(some 2), .mv (.c .nils), true, none⟩])
  (.seq (.region [0, 3] [⟨(some 3), .mv (.c .nils), true, none⟩])
  (.seq (.seq (.region [0, 3, 7, 8, 9] [⟨(some 7), .mv (.t 0), true, none⟩, ⟨(some 8), .len (.t 7), true, none⟩, ⟨(some 9), .mv (.c (.int .i64 0)), true, none⟩])
  (.block 0 (.loop [0, 3, 7, 8, 9] (.seq (.region [0, 3, 7, 8, 9, 10] [⟨(some 10), .bin .lss .other (.t 9) (.t 8), true, none⟩])
  (.seq (.cond (.t 10) .skip (.exit 0))
  (.seq (.block 1 (.seq (.region [0, 3, 4, 5, 7, 8, 9] [⟨(some 11), .mv (.t 9), true, none⟩, ⟨(some 12), .indexAddr 1 (.t 7) (.t 9), true, none⟩, ⟨(some 13), .load false 1 (.t 12), true, none⟩, ⟨(some 4), .mv (.t 11), true, none⟩, ⟨(some 5), .mv (.t 13), true, none⟩])
  (.seq (.region [0, 3, 4, 5, 6, 7, 8, 9] [⟨(some 14), .mv (.t 5), true, none⟩, ⟨(some 15), .len (.t 14), true, none⟩, ⟨(some 16), .mv (.t 0), true, none⟩, ⟨(some 17), .len (.t 16), true, none⟩, ⟨(some 18), .bin .add .other (.t 15) (.t 17), true, none⟩, ⟨(some 19), .makeSl 1 8 [(.int .i64 0)] (.t 18) (.t 18), false, none⟩, ⟨(some 6), .mv (.t 19), true, none⟩])
  (.seq (.region [0, 3, 4, 5, 6, 7, 8, 9] [⟨(some 20), .mv (.t 6), true, none⟩, ⟨(some 21), .mv (.t 5), true, none⟩, ⟨(some 22), .copy 1 (.t 20) (.t 21), false, none⟩])
  (.seq (.region [0, 3, 6, 7, 8, 9] [⟨(some 23), .mv (.t 6), true, none⟩, ⟨(some 24), .mv (.t 5), true, none⟩, ⟨(some 25), .len (.t 24), true, none⟩, ⟨(some 26), .mv (.t 4), true, none⟩, ⟨(some 27), .bin .add .other (.t 25) (.t 26), true, none⟩, ⟨(some 28), .indexAddr 1 (.t 23) (.t 27), true, none⟩, ⟨none, .store 1 (.t 28) (.c (.int .i64 1)), false, none⟩])
  (.region [0, 3, 7, 8, 9] [⟨(some 29), .mv (.t 3), true, none⟩, ⟨(some 30), .mv (.t 6), true, none⟩, ⟨(some 31), .buildSl 1 1 [.nils] [(0, 1, (.t 30))], false, none⟩, ⟨(some 32), .append 1 24 (.t 29) (.t 31), false, none⟩, ⟨(some 3), .mv (.t 32), true, none⟩]))))))
  (.region [0, 3, 7, 8, 9] [⟨(some 33), .bin .add .other (.t 9) (.c (.int .i64 1)), true, none⟩, ⟨(some 9), .mv (.t 33), true, none⟩])))))))
  (.seq (.region [2] [⟨(some 34), .mv (.t 3), true, none⟩, ⟨(some 2), .mv (.t 34), true, none⟩])
  .ret))))⟩
theorem cf103 : cF Try.prog Try.f103 = some if103 := by kernel_rfl

/-- slices.Clone[[]int64,int64] -/
def if104 : IFn := ⟨[0], [(.tmp 2)], (.seq (.region [0] [⟨(some 2), .mv (.c .nils), true, none⟩])
  (.seq (.seq (.region [0, 4] [⟨(some 3), .mv (.t 0), true, none⟩, ⟨(some 4), .bin .eql .slice (.t 3) (.c .nils), true, none⟩])
  (.cond (.t 4) (.seq (.region [2] [⟨(some 2), .mv (.c .nils), true, none⟩])
  .ret) .skip))
  (.seq (.region [2] [⟨(some 5), .buildSl 1 0 [(.int .i64 0)] [], false, none⟩, ⟨(some 6), .mv (.t 0), true, none⟩, ⟨(some 7), .append 1 8 (.t 5) (.t 6), false, none⟩, ⟨(some 2), .mv (.t 7), true, none⟩])
  .ret)))⟩
theorem cf104 : cF Try.prog Try.f104 = some if104 := by kernel_rfl

/-- loop.example/g01076/spec.l02Wide -/
def if105 : IFn := ⟨[0, 1], [(.tmp 4)], (.seq (.region [0, 1] [⟨(some 4), .mv (.c .nils), true, none⟩])
  (.seq (.region [0, 1, 5] [⟨(some 8), .mv (.t 1), true, none⟩, ⟨(some 9), .len (.t 8), true, none⟩, ⟨(some 10), .call 119 [(.t 9)], false, none⟩, ⟨(some 5), .mv (.t 10), true, none⟩])
  (.seq (.region [0, 1, 5, 6] [⟨(some 11), .buildSl 1 0 [.nils] [], false, none⟩, ⟨(some 6), .mv (.t 11), true, none⟩])
  (.seq (.seq (.region [0, 1, 5, 6, 7] [⟨(some 7), .mv (.c (.int .i64 0)), true, none⟩])
  (.block 0 (.loop [0, 1, 5, 6, 7] (.seq (.seq (.region [0, 1, 5, 6, 7, 15] [⟨(some 12), .mv (.t 7), true, none⟩, ⟨(some 13), .mv (.t 1), true, none⟩, ⟨(some 14), .len (.t 13), true, none⟩, ⟨(some 15), .bin .lss .other (.t 12) (.t 14), true, none⟩])
  (.cond (.t 15) .skip (.exit 0)))
  (.seq (.block 1 (.draw [0, 1, 5, 6, 7] [] [⟨⟨(some 18), .mv (.t 6), true, none⟩, 0, []⟩, ⟨⟨(some 19), .mv (.t 1), true, none⟩, 1, []⟩, ⟨⟨(some 20), .mv (.t 7), true, none⟩, 2, []⟩, ⟨⟨(some 21), .indexAddr 1 (.t 19) (.t 20), true, none⟩, 3, []⟩, ⟨⟨(some 22), .load false 1 (.t 21), true, none⟩, 4, []⟩, ⟨⟨(some 24), .mv (.t 5), true, none⟩, 6, []⟩, ⟨⟨(some 25), .mv (.t 7), true, none⟩, 7, []⟩, ⟨⟨(some 26), .indexAddr 1 (.t 24) (.t 25), true, none⟩, 8, []⟩, ⟨⟨(some 27), .load false 1 (.t 26), true, none⟩, 9, []⟩, ⟨⟨(some 23), .call 94 [(.t 22)], false, none⟩, 5, [9]⟩, ⟨⟨(some 28), .append 1 8 (.t 23) (.t 27), false, none⟩, 10, []⟩, ⟨⟨(some 29), .buildSl 1 1 [.nils] [(0, 1, (.t 28))], false, none⟩, 11, []⟩, ⟨⟨(some 30), .append 1 24 (.t 18) (.t 29), false, none⟩, 12, []⟩, ⟨⟨(some 6), .mv (.t 30), true, none⟩, 13, []⟩]))
  (.region [0, 1, 5, 6, 7] [⟨(some 16), .mv (.t 7), true, none⟩, ⟨(some 17), .bin .add .other (.t 16) (.c (.int .i64 1)), true, none⟩, ⟨(some 7), .mv (.t 17), true, none⟩]))))))
  (.seq (.region [4] [⟨(some 31), .mv (.t 0), true, none⟩, ⟨(some 32), .mv (.t 6), true, none⟩, ⟨(some 33), .call 59 [(.t 31), (.t 32)], false, none⟩, ⟨(some 4), .mv (.t 33), true, none⟩])
  .ret)))))⟩
theorem cf105 : cF Try.prog Try.f105 = some if105 := by kernel_rfl

/-- loop.example/g01076/impl.inverseMod -/
def if106 : IFn := ⟨[0, 1], [(.tmp 4), (.tmp 5)], (.seq (.region [0, 1] [⟨(some 4), .mv (.c (.int .i64 0)), true, none⟩, ⟨(some 5), .mv (.c (.bool false)), true, none⟩])
  (.seq (.region [1, 6, 7, 8, 9] [⟨(some 11), .mv (.t 1), true, none⟩, ⟨(some 12), .mv (.t 0), true, none⟩, ⟨(some 6), .mv (.t 11), true, none⟩, ⟨(some 7), .mv (.t 12), true, none⟩, ⟨(some 8), .mv (.c (.int .i64 0)), true, none⟩, ⟨(some 9), .mv (.c (.int .i64 1)), true, none⟩])
  (.seq (.block 0 (.loop [1, 6, 7, 8, 9] (.seq (.seq (.region [1, 6, 7, 8, 9, 14] [⟨(some 13), .mv (.t 7), true, none⟩, ⟨(some 14), .bin .neq .other (.t 13) (.c (.int .i64 0)), true, none⟩])
  (.cond (.t 14) .skip (.exit 0)))
  (.block 1 (.seq (.region [1, 6, 7, 8, 9, 10] [⟨(some 15), .mv (.t 6), true, none⟩, ⟨(some 16), .mv (.t 7), true, none⟩, ⟨(some 17), .bin .quo .other (.t 15) (.t 16), true, none⟩, ⟨(some 10), .mv (.t 17), true, none⟩])
  (.seq (.region [1, 6, 7, 8, 9, 10] [⟨(some 18), .mv (.t 7), true, none⟩, ⟨(some 19), .mv (.t 6), true, none⟩, ⟨(some 20), .mv (.t 10), true, none⟩, ⟨(some 21), .mv (.t 7), true, none⟩, ⟨(some 22), .bin .mul .other (.t 20) (.t 21), true, none⟩, ⟨(some 23), .bin .sub .other (.t 19) (.t 22), true, none⟩, ⟨(some 6), .mv (.t 18), true, none⟩, ⟨(some 7), .mv (.t 23), true, none⟩])
  (.region [1, 6, 7, 8, 9] [⟨(some 24), .mv (.t 9), true, none⟩, ⟨(some 25), .mv (.t 8), true, none⟩, ⟨(some 26), .mv (.t 10), true, none⟩, ⟨(some 27), .mv (.t 9), true, none⟩, ⟨(some 28), .bin .mul .other (.t 26) (.t 27), true, none⟩, ⟨(some 29), .bin .sub .other (.t 25) (.t 28), true, none⟩, ⟨(some 8), .mv (.t 24), true, none⟩, ⟨(some 9), .mv (.t 29), true, none⟩])))))))
  (.seq (.region [4, 5] [⟨(some 30), .mv (.t 8), true, none⟩, ⟨(some 31), .mv (.t 1), true, none⟩, ⟨(some 32), .call 111 [(.t 30), (.t 31)], false, none⟩, ⟨(some 33), .mv (.t 6), true, none⟩, ⟨(some 34), .bin .eql .other (.t 33) (.c (.int .i64 1)), true, none⟩, ⟨(some 4), .mv (.t 32), true, none⟩, ⟨(some 5), .mv (.t 34), true, none⟩])
  .ret))))⟩
theorem cf106 : cF Try.prog Try.f106 = some if106 := by kernel_rfl

/-- loop.example/g01076/impl.addMultiple -/
def if107 : IFn := ⟨[0, 1, 2, 3], [], (.seq (.region [0, 1, 2, 3, 10, 11] [⟨(some 9), .mv (.t 0), true, none⟩, ⟨(some 10), .len (.t 9), true, none⟩, ⟨(some 11), .mv (.c (.int .i64 0)), true, none⟩])
  (.block 0 (.loop [0, 1, 2, 3, 10, 11] (.seq (.region [0, 1, 2, 3, 10, 11, 12] [⟨(some 12), .bin .lss .other (.t 11) (.t 10), true, none⟩])
  (.seq (.cond (.t 12) .skip (.exit 0))
  (.seq (.block 1 (.seq (.region [0, 1, 2, 3, 8, 10, 11] [⟨(some 13), .mv (.t 11), true, none⟩, ⟨(some 8), .mv (.t 13), true, none⟩])
  (.draw [0, 1, 2, 3, 10, 11] [] [⟨⟨(some 14), .mv (.t 0), true, none⟩, 0, []⟩, ⟨⟨(some 15), .mv (.t 8), true, none⟩, 1, []⟩, ⟨⟨(some 16), .mv (.t 0), true, none⟩, 2, []⟩, ⟨⟨(some 17), .mv (.t 8), true, none⟩, 3, []⟩, ⟨⟨(some 18), .indexAddr 1 (.t 16) (.t 17), true, none⟩, 4, []⟩, ⟨⟨(some 19), .load false 1 (.t 18), true, none⟩, 5, []⟩, ⟨⟨(some 20), .mv (.t 2), true, none⟩, 6, []⟩, ⟨⟨(some 21), .mv (.t 1), true, none⟩, 7, []⟩, ⟨⟨(some 22), .mv (.t 8), true, none⟩, 8, []⟩, ⟨⟨(some 23), .indexAddr 1 (.t 21) (.t 22), true, none⟩, 9, []⟩, ⟨⟨(some 24), .load false 1 (.t 23), true, none⟩, 10, []⟩, ⟨⟨(some 25), .bin .mul .other (.t 20) (.t 24), true, none⟩, 11, []⟩, ⟨⟨(some 26), .bin .add .other (.t 19) (.t 25), true, none⟩, 12, []⟩, ⟨⟨(some 27), .mv (.t 3), true, none⟩, 13, []⟩, ⟨⟨(some 28), .call 111 [(.t 26), (.t 27)], false, none⟩, 14, []⟩, ⟨⟨(some 29), .indexAddr 1 (.t 14) (.t 15), true, none⟩, 15, []⟩, ⟨⟨none, .store 1 (.t 29) (.t 28), false, none⟩, 16, []⟩])))
  (.region [0, 1, 2, 3, 10, 11] [⟨(some 30), .bin .add .other (.t 11) (.c (.int .i64 1)), true, none⟩, ⟨(some 11), .mv (.t 30), true, none⟩])))))))⟩
theorem cf107 : cF Try.prog Try.f107 = some if107 := by kernel_rfl

/-- loop.example/g01076/spec.l03Make -/
def if108 : IFn := ⟨[0, 1, 2], [(.cell 6 true 3)], (.seq (.region [0, 1, 2, 6] [⟨(some 6), .alloc [(.int .i64 0), (.int .i64 0), .nils], false, none⟩])
  (.seq (.region [1, 2, 6, 7] [⟨(some 8), .mv (.t 0), true, none⟩, ⟨(some 9), .mv (.t 1), true, none⟩, ⟨(some 10), .mv (.t 0), true, none⟩, ⟨(some 11), .mv (.t 2), true, none⟩, ⟨(some 12), .bin .add .other (.t 11) (.c (.int .i64 1)), true, none⟩, ⟨(some 13), .call 51 [(.t 10), (.t 12)], false, none⟩, ⟨(some 14), .mv (.t 2), true, none⟩, ⟨(some 15), .call 54 [(.t 8), (.t 9), (.t 13), (.t 14)], false, none⟩, ⟨(some 7), .alloc [(.int .i64 0), (.int .i64 0), .nils], false, none⟩, ⟨none, .store 3 (.t 7) (.t 15), false, none⟩])
  (.seq (.region [6] [⟨(some 16), .mv (.t 1), true, none⟩, ⟨(some 17), .mv (.t 2), true, none⟩, ⟨(some 18), .mv (.t 1), true, none⟩, ⟨(some 19), .fieldAddr 2 (.t 7), true, none⟩, ⟨(some 20), .load false 1 (.t 19), true, none⟩, ⟨(some 21), .call 59 [(.t 18), (.t 20)], false, none⟩, ⟨(some 22), .build [(.int .i64 0), (.int .i64 0), .nils] [(0, 1, (.t 16)), (1, 1, (.t 17)), (2, 1, (.t 21))], true, none⟩, ⟨none, .store 3 (.t 6) (.t 22), false, none⟩])
  .ret)))⟩
theorem cf108 : cF Try.prog Try.f108 = some if108 := by kernel_rfl

/-- slices.IndexFunc[[]int64,int64] -/
def if109 : IFn := ⟨[0, 1], [(.tmp 4)], (.seq (.region [0, 1] [⟨(some 4), .mv (.c (.int .i64 0)), true, none⟩])
  (.seq (.seq (.region [0, 1, 7, 8] [⟨(some 6), .mv (.t 0), true, none⟩, ⟨(some 7), .len (.t 6), true, none⟩, ⟨(some 8), .mv (.c (.int .i64 0)), true, none⟩])
  (.block 0 (.loop [0, 1, 7, 8] (.seq (.region [0, 1, 7, 8, 9] [⟨(some 9), .bin .lss .other (.t 8) (.t 7), true, none⟩])
  (.seq (.cond (.t 9) .skip (.exit 0))
  (.seq (.block 1 (.seq (.region [0, 1, 5, 7, 8] [⟨(some 10), .mv (.t 8), true, none⟩, ⟨(some 5), .mv (.t 10), true, none⟩])
  (.seq (.region [0, 1, 5, 7, 8, 16] [⟨(some 11), .mv (.t 1), true, none⟩, ⟨(some 12), .mv (.t 0), true, none⟩, ⟨(some 13), .mv (.t 5), true, none⟩, ⟨(some 14), .indexAddr 1 (.t 12) (.t 13), true, none⟩, ⟨(some 15), .load false 1 (.t 14), true, none⟩, ⟨(some 16), .callV (.t 11) [(.t 15)], false, none⟩])
  (.cond (.t 16) (.seq (.region [4] [⟨(some 17), .mv (.t 5), true, none⟩, ⟨(some 4), .mv (.t 17), true, none⟩])
  .ret) .skip))))
  (.region [0, 1, 7, 8] [⟨(some 18), .bin .add .other (.t 8) (.c (.int .i64 1)), true, none⟩, ⟨(some 8), .mv (.t 18), true, none⟩])))))))
  (.seq (.region [4] [⟨(some 4), .mv (.c (.int .i64 (-1))), true, none⟩])
  .ret)))⟩
theorem cf109 : cF Try.prog Try.f109 = some if109 := by kernel_rfl

/-- loop.example/g01076/impl.solveRows$1 -/
def if110 : IFn := ⟨[0], [(.tmp 2)], (.seq (.region [0] [⟨(some 2), .mv (.c (.bool false)), true, none⟩])
  (.seq (.region [2] [⟨(some 3), .mv (.t 0), true, none⟩, ⟨(some 4), .bin .neq .other (.t 3) (.c (.int .i64 0)), true, none⟩, ⟨(some 2), .mv (.t 4), true, none⟩])
  .ret))⟩
theorem cf110 : cF Try.prog Try.f110 = some if110 := by kernel_rfl

/-- loop.example/g01076/impl.residue -/
def if111 : IFn := ⟨[0, 1], [(.tmp 4)], (.seq (.region [0, 1] [⟨(some 4), .mv (.c (.int .i64 0)), true, none⟩])
  (.seq (.region [4] [⟨(some 5), .mv (.t 0), true, none⟩, ⟨(some 6), .mv (.t 1), true, none⟩, ⟨(some 7), .bin .rem .other (.t 5) (.t 6), true, none⟩, ⟨(some 8), .mv (.t 1), true, none⟩, ⟨(some 9), .bin .add .other (.t 7) (.t 8), true, none⟩, ⟨(some 10), .mv (.t 1), true, none⟩, ⟨(some 11), .bin .rem .other (.t 9) (.t 10), true, none⟩, ⟨(some 4), .mv (.t 11), true, none⟩])
  .ret))⟩
theorem cf111 : cF Try.prog Try.f111 = some if111 := by kernel_rfl

/-- loop.example/g01076/spec.l01Zero -/
def if112 : IFn := ⟨[0], [(.tmp 2)], (.seq (.region [0] [⟨(some 2), .mv (.c (.bool false)), true, none⟩])
  (.seq (.seq (.region [0, 3] [⟨(some 3), .mv (.c (.int .i64 0)), true, none⟩])
  (.block 0 (.loop [0, 3] (.seq (.seq (.region [0, 3, 7] [⟨(some 4), .mv (.t 3), true, none⟩, ⟨(some 5), .mv (.t 0), true, none⟩, ⟨(some 6), .len (.t 5), true, none⟩, ⟨(some 7), .bin .lss .other (.t 4) (.t 6), true, none⟩])
  (.cond (.t 7) .skip (.exit 0)))
  (.seq (.block 1 (.seq (.region [0, 3, 14] [⟨(some 10), .mv (.t 0), true, none⟩, ⟨(some 11), .mv (.t 3), true, none⟩, ⟨(some 12), .indexAddr 1 (.t 10) (.t 11), true, none⟩, ⟨(some 13), .load false 1 (.t 12), true, none⟩, ⟨(some 14), .bin .neq .other (.t 13) (.c (.int .i64 0)), true, none⟩])
  (.cond (.t 14) (.seq (.region [2] [⟨(some 2), .mv (.c (.bool false)), true, none⟩])
  .ret) .skip)))
  (.region [0, 3] [⟨(some 8), .mv (.t 3), true, none⟩, ⟨(some 9), .bin .add .other (.t 8) (.c (.int .i64 1)), true, none⟩, ⟨(some 3), .mv (.t 9), true, none⟩]))))))
  (.seq (.region [2] [⟨(some 2), .mv (.c (.bool true)), true, none⟩])
  .ret)))⟩
theorem cf112 : cF Try.prog Try.f112 = some if112 := by kernel_rfl

/-- loop.example/g01076/spec.l02Null -/
def if113 : IFn := ⟨[0, 1, 2], [(.tmp 6)], (.seq (.region [0, 1, 2] [⟨(some 6), .mv (.c .nils), true, none⟩])
  (.seq (.region [2, 7] [⟨(some 10), .mv (.t 0), true, none⟩, ⟨(some 11), .mv (.t 1), true, none⟩, ⟨(some 12), .call 105 [(.t 10), (.t 11)], false, none⟩, ⟨(some 7), .mv (.t 12), true, none⟩])
  (.seq (.region [2, 7, 8] [⟨(some 13), .buildSl 1 0 [.nils] [], false, none⟩, ⟨(some 8), .mv (.t 13), true, none⟩])
  (.seq (.seq (.region [2, 7, 8, 9] [⟨(some 9), .mv (.c (.int .i64 0)), true, none⟩])
  (.block 0 (.loop [2, 7, 8, 9] (.seq (.seq (.region [2, 7, 8, 9, 17] [⟨(some 14), .mv (.t 9), true, none⟩, ⟨(some 15), .mv (.t 7), true, none⟩, ⟨(some 16), .len (.t 15), true, none⟩, ⟨(some 17), .bin .lss .other (.t 14) (.t 16), true, none⟩])
  (.cond (.t 17) .skip (.exit 0)))
  (.seq (.block 1 (.seq (.region [2, 7, 8, 9, 26] [⟨(some 20), .mv (.t 7), true, none⟩, ⟨(some 21), .mv (.t 9), true, none⟩, ⟨(some 22), .indexAddr 1 (.t 20) (.t 21), true, none⟩, ⟨(some 23), .load false 1 (.t 22), true, none⟩, ⟨(some 24), .call 98 [(.t 23)], false, none⟩, ⟨(some 25), .mv (.t 2), true, none⟩, ⟨(some 26), .bin .geq .other (.t 24) (.t 25), true, none⟩])
  (.cond (.t 26) (.region [2, 7, 8, 9] [⟨(some 27), .mv (.t 8), true, none⟩, ⟨(some 28), .mv (.t 7), true, none⟩, ⟨(some 29), .mv (.t 9), true, none⟩, ⟨(some 30), .indexAddr 1 (.t 28) (.t 29), true, none⟩, ⟨(some 31), .load false 1 (.t 30), true, none⟩, ⟨(some 32), .mv (.t 2), true, none⟩, ⟨(some 33), .slice 1 (.t 31) (some (.t 32)) none none, true, none⟩, ⟨(some 34), .call 94 [(.t 33)], false, none⟩, ⟨(some 35), .buildSl 1 1 [.nils] [(0, 1, (.t 34))], false, none⟩, ⟨(some 36), .append 1 24 (.t 27) (.t 35), false, none⟩, ⟨(some 8), .mv (.t 36), true, none⟩]) .skip)))
  (.region [2, 7, 8, 9] [⟨(some 18), .mv (.t 9), true, none⟩, ⟨(some 19), .bin .add .other (.t 18) (.c (.int .i64 1)), true, none⟩, ⟨(some 9), .mv (.t 19), true, none⟩]))))))
  (.seq (.region [6] [⟨(some 37), .mv (.t 8), true, none⟩, ⟨(some 6), .mv (.t 37), true, none⟩])
  .ret)))))⟩
theorem cf113 : cF Try.prog Try.f113 = some if113 := by kernel_rfl

/-- loop.example/g01076/impl.pivots -/
def if114 : IFn := ⟨[0], [(.tmp 2)], (.seq (.region [0] [⟨(some 2), .mv (.c .nils), true, none⟩])
  (.seq (.region [0, 3] [⟨(some 3), .mv (.c .nils), true, none⟩])
  (.seq (.seq (.region [3, 6, 7, 8] [⟨(some 6), .mv (.t 0), true, none⟩, ⟨(some 7), .len (.t 6), true, none⟩, ⟨(some 8), .mv (.c (.int .i64 0)), true, none⟩])
  (.block 0 (.loop [3, 6, 7, 8] (.seq (.region [3, 6, 7, 8, 9] [⟨(some 9), .bin .lss .other (.t 8) (.t 7), true, none⟩])
  (.seq (.cond (.t 9) .skip (.exit 0))
  (.seq (.block 1 (.seq (.region [3, 5, 6, 7, 8] [⟨(some 10), .indexAddr 1 (.t 6) (.t 8), true, none⟩, ⟨(some 11), .load false 1 (.t 10), true, none⟩, ⟨(some 5), .mv (.t 11), true, none⟩])
  (.region [3, 6, 7, 8] [⟨(some 12), .mv (.t 3), true, none⟩, ⟨(some 13), .mv (.t 5), true, none⟩, ⟨(some 14), .call 109 [(.t 13), (.c (.clo 120 [] []))], false, none⟩, ⟨(some 15), .buildSl 1 1 [(.int .i64 0)] [(0, 1, (.t 14))], false, none⟩, ⟨(some 16), .append 1 8 (.t 12) (.t 15), false, none⟩, ⟨(some 3), .mv (.t 16), true, none⟩])))
  (.region [3, 6, 7, 8] [⟨(some 17), .bin .add .other (.t 8) (.c (.int .i64 1)), true, none⟩, ⟨(some 8), .mv (.t 17), true, none⟩])))))))
  (.seq (.region [2] [⟨(some 18), .mv (.t 3), true, none⟩, ⟨(some 2), .mv (.t 18), true, none⟩])
  .ret))))⟩
theorem cf114 : cF Try.prog Try.f114 = some if114 := by kernel_rfl

/-- loop.example/g01076/spec.l01Same -/
def if115 : IFn := ⟨[0, 1], [(.tmp 4)], (.seq (.region [0, 1] [⟨(some 4), .mv (.c (.bool false)), true, none⟩])
  (.seq (.seq (.region [0, 1, 10] [⟨(some 6), .mv (.t 0), true, none⟩, ⟨(some 7), .len (.t 6), true, none⟩, ⟨(some 8), .mv (.t 1), true, none⟩, ⟨(some 9), .len (.t 8), true, none⟩, ⟨(some 10), .bin .neq .other (.t 7) (.t 9), true, none⟩])
  (.cond (.t 10) (.seq (.region [4] [⟨(some 4), .mv (.c (.bool false)), true, none⟩])
  .ret) .skip))
  (.seq (.seq (.region [0, 1, 5] [⟨(some 5), .mv (.c (.int .i64 0)), true, none⟩])
  (.block 0 (.loop [0, 1, 5] (.seq (.seq (.region [0, 1, 5, 14] [⟨(some 11), .mv (.t 5), true, none⟩, ⟨(some 12), .mv (.t 0), true, none⟩, ⟨(some 13), .len (.t 12), true, none⟩, ⟨(some 14), .bin .lss .other (.t 11) (.t 13), true, none⟩])
  (.cond (.t 14) .skip (.exit 0)))
  (.seq (.block 1 (.seq (.draw [0, 1, 5, 25] [] [⟨⟨(some 17), .mv (.t 0), true, none⟩, 0, []⟩, ⟨⟨(some 18), .mv (.t 5), true, none⟩, 1, []⟩, ⟨⟨(some 19), .indexAddr 1 (.t 17) (.t 18), true, none⟩, 2, []⟩, ⟨⟨(some 20), .load false 1 (.t 19), true, none⟩, 3, []⟩, ⟨⟨(some 21), .mv (.t 1), true, none⟩, 4, []⟩, ⟨⟨(some 22), .mv (.t 5), true, none⟩, 5, []⟩, ⟨⟨(some 23), .indexAddr 1 (.t 21) (.t 22), true, none⟩, 6, []⟩, ⟨⟨(some 24), .load false 1 (.t 23), true, none⟩, 7, []⟩, ⟨⟨(some 25), .bin .neq .other (.t 20) (.t 24), true, none⟩, 8, []⟩])
  (.cond (.t 25) (.seq (.region [4] [⟨(some 4), .mv (.c (.bool false)), true, none⟩])
  .ret) .skip)))
  (.region [0, 1, 5] [⟨(some 15), .mv (.t 5), true, none⟩, ⟨(some 16), .bin .add .other (.t 15) (.c (.int .i64 1)), true, none⟩, ⟨(some 5), .mv (.t 16), true, none⟩]))))))
  (.seq (.region [4] [⟨(some 4), .mv (.c (.bool true)), true, none⟩])
  .ret))))⟩
theorem cf115 : cF Try.prog Try.f115 = some if115 := by kernel_rfl

/-- loop.example/g01076/spec.l01Mod -/
def if116 : IFn := ⟨[0, 1], [(.tmp 4)], (.seq (.region [0, 1] [⟨(some 4), .mv (.c (.int .i64 0)), true, none⟩])
  (.seq (.region [1, 5] [⟨(some 6), .mv (.t 0), true, none⟩, ⟨(some 7), .mv (.t 1), true, none⟩, ⟨(some 8), .bin .rem .other (.t 6) (.t 7), true, none⟩, ⟨(some 5), .mv (.t 8), true, none⟩])
  (.seq (.seq (.region [1, 5, 10] [⟨(some 9), .mv (.t 5), true, none⟩, ⟨(some 10), .bin .lss .other (.t 9) (.c (.int .i64 0)), true, none⟩])
  (.cond (.t 10) (.region [5] [⟨(some 11), .mv (.t 5), true, none⟩, ⟨(some 12), .mv (.t 1), true, none⟩, ⟨(some 13), .bin .add .other (.t 11) (.t 12), true, none⟩, ⟨(some 5), .mv (.t 13), true, none⟩]) .skip))
  (.seq (.region [4] [⟨(some 14), .mv (.t 5), true, none⟩, ⟨(some 4), .mv (.t 14), true, none⟩])
  .ret))))⟩
theorem cf116 : cF Try.prog Try.f116 = some if116 := by kernel_rfl

/-- slices.EqualFunc[[][]int64,[][]int64,[]int64,[]int64] -/
def if117 : IFn := ⟨[0, 1, 2], [(.tmp 6)], (.seq (.region [0, 1, 2] [⟨(some 6), .mv (.c (.bool false)), true, none⟩])
  (.seq (.seq (.region [0, 1, 2, 14] [⟨(some 10), .mv (.t 0), true, none⟩, ⟨(some 11), .len (.t 10), true, none⟩, ⟨(some 12), .mv (.t 1), true, none⟩, ⟨(some 13), .len (.t 12), true, none⟩, ⟨(some 14), .bin .neq .other (.t 11) (.t 13), true, none⟩])
  (.cond (.t 14) (.seq (.region [6] [⟨(some 6), .mv (.c (.bool false)), true, none⟩])
  .ret) .skip))
  (.seq (.seq (.region [1, 2, 15, 16, 17] [⟨(some 15), .mv (.t 0), true, none⟩, ⟨(some 16), .len (.t 15), true, none⟩, ⟨(some 17), .mv (.c (.int .i64 0)), true, none⟩])
  (.block 0 (.loop [1, 2, 15, 16, 17] (.seq (.region [1, 2, 15, 16, 17, 18] [⟨(some 18), .bin .lss .other (.t 17) (.t 16), true, none⟩])
  (.seq (.cond (.t 18) .skip (.exit 0))
  (.seq (.block 1 (.seq (.region [1, 2, 7, 8, 15, 16, 17] [⟨(some 19), .mv (.t 17), true, none⟩, ⟨(some 20), .indexAddr 1 (.t 15) (.t 17), true, none⟩, ⟨(some 21), .load false 1 (.t 20), true, none⟩, ⟨(some 7), .mv (.t 19), true, none⟩, ⟨(some 8), .mv (.t 21), true, none⟩])
  (.seq (.region [1, 2, 8, 9, 15, 16, 17] [⟨(some 22), .mv (.t 1), true, none⟩, ⟨(some 23), .mv (.t 7), true, none⟩, ⟨(some 24), .indexAddr 1 (.t 22) (.t 23), true, none⟩, ⟨(some 25), .load false 1 (.t 24), true, none⟩, ⟨(some 9), .mv (.t 25), true, none⟩])
  (.seq (.region [1, 2, 15, 16, 17, 30] [⟨(some 26), .mv (.t 2), true, none⟩, ⟨(some 27), .mv (.t 8), true, none⟩, ⟨(some 28), .mv (.t 9), true, none⟩, ⟨(some 29), .callV (.t 26) [(.t 27), (.t 28)], false, none⟩, ⟨(some 30), .un .not (.t 29), true, none⟩])
  (.cond (.t 30) (.seq (.region [6] [⟨(some 6), .mv (.c (.bool false)), true, none⟩])
  .ret) .skip)))))
  (.region [1, 2, 15, 16, 17] [⟨(some 31), .bin .add .other (.t 17) (.c (.int .i64 1)), true, none⟩, ⟨(some 17), .mv (.t 31), true, none⟩])))))))
  (.seq (.region [6] [⟨(some 6), .mv (.c (.bool true)), true, none⟩])
  .ret))))⟩
theorem cf117 : cF Try.prog Try.f117 = some if117 := by kernel_rfl

/-- slices.Equal[[]int64,int64] -/
def if118 : IFn := ⟨[0, 1], [(.tmp 4)], (.seq (.region [0, 1] [⟨(some 4), .mv (.c (.bool false)), true, none⟩])
  (.seq (.seq (.region [0, 1, 10] [⟨(some 6), .mv (.t 0), true, none⟩, ⟨(some 7), .len (.t 6), true, none⟩, ⟨(some 8), .mv (.t 1), true, none⟩, ⟨(some 9), .len (.t 8), true, none⟩, ⟨(some 10), .bin .neq .other (.t 7) (.t 9), true, none⟩])
  (.cond (.t 10) (.seq (.region [4] [⟨(some 4), .mv (.c (.bool false)), true, none⟩])
  .ret) .skip))
  (.seq (.seq (.region [0, 1, 12, 13] [⟨(some 11), .mv (.t 0), true, none⟩, ⟨(some 12), .len (.t 11), true, none⟩, ⟨(some 13), .mv (.c (.int .i64 0)), true, none⟩])
  (.block 0 (.loop [0, 1, 12, 13] (.seq (.region [0, 1, 12, 13, 14] [⟨(some 14), .bin .lss .other (.t 13) (.t 12), true, none⟩])
  (.seq (.cond (.t 14) .skip (.exit 0))
  (.seq (.block 1 (.seq (.region [0, 1, 5, 12, 13] [⟨(some 15), .mv (.t 13), true, none⟩, ⟨(some 5), .mv (.t 15), true, none⟩])
  (.seq (.draw [0, 1, 12, 13, 24] [] [⟨⟨(some 16), .mv (.t 0), true, none⟩, 0, []⟩, ⟨⟨(some 17), .mv (.t 5), true, none⟩, 1, []⟩, ⟨⟨(some 18), .indexAddr 1 (.t 16) (.t 17), true, none⟩, 2, []⟩, ⟨⟨(some 19), .load false 1 (.t 18), true, none⟩, 3, []⟩, ⟨⟨(some 20), .mv (.t 1), true, none⟩, 4, []⟩, ⟨⟨(some 21), .mv (.t 5), true, none⟩, 5, []⟩, ⟨⟨(some 22), .indexAddr 1 (.t 20) (.t 21), true, none⟩, 6, []⟩, ⟨⟨(some 23), .load false 1 (.t 22), true, none⟩, 7, []⟩, ⟨⟨(some 24), .bin .neq .other (.t 19) (.t 23), true, none⟩, 8, []⟩])
  (.cond (.t 24) (.seq (.region [4] [⟨(some 4), .mv (.c (.bool false)), true, none⟩])
  .ret) .skip))))
  (.region [0, 1, 12, 13] [⟨(some 25), .bin .add .other (.t 13) (.c (.int .i64 1)), true, none⟩, ⟨(some 13), .mv (.t 25), true, none⟩])))))))
  (.seq (.region [4] [⟨(some 4), .mv (.c (.bool true)), true, none⟩])
  .ret))))⟩
theorem cf118 : cF Try.prog Try.f118 = some if118 := by kernel_rfl

/-- loop.example/g01076/spec.l02Unit -/
def if119 : IFn := ⟨[0], [(.tmp 2)], (.seq (.region [0] [⟨(some 2), .mv (.c .nils), true, none⟩])
  (.seq (.region [0, 3] [⟨(some 6), .buildSl 1 0 [.nils] [], false, none⟩, ⟨(some 3), .mv (.t 6), true, none⟩])
  (.seq (.seq (.region [0, 3, 4] [⟨(some 4), .mv (.c (.int .i64 0)), true, none⟩])
  (.block 0 (.loop [0, 3, 4] (.seq (.seq (.region [0, 3, 4, 9] [⟨(some 7), .mv (.t 4), true, none⟩, ⟨(some 8), .mv (.t 0), true, none⟩, ⟨(some 9), .bin .lss .other (.t 7) (.t 8), true, none⟩])
  (.cond (.t 9) .skip (.exit 0)))
  (.seq (.block 1 (.seq (.region [0, 3, 4, 5] [⟨(some 12), .mv (.t 0), true, none⟩, ⟨(some 13), .makeSl 1 8 [(.int .i64 0)] (.t 12) (.t 12), false, none⟩, ⟨(some 5), .mv (.t 13), true, none⟩])
  (.seq (.region [0, 3, 4, 5] [⟨(some 14), .mv (.t 5), true, none⟩, ⟨(some 15), .mv (.t 4), true, none⟩, ⟨(some 16), .indexAddr 1 (.t 14) (.t 15), true, none⟩, ⟨none, .store 1 (.t 16) (.c (.int .i64 1)), false, none⟩])
  (.region [0, 3, 4] [⟨(some 17), .mv (.t 3), true, none⟩, ⟨(some 18), .mv (.t 5), true, none⟩, ⟨(some 19), .buildSl 1 1 [.nils] [(0, 1, (.t 18))], false, none⟩, ⟨(some 20), .append 1 24 (.t 17) (.t 19), false, none⟩, ⟨(some 3), .mv (.t 20), true, none⟩]))))
  (.region [0, 3, 4] [⟨(some 10), .mv (.t 4), true, none⟩, ⟨(some 11), .bin .add .other (.t 10) (.c (.int .i64 1)), true, none⟩, ⟨(some 4), .mv (.t 11), true, none⟩]))))))
  (.seq (.region [2] [⟨(some 21), .mv (.t 3), true, none⟩, ⟨(some 2), .mv (.t 21), true, none⟩])
  .ret))))⟩
theorem cf119 : cF Try.prog Try.f119 = some if119 := by kernel_rfl

/-- loop.example/g01076/impl.pivots$1 -/
def if120 : IFn := ⟨[0], [(.tmp 2)], (.seq (.region [0] [⟨(some 2), .mv (.c (.bool false)), true, none⟩])
  (.seq (.region [2] [⟨(some 3), .mv (.t 0), true, none⟩, ⟨(some 4), .bin .neq .other (.t 3) (.c (.int .i64 0)), true, none⟩, ⟨(some 2), .mv (.t 4), true, none⟩])
  .ret))⟩
theorem cf120 : cF Try.prog Try.f120 = some if120 := by kernel_rfl

end Go.Proofs
