/- The compiled forms of the laws. Written by a program. -/
import Derived.Test.YthgccplmmogcnaaCVIr
namespace Go.Proofs
open Go.Ab
/-- loop.example/g01076/laws.FnExactIsLieMap -/
def if3 : IFn := ⟨[0, 1, 2], [(.tmp 6)], (.seq (.region [2, 3, 4] [eI 3 (.box (.t 0)), eI 4 (.box (.t 1)), qI 6 (.mv (.c (.bool false)))])
  (.seq (.region [2, 3, 4, 7] [qI 7 (.mv (.c (.int .i64 1048576)))])
  (.seq (.region [2, 3, 4, 7] [qI 13 (.load true 3 (.t 3)), qI 14 (.mv (.t 7)), eI 15 (.call 15 [(.t 13), (.t 14)]), qI 7 (.mv (.t 15))])
  (.seq (.seq (.region [2, 3, 4, 7, 17] [qI 16 (.mv (.t 7)), qI 17 (.bin .lss .other (.t 16) (.c (.int .i64 0)))])
  (.cond (.t 17) (.seq (.region [6] [qI 6 (.mv (.c (.bool true)))])
  .ret) .skip))
  (.seq (.region [2, 3, 4, 7] [qI 18 (.load true 3 (.t 4)), qI 19 (.mv (.t 7)), eI 20 (.call 15 [(.t 18), (.t 19)]), qI 7 (.mv (.t 20))])
  (.seq (.seq (.region [2, 3, 4, 7, 22] [qI 21 (.mv (.t 7)), qI 22 (.bin .lss .other (.t 21) (.c (.int .i64 0)))])
  (.cond (.t 22) (.seq (.region [6] [qI 6 (.mv (.c (.bool true)))])
  .ret) .skip))
  (.seq (.region [2, 3, 4, 7] [qI 23 (.mv (.t 2)), qI 24 (.mv (.t 7)), eI 25 (.call 16 [(.t 23), (.t 24)]), qI 7 (.mv (.t 25))])
  (.seq (.seq (.region [2, 3, 4, 27] [qI 26 (.mv (.t 7)), qI 27 (.bin .lss .other (.t 26) (.c (.int .i64 0)))])
  (.cond (.t 27) (.seq (.region [6] [qI 6 (.mv (.c (.bool true)))])
  .ret) .skip))
  (.seq (.draw [2, 3, 4, 8] [] [qD 28 (.load true 3 (.t 3)) 0, qD 30 (.load true 3 (.t 4)) 2, qD 32 (.mv (.t 2)) 4, eD 29 (.call 18 [(.t 28)]) 1 [2], eD 31 (.call 18 [(.t 30)]) 3 [], eD 33 (.call 19 [(.t 32)]) 5 [], eD 34 (.call 17 [(.t 29), (.t 31), (.t 33)]) 6 [], qD 8 (.mv (.t 34)) 7])
  (.seq (.region [2, 3, 4, 8, 9] [qI 35 (.load true 3 (.t 3)), eI 36 (.call 18 [(.t 35)]), eI 9 (.alloc [(.int .i64 0), .nils, .nils]), nI (.store 3 (.t 9) (.t 36))])
  (.seq (.region [2, 3, 4, 8, 9, 10] [qI 37 (.load true 3 (.t 4)), eI 38 (.call 18 [(.t 37)]), eI 10 (.alloc [(.int .i64 0), .nils, .nils]), nI (.store 3 (.t 10) (.t 38))])
  (.seq (.region [2, 3, 4, 8, 9, 10, 11] [qI 39 (.mv (.t 2)), eI 40 (.call 19 [(.t 39)]), qI 11 (.mv (.t 40))])
  (.seq (.region [2, 3, 4, 8, 9, 10, 11, 12] [qI 41 (.load true 3 (.t 9)), qI 42 (.load true 3 (.t 10)), qI 43 (.mv (.t 11)), eI 44 (.call 20 [(.t 41), (.t 42), (.t 43)]), qI 12 (.mv (.t 44))])
  (.seq (.seq (.region [2, 3, 4, 9, 10, 11, 47] [qI 45 (.mv (.t 12)), qI 46 (.mv (.t 8)), qI 47 (.bin .neq .bool (.t 45) (.t 46))])
  (.cond (.t 47) (.seq (.region [6] [qI 6 (.mv (.c (.bool false)))])
  .ret) .skip))
  (.seq (.seq (.draw [2, 4, 10, 11, 52] [] [qD 48 (.load true 3 (.t 9)) 0, qD 49 (.load true 3 (.t 3)) 1, eD 50 (.call 18 [(.t 49)]) 2 [0], eD 51 (.call 21 [(.t 48), (.t 50)]) 3 [], qD 52 (.un .not (.t 51)) 4])
  (.cond (.t 52) (.seq (.region [6] [qI 6 (.mv (.c (.bool false)))])
  .ret) .skip))
  (.seq (.seq (.draw [2, 11, 57] [] [qD 53 (.load true 3 (.t 10)) 0, qD 54 (.load true 3 (.t 4)) 1, eD 55 (.call 18 [(.t 54)]) 2 [0], eD 56 (.call 21 [(.t 53), (.t 55)]) 3 [], qD 57 (.un .not (.t 56)) 4])
  (.cond (.t 57) (.seq (.region [6] [qI 6 (.mv (.c (.bool false)))])
  .ret) .skip))
  (.seq (.seq (.region [62] [qI 58 (.mv (.t 11)), qI 59 (.mv (.t 2)), eI 60 (.call 19 [(.t 59)]), eI 61 (.call 22 [(.t 58), (.t 60)]), qI 62 (.un .not (.t 61))])
  (.cond (.t 62) (.seq (.region [6] [qI 6 (.mv (.c (.bool false)))])
  .ret) .skip))
  (.seq (.region [6] [qI 6 (.mv (.c (.bool true)))])
  .ret))))))))))))))))))⟩
theorem cf3 : cF Try.prog Try.f3 = some if3 := by kernel_rfl

/-- loop.example/g01076/laws.FnExactIsLazard -/
def if4 : IFn := ⟨[0], [(.tmp 2)], (.seq (.region [1] [eI 1 (.box (.t 0)), qI 2 (.mv (.c (.bool false)))])
  (.seq (.region [1, 3] [qI 3 (.mv (.c (.int .i64 1048576)))])
  (.seq (.region [1, 3] [qI 7 (.load true 3 (.t 1)), qI 8 (.mv (.t 3)), eI 9 (.call 15 [(.t 7), (.t 8)]), qI 3 (.mv (.t 9))])
  (.seq (.seq (.region [1, 11] [qI 10 (.mv (.t 3)), qI 11 (.bin .lss .other (.t 10) (.c (.int .i64 0)))])
  (.cond (.t 11) (.seq (.region [2] [qI 2 (.mv (.c (.bool true)))])
  .ret) .skip))
  (.seq (.region [1, 4] [qI 12 (.load true 3 (.t 1)), eI 13 (.call 18 [(.t 12)]), eI 14 (.call 23 [(.t 13)]), qI 4 (.mv (.t 14))])
  (.seq (.region [1, 4, 5] [qI 15 (.load true 3 (.t 1)), eI 16 (.call 18 [(.t 15)]), eI 5 (.alloc [(.int .i64 0), .nils, .nils]), nI (.store 3 (.t 5) (.t 16))])
  (.seq (.region [1, 4, 5, 6] [qI 17 (.load true 3 (.t 5)), eI 18 (.call 24 [(.t 17)]), qI 6 (.mv (.t 18))])
  (.seq (.seq (.region [1, 5, 21] [qI 19 (.mv (.t 6)), qI 20 (.mv (.t 4)), qI 21 (.bin .neq .bool (.t 19) (.t 20))])
  (.cond (.t 21) (.seq (.region [2] [qI 2 (.mv (.c (.bool false)))])
  .ret) .skip))
  (.seq (.seq (.draw [26] [] [qD 22 (.load true 3 (.t 5)) 0, qD 23 (.load true 3 (.t 1)) 1, eD 24 (.call 18 [(.t 23)]) 2 [0], eD 25 (.call 21 [(.t 22), (.t 24)]) 3 [], qD 26 (.un .not (.t 25)) 4])
  (.cond (.t 26) (.seq (.region [2] [qI 2 (.mv (.c (.bool false)))])
  .ret) .skip))
  (.seq (.region [2] [qI 2 (.mv (.c (.bool true)))])
  .ret))))))))))⟩
theorem cf4 : cF Try.prog Try.f4 = some if4 := by kernel_rfl

end Go.Proofs
