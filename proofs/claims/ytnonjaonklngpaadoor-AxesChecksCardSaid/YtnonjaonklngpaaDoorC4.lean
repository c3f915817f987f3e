/- A part of the proof: an abstract reading of the model, contracts of functions. -/
import Derived.Test.YtnonjaonklngpaaDoorC3
import Derived.Test.YtnonjaonklngpaaDoorProg
namespace Go.Abs.A09
open Go Go.Abs Go.Proofs
set_option maxRecDepth 100000
set_option linter.unusedVariables false
/-- abugida/axes.Scalar -/
def ac25 : AC := (.ghost (.keep [0, 1])
  (.seq (.reg [⟨some 2, .box (.v 0), none, []⟩,
    ⟨some 4, .alloc [.int .i64 0, .int .i64 0], none, []⟩])
  (.ghost (.keep [1, 2, 4]) (.seq (.seq (.reg [⟨some 8, .load true 1 (.v 2), none, []⟩,
    ⟨some 9, .mov (.v 1), none, []⟩,
    ⟨some 10, .len false (.v 9), none, [1]⟩,
    ⟨some 11, .call 23 [.v 8, .v 10], none, [0, 2]⟩,
    ⟨some 12, .un .not (.v 11), none, [3]⟩,
    ⟨some 13, .mov (.v 12), none, [4, 3]⟩,
    ⟨some 14, .mov (.v 1), some (13, false), [5]⟩,
    ⟨some 15, .call 60 [.v 14], some (13, false), [6, 5, 5]⟩,
    ⟨some 16, .un .not (.v 15), some (13, false), [7, 5]⟩,
    ⟨some 17, .pick (.v 13) (.c (.bool true)) (.v 16), none, [5, 8]⟩])
  (.ghost (.keep [1, 2, 4, 17]) (.cond (.v 17)
  (.seq (.reg [⟨some 18, .build [.int .i64 0, .int .i64 0] [(0, 1, .c (.int .i64 0)), (1, 1, .c (.int .i64 1))], none, []⟩,
    ⟨none, .store 2 (.v 4) (.v 18), none, [0, 0]⟩])
  (.ghost (.keep [4]) .ret))
  .skip)))
  (.ghost (.keep [1, 2, 4]) (.seq (.reg [⟨some 19, .build [.int .i64 0, .int .i64 0] [(0, 1, .c (.int .i64 1)), (1, 1, .c (.int .i64 1))], none, []⟩,
    ⟨some 5, .alloc [.int .i64 0, .int .i64 0], none, []⟩,
    ⟨none, .store 2 (.v 5) (.v 19), none, [1, 0, 0, 1]⟩])
  (.ghost (.keep [1, 2, 4, 5]) (.seq (.seq (.reg [⟨some 20, .faddr 0 (.v 2), none, []⟩,
    ⟨some 21, .load false 1 (.v 20), none, [0]⟩,
    ⟨some 22, .mov (.v 1), none, []⟩,
    ⟨some 23, .call 61 [.v 21, .v 22], none, [1, 2]⟩])
  (.ghost (.keep [4, 5, 23]) (.block 0 (.rfun (.v 23) [24, 25] [6, 7, 24, 25, 26, 27, 28, 29, 30, 31, 32, 33]
  (.seq (.reg [⟨some 6, .alloc [.int .i64 0, .int .i64 0, .int .i64 0], none, []⟩,
    ⟨none, .store 3 (.v 6) (.v 24), none, [0, 0]⟩])
  (.ghost (.keep [4, 5, 6, 23, 25]) (.reg [⟨some 7, .mov (.v 25), none, []⟩])))
  (.ghost (.keep [4, 5, 6, 7, 23]) (.block 1 (.draw [⟨⟨some 27, .load true 2 (.v 5), none, []⟩, [28, 29, 30], [30], [], [], 0⟩,
    ⟨⟨some 28, .load true 3 (.v 6), none, []⟩, [27, 29], [], [], [0], 2⟩,
    ⟨⟨some 29, .mov (.v 7), none, []⟩, [27, 28], [], [], [0, 1], 2⟩,
    ⟨⟨some 30, .call 62 [.v 28, .v 29], none, [1, 2]⟩, [27], [], [30], [0], 1⟩,
    ⟨⟨some 31, .call 38 [.v 27, .v 30], none, [0, 3, 3]⟩, [], [], [31], [], 1⟩,
    ⟨⟨some 26, .mov (.v 31), none, [4]⟩, [], [], [], [], 2⟩,
    ⟨⟨some 32, .ext (.v 26) 0, none, [5]⟩, [33], [], [], [], 2⟩,
    ⟨⟨some 33, .ext (.v 26) 1, none, [5]⟩, [32], [5], [], [6], 2⟩,
    ⟨⟨none, .store 2 (.v 5) (.v 32), none, [6, 4, 0, 1, 2, 3, 4, 5, 6]⟩, [33], [], [5], [7], 1⟩])))))))
  (.ghost (.keep [4, 5]) (.seq (.reg [⟨some 34, .load true 2 (.v 5), none, []⟩,
    ⟨none, .store 2 (.v 4) (.v 34), none, [0, 0]⟩])
  (.ghost (.keep [4]) .ret)))))))))))
theorem fn25 : factOf Tryd.prog 25 = some (ac25.strip, [.cell 4 true 2], 35) := by kernel_rfl
theorem ok25 : ac25.okAll = true := by kernel_rfl

/-- abugida/abugidaref09.Scalar -/
def ac26 : AC := (.ghost (.keep [0, 1])
  (.seq (.reg [⟨some 2, .box (.v 0), none, []⟩,
    ⟨some 4, .alloc [.int .i64 0, .int .i64 0], none, []⟩])
  (.ghost (.keep [1, 2, 4]) (.seq (.reg [⟨some 9, .load true 1 (.v 2), none, []⟩,
    ⟨some 10, .mov (.v 1), none, []⟩,
    ⟨some 11, .len false (.v 10), none, [1]⟩,
    ⟨some 12, .call 24 [.v 9, .v 11], none, [0, 2]⟩,
    ⟨some 5, .mov (.v 12), none, [3, 3, 0, 1, 2, 3]⟩])
  (.ghost (.keep [1, 2, 4, 5]) (.seq (.reg [⟨some 13, .mov (.v 1), none, []⟩,
    ⟨some 14, .call 63 [.v 13], none, [0]⟩,
    ⟨some 6, .mov (.v 14), none, [1, 1, 0, 1]⟩])
  (.ghost (.keep [1, 2, 4, 5, 6]) (.seq (.seq (.reg [⟨some 15, .mov (.v 5), none, []⟩,
    ⟨some 16, .un .not (.v 15), none, [0]⟩,
    ⟨some 17, .mov (.v 16), none, [1]⟩,
    ⟨some 18, .mov (.v 6), some (17, false), [2]⟩,
    ⟨some 19, .un .not (.v 18), some (17, false), [3, 2]⟩,
    ⟨some 20, .pick (.v 17) (.c (.bool true)) (.v 19), none, [2, 4]⟩])
  (.ghost (.keep [1, 2, 4, 20]) (.cond (.v 20)
  (.seq (.reg [⟨some 21, .build [.int .i64 0, .int .i64 0] [(0, 1, .c (.int .i64 0)), (1, 1, .c (.int .i64 1))], none, []⟩,
    ⟨none, .store 2 (.v 4) (.v 21), none, [0, 0]⟩])
  (.ghost (.keep [4]) .ret))
  .skip)))
  (.ghost (.keep [1, 2, 4]) (.seq (.reg [⟨some 22, .build [.int .i64 0, .int .i64 0] [(0, 1, .c (.int .i64 1)), (1, 1, .c (.int .i64 1))], none, []⟩,
    ⟨some 7, .alloc [.int .i64 0, .int .i64 0], none, []⟩,
    ⟨none, .store 2 (.v 7) (.v 22), none, [1, 0, 0, 1]⟩])
  (.ghost (.keep [1, 2, 4, 7]) (.seq (.seq (.reg [⟨some 8, .mov (.c (.int .i64 0)), none, []⟩])
  (.ghost (.keep [1, 2, 4, 7, 8]) (.block 0 (.loop (.ghost (.keep [1, 2, 4, 7, 8]) (.seq (.seq (.reg [⟨some 23, .mov (.v 8), none, []⟩,
    ⟨some 24, .mov (.v 1), none, []⟩,
    ⟨some 25, .len false (.v 24), none, [1]⟩,
    ⟨some 26, .bin .lss (.v 23) (.v 25), none, [0, 2]⟩])
  (.ghost (.keep [1, 2, 4, 7, 8, 26]) (.cond (.v 26)
  .skip
  (.exit 0))))
  (.ghost (.keep [1, 2, 4, 7, 8]) (.seq (.block 1 (.draw [⟨⟨some 30, .load true 2 (.v 7), none, []⟩, [31, 32, 33, 34, 35, 36, 37, 38, 39, 40], [40], [], [], 0⟩,
    ⟨⟨some 31, .faddr 0 (.v 2), none, []⟩, [30, 33, 36, 37, 38, 39], [], [], [0], 2⟩,
    ⟨⟨some 32, .load false 1 (.v 31), none, [1]⟩, [30, 33, 36, 37, 38, 39], [], [], [0], 2⟩,
    ⟨⟨some 33, .mov (.v 8), none, []⟩, [30, 31, 32, 36, 37, 38, 39], [], [], [0, 1, 2], 2⟩,
    ⟨⟨some 34, .iaddr 3 (.v 32) (.v 33), none, [2, 3]⟩, [30, 36, 37, 38, 39], [], [], [0], 2⟩,
    ⟨⟨some 35, .load true 3 (.v 34), none, [4]⟩, [30, 36, 37, 38, 39], [], [], [0], 2⟩,
    ⟨⟨some 36, .mov (.v 1), none, []⟩, [30, 31, 32, 33, 34, 35, 37], [], [], [0, 1, 2, 3, 4, 5], 2⟩,
    ⟨⟨some 37, .mov (.v 8), none, []⟩, [30, 31, 32, 33, 34, 35, 36], [], [], [0, 1, 2, 3, 4, 5, 6], 2⟩,
    ⟨⟨some 38, .iaddr 1 (.v 36) (.v 37), none, [6, 7]⟩, [30, 31, 32, 33, 34, 35], [], [], [0, 1, 2, 3, 4, 5], 2⟩,
    ⟨⟨some 39, .load false 1 (.v 38), none, [8]⟩, [30, 31, 32, 33, 34, 35], [], [], [0, 1, 2, 3, 4, 5], 2⟩,
    ⟨⟨some 40, .call 65 [.v 35, .v 39], none, [5, 9]⟩, [30], [], [40], [0], 1⟩,
    ⟨⟨some 41, .call 64 [.v 30, .v 40], none, [0, 10, 10]⟩, [], [], [41], [], 1⟩,
    ⟨⟨some 29, .mov (.v 41), none, [11]⟩, [], [], [], [], 2⟩,
    ⟨⟨some 42, .ext (.v 29) 0, none, [12]⟩, [43], [], [], [], 2⟩,
    ⟨⟨some 43, .ext (.v 29) 1, none, [12]⟩, [42], [7], [], [13], 2⟩,
    ⟨⟨none, .store 2 (.v 7) (.v 42), none, [13, 11, 0, 1, 2, 3, 4, 5, 6, 7, 8, 9, 10, 11, 12, 13]⟩, [43], [], [7], [14], 1⟩]))
  (.ghost (.keep [1, 2, 4, 7, 8]) (.reg [⟨some 27, .mov (.v 8), none, []⟩,
    ⟨some 28, .bin .add (.v 27) (.c (.int .i64 1)), none, [0]⟩,
    ⟨some 8, .mov (.v 28), none, [1, 0, 1]⟩]))))))))))
  (.ghost (.keep [4, 7]) (.seq (.reg [⟨some 44, .load true 2 (.v 7), none, []⟩,
    ⟨none, .store 2 (.v 4) (.v 44), none, [0, 0]⟩])
  (.ghost (.keep [4]) .ret)))))))))))))))
theorem fn26 : factOf Tryd.prog 26 = some (ac26.strip, [.cell 4 true 2], 45) := by kernel_rfl
theorem ok26 : ac26.okAll = true := by kernel_rfl

/-- abugida/axes.Sum -/
def ac29 : AC := (.ghost (.keep [0, 1, 2, 3])
  (.seq (.reg [⟨some 8, .mov (.c (.int .i64 0)), none, []⟩,
    ⟨some 9, .mov (.c (.bool false)), none, [0]⟩])
  (.ghost (.keep [0, 1, 2, 3]) (.seq (.reg [⟨some 17, .mov (.v 0), none, []⟩,
    ⟨some 18, .build [.int .i64 0, .int .i64 0] [(0, 1, .c (.int .i64 1)), (1, 1, .c (.int .i64 1))], none, []⟩,
    ⟨some 19, .call 66 [.v 17, .v 18], none, [0, 1]⟩,
    ⟨some 16, .mov (.v 19), none, [2]⟩,
    ⟨some 20, .ext (.v 16) 0, none, [3]⟩,
    ⟨some 21, .ext (.v 16) 1, none, [3]⟩,
    ⟨some 10, .mov (.v 20), none, [4, 2, 0, 1, 2, 3, 4]⟩,
    ⟨some 11, .mov (.v 21), none, [5, 6, 0, 1, 2, 3, 4, 5, 6]⟩])
  (.ghost (.keep [1, 2, 3, 10, 11]) (.seq (.seq (.reg [⟨some 22, .mov (.v 11), none, []⟩,
    ⟨some 23, .un .not (.v 22), none, [0]⟩,
    ⟨some 24, .mov (.v 23), none, [1]⟩,
    ⟨some 25, .mov (.v 3), some (24, false), [2]⟩,
    ⟨some 26, .call 60 [.v 25], some (24, false), [3, 2, 2]⟩,
    ⟨some 27, .un .not (.v 26), some (24, false), [4, 2]⟩,
    ⟨some 28, .pick (.v 24) (.c (.bool true)) (.v 27), none, [2, 5]⟩,
    ⟨some 29, .mov (.v 28), none, [6, 4]⟩,
    ⟨some 30, .mov (.v 1), some (29, false), [7]⟩,
    ⟨some 31, .len false (.v 30), some (29, false), [8, 7]⟩,
    ⟨some 32, .bin .gtr (.v 31) (.c (.int .i64 8)), some (29, false), [9, 7]⟩,
    ⟨some 33, .pick (.v 29) (.c (.bool true)) (.v 32), none, [7, 10]⟩])
  (.ghost (.keep [1, 2, 3, 10, 33]) (.cond (.v 33)
  (.seq (.reg [⟨some 8, .mov (.c (.int .i64 0)), none, []⟩,
    ⟨some 9, .mov (.c (.bool false)), none, [0, 0]⟩])
  (.ghost (.keep [8, 9]) .ret))
  .skip)))
  (.ghost (.keep [1, 2, 3, 10]) (.seq (.seq (.reg [⟨some 34, .mov (.v 1), none, []⟩,
    ⟨some 35, .len false (.v 34), none, [0]⟩,
    ⟨some 36, .mov (.c (.int .i64 0)), none, []⟩])
  (.ghost (.keep [2, 3, 10, 34, 35, 36]) (.block 0 (.loop (.ghost (.keep [2, 3, 10, 34, 35, 36]) (.seq (.reg [⟨some 37, .bin .lss (.v 36) (.v 35), none, []⟩])
  (.ghost (.keep [2, 3, 10, 34, 35, 36, 37]) (.seq (.cond (.v 37)
  .skip
  (.exit 0))
  (.ghost (.keep [2, 3, 10, 34, 35, 36]) (.seq (.block 1 (.seq (.reg [⟨some 38, .iaddr 2 (.v 34) (.v 36), none, []⟩,
    ⟨some 39, .load true 2 (.v 38), none, [0]⟩,
    ⟨some 13, .alloc [.int .i64 0, .int .i64 0], none, []⟩,
    ⟨none, .store 2 (.v 13) (.v 39), none, [2, 1, 0, 1, 2]⟩])
  (.ghost (.keep [2, 3, 10, 13, 34, 35, 36]) (.seq (.seq (.reg [⟨some 40, .faddr 0 (.v 13), none, []⟩,
    ⟨some 41, .load false 1 (.v 40), none, [0]⟩,
    ⟨some 42, .bin .lss (.v 41) (.c (.int .i64 0)), none, [1]⟩,
    ⟨some 43, .mov (.v 42), none, [2]⟩,
    ⟨some 44, .faddr 0 (.v 13), some (43, false), [3]⟩,
    ⟨some 45, .load false 1 (.v 44), some (43, false), [4, 3]⟩,
    ⟨some 46, .mov (.v 2), some (43, false), [3]⟩,
    ⟨some 47, .len false (.v 46), some (43, false), [6, 3]⟩,
    ⟨some 48, .bin .geq (.v 45) (.v 47), some (43, false), [5, 7, 3]⟩,
    ⟨some 49, .pick (.v 43) (.c (.bool true)) (.v 48), none, [3, 8]⟩,
    ⟨some 50, .mov (.v 49), none, [9, 3]⟩,
    ⟨some 51, .mov (.v 2), some (50, false), [10]⟩,
    ⟨some 52, .faddr 0 (.v 13), some (50, false), [10]⟩,
    ⟨some 53, .load false 1 (.v 52), some (50, false), [12, 10]⟩,
    ⟨some 54, .iaddr 1 (.v 51) (.v 53), some (50, false), [11, 13, 10]⟩,
    ⟨some 55, .load true 1 (.v 54), some (50, false), [14, 10]⟩,
    ⟨some 56, .mov (.v 3), some (50, false), [10]⟩,
    ⟨some 57, .len false (.v 56), some (50, false), [16, 10]⟩,
    ⟨some 58, .call 23 [.v 55, .v 57], some (50, false), [15, 17, 10, 10]⟩,
    ⟨some 59, .un .not (.v 58), some (50, false), [18, 10]⟩,
    ⟨some 60, .pick (.v 50) (.c (.bool true)) (.v 59), none, [10, 19]⟩])
  (.ghost (.keep [2, 3, 10, 13, 34, 35, 36, 60]) (.cond (.v 60)
  (.seq (.reg [⟨some 8, .mov (.c (.int .i64 0)), none, []⟩,
    ⟨some 9, .mov (.c (.bool false)), none, [0, 0]⟩])
  (.ghost (.keep [8, 9]) .ret))
  .skip)))
  (.ghost (.keep [2, 3, 10, 13, 34, 35, 36]) (.seq (.draw [⟨⟨some 62, .faddr 1 (.v 13), none, []⟩, [64, 65, 66, 67, 68, 69, 70], [70], [], [], 2⟩,
    ⟨⟨some 63, .load false 1 (.v 62), none, [0]⟩, [64, 65, 66, 67, 68, 69, 70], [70], [], [], 0⟩,
    ⟨⟨some 64, .mov (.v 2), none, []⟩, [62, 63, 65, 66, 69], [], [], [0, 1], 2⟩,
    ⟨⟨some 65, .faddr 0 (.v 13), none, []⟩, [62, 63, 64, 69], [], [], [0, 1, 2], 2⟩,
    ⟨⟨some 66, .load false 1 (.v 65), none, [3]⟩, [62, 63, 64, 69], [], [], [0, 1, 2], 2⟩,
    ⟨⟨some 67, .iaddr 1 (.v 64) (.v 66), none, [2, 4]⟩, [62, 63, 69], [], [], [0, 1], 2⟩,
    ⟨⟨some 68, .load true 1 (.v 67), none, [5]⟩, [62, 63, 69], [], [], [0, 1], 2⟩,
    ⟨⟨some 69, .mov (.v 3), none, []⟩, [62, 63, 64, 65, 66, 67, 68], [], [], [0, 1, 2, 3, 4, 5, 6], 2⟩,
    ⟨⟨some 70, .call 25 [.v 68, .v 69], none, [6, 7]⟩, [62, 63], [], [70], [0, 1], 1⟩,
    ⟨⟨some 71, .call 66 [.v 63, .v 70], none, [1, 8, 8]⟩, [], [], [71], [], 1⟩,
    ⟨⟨some 61, .mov (.v 71), none, [9]⟩, [], [], [], [], 2⟩,
    ⟨⟨some 72, .ext (.v 61) 0, none, [10]⟩, [73], [], [], [], 2⟩,
    ⟨⟨some 73, .ext (.v 61) 1, none, [10]⟩, [14, 72], [], [], [11], 2⟩,
    ⟨⟨some 14, .mov (.v 72), none, [11, 9, 0, 1, 2, 3, 4, 5, 6, 7, 8, 9, 10, 11]⟩, [73], [], [], [12], 2⟩,
    ⟨⟨some 15, .mov (.v 73), none, [12, 13, 0, 1, 2, 3, 4, 5, 6, 7, 8, 9, 10, 11, 12, 13]⟩, [], [], [], [], 2⟩])
  (.ghost (.keep [2, 3, 10, 14, 15, 34, 35, 36]) (.seq (.seq (.reg [⟨some 74, .mov (.v 15), none, []⟩,
    ⟨some 75, .un .not (.v 74), none, [0]⟩])
  (.ghost (.keep [2, 3, 10, 14, 34, 35, 36, 75]) (.cond (.v 75)
  (.seq (.reg [⟨some 8, .mov (.c (.int .i64 0)), none, []⟩,
    ⟨some 9, .mov (.c (.bool false)), none, [0, 0]⟩])
  (.ghost (.keep [8, 9]) .ret))
  .skip)))
  (.ghost (.keep [2, 3, 10, 14, 34, 35, 36]) (.reg [⟨some 76, .mov (.v 10), none, []⟩,
    ⟨some 77, .mov (.v 14), none, []⟩,
    ⟨some 78, .bin .add (.v 76) (.v 77), none, [0, 1]⟩,
    ⟨some 10, .mov (.v 78), none, [2, 0, 1, 2]⟩]))))))))))
  (.ghost (.keep [2, 3, 10, 34, 35, 36]) (.reg [⟨some 79, .bin .add (.v 36) (.c (.int .i64 1)), none, []⟩,
    ⟨some 36, .mov (.v 79), none, [0]⟩]))))))))))))
  (.ghost (.keep [10]) (.seq (.reg [⟨some 80, .mov (.v 10), none, []⟩,
    ⟨some 8, .mov (.v 80), none, [0, 0]⟩,
    ⟨some 9, .mov (.c (.bool true)), none, [1, 0, 1]⟩])
  (.ghost (.keep [8, 9]) .ret)))))))))))
theorem fn29 : factOf Tryd.prog 29 = some (ac29.strip, [.tmp 8, .tmp 9], 81) := by kernel_rfl
theorem ok29 : ac29.okAll = true := by kernel_rfl

/-- abugida/abugidaref09.Sum -/
def ac30 : AC := (.ghost (.keep [0, 1, 2, 3])
  (.seq (.reg [⟨some 8, .mov (.c (.int .i64 0)), none, []⟩,
    ⟨some 9, .mov (.c (.bool false)), none, [0]⟩])
  (.ghost (.keep [0, 1, 2, 3]) (.seq (.reg [⟨some 18, .mov (.v 0), none, []⟩,
    ⟨some 19, .call 67 [.v 18], none, [0]⟩,
    ⟨some 10, .mov (.v 19), none, [1, 1, 0, 1]⟩])
  (.ghost (.keep [0, 1, 2, 3, 10]) (.seq (.reg [⟨some 20, .mov (.v 3), none, []⟩,
    ⟨some 21, .call 63 [.v 20], none, [0]⟩,
    ⟨some 11, .mov (.v 21), none, [1, 1, 0, 1]⟩])
  (.ghost (.keep [0, 1, 2, 3, 10, 11]) (.seq (.seq (.reg [⟨some 22, .mov (.v 10), none, []⟩,
    ⟨some 23, .un .not (.v 22), none, [0]⟩,
    ⟨some 24, .mov (.v 23), none, [1]⟩,
    ⟨some 25, .mov (.v 11), some (24, false), [2]⟩,
    ⟨some 26, .un .not (.v 25), some (24, false), [3, 2]⟩,
    ⟨some 27, .pick (.v 24) (.c (.bool true)) (.v 26), none, [2, 4]⟩,
    ⟨some 28, .mov (.v 27), none, [5, 2]⟩,
    ⟨some 29, .mov (.v 1), some (28, false), [6]⟩,
    ⟨some 30, .len false (.v 29), some (28, false), [7, 6]⟩,
    ⟨some 31, .bin .gtr (.v 30) (.c (.int .i64 8)), some (28, false), [8, 6]⟩,
    ⟨some 32, .pick (.v 28) (.c (.bool true)) (.v 31), none, [6, 9]⟩])
  (.ghost (.keep [0, 1, 2, 3, 32]) (.cond (.v 32)
  (.seq (.reg [⟨some 8, .mov (.c (.int .i64 0)), none, []⟩,
    ⟨some 9, .mov (.c (.bool false)), none, [0, 0]⟩])
  (.ghost (.keep [8, 9]) .ret))
  .skip)))
  (.ghost (.keep [0, 1, 2, 3]) (.seq (.reg [⟨some 33, .mov (.v 0), none, []⟩,
    ⟨some 34, .bin .mul (.c (.int .i64 64)) (.v 33), none, [0]⟩,
    ⟨some 12, .mov (.v 34), none, [1, 0, 1]⟩])
  (.ghost (.keep [1, 2, 3, 12]) (.seq (.seq (.reg [⟨some 13, .mov (.c (.int .i64 0)), none, []⟩])
  (.ghost (.keep [1, 2, 3, 12, 13]) (.block 0 (.loop (.ghost (.keep [1, 2, 3, 12, 13]) (.seq (.seq (.reg [⟨some 35, .mov (.v 13), none, []⟩,
    ⟨some 36, .mov (.v 1), none, []⟩,
    ⟨some 37, .len false (.v 36), none, [1]⟩,
    ⟨some 38, .bin .lss (.v 35) (.v 37), none, [0, 2]⟩])
  (.ghost (.keep [1, 2, 3, 12, 13, 38]) (.cond (.v 38)
  .skip
  (.exit 0))))
  (.ghost (.keep [1, 2, 3, 12, 13]) (.seq (.block 1 (.seq (.seq (.reg [⟨some 41, .mov (.v 1), none, []⟩,
    ⟨some 42, .mov (.v 13), none, []⟩,
    ⟨some 43, .iaddr 2 (.v 41) (.v 42), none, [0, 1]⟩,
    ⟨some 44, .faddr 0 (.v 43), none, [2]⟩,
    ⟨some 45, .load false 1 (.v 44), none, [3]⟩,
    ⟨some 46, .bin .lss (.v 45) (.c (.int .i64 0)), none, [4]⟩,
    ⟨some 47, .mov (.v 46), none, [5]⟩,
    ⟨some 48, .mov (.v 1), some (47, false), [6]⟩,
    ⟨some 49, .mov (.v 13), some (47, false), [6]⟩,
    ⟨some 50, .iaddr 2 (.v 48) (.v 49), some (47, false), [7, 8, 6]⟩,
    ⟨some 51, .faddr 0 (.v 50), some (47, false), [9, 6]⟩,
    ⟨some 52, .load false 1 (.v 51), some (47, false), [10, 6]⟩,
    ⟨some 53, .mov (.v 2), some (47, false), [6]⟩,
    ⟨some 54, .len false (.v 53), some (47, false), [12, 6]⟩,
    ⟨some 55, .bin .geq (.v 52) (.v 54), some (47, false), [11, 13, 6]⟩,
    ⟨some 56, .pick (.v 47) (.c (.bool true)) (.v 55), none, [6, 14]⟩])
  (.ghost (.keep [1, 2, 3, 12, 13, 56]) (.cond (.v 56)
  (.seq (.reg [⟨some 8, .mov (.c (.int .i64 0)), none, []⟩,
    ⟨some 9, .mov (.c (.bool false)), none, [0, 0]⟩])
  (.ghost (.keep [8, 9]) .ret))
  .skip)))
  (.ghost (.keep [1, 2, 3, 12, 13]) (.seq (.reg [⟨some 57, .mov (.v 2), none, []⟩,
    ⟨some 58, .mov (.v 1), none, []⟩,
    ⟨some 59, .mov (.v 13), none, []⟩,
    ⟨some 60, .iaddr 2 (.v 58) (.v 59), none, [1, 2]⟩,
    ⟨some 61, .faddr 0 (.v 60), none, [3]⟩,
    ⟨some 62, .load false 1 (.v 61), none, [4]⟩,
    ⟨some 63, .iaddr 1 (.v 57) (.v 62), none, [0, 5]⟩,
    ⟨some 64, .load true 1 (.v 63), none, [6]⟩,
    ⟨some 14, .alloc [.nsl], none, []⟩,
    ⟨none, .store 1 (.v 14) (.v 64), none, [8, 7, 0, 1, 2, 3, 4, 5, 6, 7, 8]⟩])
  (.ghost (.keep [1, 2, 3, 12, 13, 14]) (.seq (.reg [⟨some 65, .load true 1 (.v 14), none, []⟩,
    ⟨some 66, .mov (.v 3), none, []⟩,
    ⟨some 67, .len false (.v 66), none, [1]⟩,
    ⟨some 68, .call 24 [.v 65, .v 67], none, [0, 2]⟩,
    ⟨some 15, .mov (.v 68), none, [3, 3, 0, 1, 2, 3]⟩])
  (.ghost (.keep [1, 2, 3, 12, 13, 14, 15]) (.seq (.draw [⟨⟨some 70, .mov (.v 1), none, []⟩, [71, 75, 76, 77], [77], [], [], 2⟩,
    ⟨⟨some 71, .mov (.v 13), none, []⟩, [70, 75, 76, 77], [77], [], [0], 2⟩,
    ⟨⟨some 72, .iaddr 2 (.v 70) (.v 71), none, [0, 1]⟩, [75, 76, 77], [77], [], [], 2⟩,
    ⟨⟨some 73, .faddr 1 (.v 72), none, [2]⟩, [75, 76, 77], [77], [], [], 2⟩,
    ⟨⟨some 74, .load false 1 (.v 73), none, [3]⟩, [75, 76, 77], [77], [], [], 0⟩,
    ⟨⟨some 75, .load true 1 (.v 14), none, []⟩, [70, 71, 72, 73, 74, 76], [], [], [0, 1, 2, 3, 4], 2⟩,
    ⟨⟨some 76, .mov (.v 3), none, []⟩, [70, 71, 72, 73, 74, 75], [], [], [0, 1, 2, 3, 4, 5], 2⟩,
    ⟨⟨some 77, .call 26 [.v 75, .v 76], none, [5, 6]⟩, [70, 71, 72, 73, 74], [], [77], [0, 1, 2, 3, 4], 1⟩,
    ⟨⟨some 78, .call 68 [.v 74, .v 77], none, [4, 7, 7]⟩, [], [], [78], [], 1⟩,
    ⟨⟨some 69, .mov (.v 78), none, [8]⟩, [], [], [], [], 2⟩,
    ⟨⟨some 79, .ext (.v 69) 0, none, [9]⟩, [80], [], [], [], 2⟩,
    ⟨⟨some 80, .ext (.v 69) 1, none, [9]⟩, [16, 79], [], [], [10], 2⟩,
    ⟨⟨some 16, .mov (.v 79), none, [10, 8, 0, 1, 2, 3, 4, 5, 6, 7, 8, 9, 10]⟩, [80], [], [], [11], 2⟩,
    ⟨⟨some 17, .mov (.v 80), none, [11, 12, 0, 1, 2, 3, 4, 5, 6, 7, 8, 9, 10, 11, 12]⟩, [], [], [], [], 2⟩])
  (.ghost (.keep [1, 2, 3, 12, 13, 15, 16, 17]) (.seq (.seq (.reg [⟨some 81, .mov (.v 15), none, []⟩,
    ⟨some 82, .un .not (.v 81), none, [0]⟩,
    ⟨some 83, .mov (.v 82), none, [1]⟩,
    ⟨some 84, .mov (.v 17), some (83, false), [2]⟩,
    ⟨some 85, .un .not (.v 84), some (83, false), [3, 2]⟩,
    ⟨some 86, .pick (.v 83) (.c (.bool true)) (.v 85), none, [2, 4]⟩])
  (.ghost (.keep [1, 2, 3, 12, 13, 16, 86]) (.cond (.v 86)
  (.seq (.reg [⟨some 8, .mov (.c (.int .i64 0)), none, []⟩,
    ⟨some 9, .mov (.c (.bool false)), none, [0, 0]⟩])
  (.ghost (.keep [8, 9]) .ret))
  .skip)))
  (.ghost (.keep [1, 2, 3, 12, 13, 16]) (.reg [⟨some 87, .mov (.v 12), none, []⟩,
    ⟨some 88, .mov (.v 16), none, []⟩,
    ⟨some 89, .bin .add (.v 87) (.v 88), none, [0, 1]⟩,
    ⟨some 12, .mov (.v 89), none, [2, 0, 1, 2]⟩]))))))))))))
  (.ghost (.keep [1, 2, 3, 12, 13]) (.reg [⟨some 39, .mov (.v 13), none, []⟩,
    ⟨some 40, .bin .add (.v 39) (.c (.int .i64 1)), none, [0]⟩,
    ⟨some 13, .mov (.v 40), none, [1, 0, 1]⟩]))))))))))
  (.ghost (.keep [12]) (.seq (.reg [⟨some 90, .mov (.v 12), none, []⟩,
    ⟨some 8, .mov (.v 90), none, [0, 0]⟩,
    ⟨some 9, .mov (.c (.bool true)), none, [1, 0, 1]⟩])
  (.ghost (.keep [8, 9]) .ret)))))))))))))))
theorem fn30 : factOf Tryd.prog 30 = some (ac30.strip, [.tmp 8, .tmp 9], 91) := by kernel_rfl
theorem ok30 : ac30.okAll = true := by kernel_rfl

/-- abugida/axes.Within -/
def ac34 : AC := (.ghost (.keep [0, 1])
  (.seq (.reg [⟨some 4, .alloc [.bool false], none, []⟩])
  (.ghost (.keep [0, 1, 4]) (.seq (.seq (.reg [⟨some 7, .mov (.v 1), none, []⟩,
    ⟨some 8, .mov (.v 0), none, []⟩,
    ⟨some 9, .len false (.v 8), none, [1]⟩,
    ⟨some 10, .call 32 [.v 7, .v 9], none, [0, 2]⟩,
    ⟨some 11, .un .not (.v 10), none, [3]⟩])
  (.ghost (.keep [0, 1, 4, 11]) (.cond (.v 11)
  (.seq (.reg [⟨none, .store 1 (.v 4) (.c (.bool false)), none, []⟩])
  (.ghost (.keep [4]) .ret))
  .skip)))
  (.ghost (.keep [0, 1, 4]) (.seq (.seq (.reg [⟨some 12, .mov (.v 0), none, []⟩,
    ⟨some 13, .mov (.v 1), none, []⟩,
    ⟨some 14, .call 71 [.v 12, .v 13], none, [0, 1]⟩])
  (.ghost (.keep [4, 14]) (.block 0 (.rfun (.v 14) [15, 16] [5, 6, 15, 16, 17, 18, 19, 20, 21, 22, 23, 24, 25, 26]
  (.seq (.reg [⟨some 5, .mov (.v 15), none, []⟩])
  (.ghost (.keep [4, 5, 14, 16]) (.reg [⟨some 6, .alloc [.int .i64 0, .int .i64 0], none, []⟩,
    ⟨none, .store 2 (.v 6) (.v 16), none, [0, 0]⟩])))
  (.ghost (.keep [4, 5, 6, 14]) (.block 1 (.seq (.reg [⟨some 17, .mov (.v 5), none, []⟩,
    ⟨some 18, .iaddrA 1 2 (.v 6) (.c (.int .i64 0)), none, []⟩,
    ⟨some 19, .load false 1 (.v 18), none, [1]⟩,
    ⟨some 20, .bin .lss (.v 17) (.v 19), none, [0, 2]⟩,
    ⟨some 21, .mov (.v 20), none, [3]⟩,
    ⟨some 22, .mov (.v 5), some (21, false), [4]⟩,
    ⟨some 23, .iaddrA 1 2 (.v 6) (.c (.int .i64 1)), some (21, false), [4]⟩,
    ⟨some 24, .load false 1 (.v 23), some (21, false), [6, 4]⟩,
    ⟨some 25, .bin .gtr (.v 22) (.v 24), some (21, false), [5, 7, 4]⟩,
    ⟨some 26, .pick (.v 21) (.c (.bool true)) (.v 25), none, [4, 8]⟩])
  (.ghost (.keep [4, 14, 26]) (.cond (.v 26)
  (.seq (.reg [⟨none, .store 1 (.v 4) (.c (.bool false)), none, []⟩])
  (.ghost (.keep [4]) .ret))
  .skip)))))))))
  (.ghost (.keep [4]) (.seq (.reg [⟨none, .store 1 (.v 4) (.c (.bool true)), none, []⟩])
  (.ghost (.keep [4]) .ret)))))))))
theorem fn34 : factOf Tryd.prog 34 = some (ac34.strip, [.cell 4 false 1], 27) := by kernel_rfl
theorem ok34 : ac34.okAll = true := by kernel_rfl

/-- abugida/abugidaref09.Within -/
def ac35 : AC := (.ghost (.keep [0, 1])
  (.seq (.reg [⟨some 4, .mov (.c (.bool false)), none, []⟩])
  (.ghost (.keep [0, 1]) (.seq (.reg [⟨some 7, .mov (.v 1), none, []⟩,
    ⟨some 8, .mov (.v 0), none, []⟩,
    ⟨some 9, .len false (.v 8), none, [1]⟩,
    ⟨some 10, .call 33 [.v 7, .v 9], none, [0, 2]⟩,
    ⟨some 5, .mov (.v 10), none, [3, 3, 0, 1, 2, 3]⟩])
  (.ghost (.keep [0, 1, 5]) (.seq (.seq (.reg [⟨some 11, .mov (.v 5), none, []⟩,
    ⟨some 12, .un .not (.v 11), none, [0]⟩])
  (.ghost (.keep [0, 1, 12]) (.cond (.v 12)
  (.seq (.reg [⟨some 4, .mov (.c (.bool false)), none, []⟩])
  (.ghost (.keep [4]) .ret))
  .skip)))
  (.ghost (.keep [0, 1]) (.seq (.seq (.reg [⟨some 6, .mov (.c (.int .i64 0)), none, []⟩])
  (.ghost (.keep [0, 1, 6]) (.block 0 (.loop (.ghost (.keep [0, 1, 6]) (.seq (.seq (.reg [⟨some 13, .mov (.v 6), none, []⟩,
    ⟨some 14, .mov (.v 0), none, []⟩,
    ⟨some 15, .len false (.v 14), none, [1]⟩,
    ⟨some 16, .bin .lss (.v 13) (.v 15), none, [0, 2]⟩])
  (.ghost (.keep [0, 1, 6, 16]) (.cond (.v 16)
  .skip
  (.exit 0))))
  (.ghost (.keep [0, 1, 6]) (.seq (.block 1 (.seq (.draw [⟨⟨some 19, .mov (.v 0), none, []⟩, [20, 23, 24, 25, 26, 27], [], [], [], 2⟩,
    ⟨⟨some 20, .mov (.v 6), none, []⟩, [19, 23, 24, 25, 26, 27], [], [], [0], 2⟩,
    ⟨⟨some 21, .iaddr 1 (.v 19) (.v 20), none, [0, 1]⟩, [23, 24, 25, 26, 27], [], [], [], 2⟩,
    ⟨⟨some 22, .load false 1 (.v 21), none, [2]⟩, [23, 24, 25, 26, 27], [], [], [], 2⟩,
    ⟨⟨some 23, .mov (.v 1), none, []⟩, [19, 20, 21, 22, 24], [], [], [0, 1, 2, 3], 2⟩,
    ⟨⟨some 24, .mov (.v 6), none, []⟩, [19, 20, 21, 22, 23], [], [], [0, 1, 2, 3, 4], 2⟩,
    ⟨⟨some 25, .iaddr 2 (.v 23) (.v 24), none, [4, 5]⟩, [19, 20, 21, 22], [], [], [0, 1, 2, 3], 2⟩,
    ⟨⟨some 26, .iaddrA 1 2 (.v 25) (.c (.int .i64 0)), none, [6]⟩, [19, 20, 21, 22], [], [], [0, 1, 2, 3], 2⟩,
    ⟨⟨some 27, .load false 1 (.v 26), none, [7]⟩, [19, 20, 21, 22], [], [], [0, 1, 2, 3], 2⟩,
    ⟨⟨some 28, .bin .lss (.v 22) (.v 27), none, [3, 8]⟩, [], [], [], [], 2⟩,
    ⟨⟨some 29, .mov (.v 28), none, [9]⟩, [], [], [], [], 2⟩,
    ⟨⟨some 30, .mov (.v 0), some (29, false), [10]⟩, [31, 34, 35, 36, 37, 38], [], [], [], 2⟩,
    ⟨⟨some 31, .mov (.v 6), some (29, false), [10]⟩, [30, 34, 35, 36, 37, 38], [], [], [11], 2⟩,
    ⟨⟨some 32, .iaddr 1 (.v 30) (.v 31), some (29, false), [11, 12, 10]⟩, [34, 35, 36, 37, 38], [], [], [], 2⟩,
    ⟨⟨some 33, .load false 1 (.v 32), some (29, false), [13, 10]⟩, [34, 35, 36, 37, 38], [], [], [], 2⟩,
    ⟨⟨some 34, .mov (.v 1), some (29, false), [10]⟩, [30, 31, 32, 33, 35], [], [], [11, 12, 13, 14], 2⟩,
    ⟨⟨some 35, .mov (.v 6), some (29, false), [10]⟩, [30, 31, 32, 33, 34], [], [], [11, 12, 13, 14, 15], 2⟩,
    ⟨⟨some 36, .iaddr 2 (.v 34) (.v 35), some (29, false), [15, 16, 10]⟩, [30, 31, 32, 33], [], [], [11, 12, 13, 14], 2⟩,
    ⟨⟨some 37, .iaddrA 1 2 (.v 36) (.c (.int .i64 1)), some (29, false), [17, 10]⟩, [30, 31, 32, 33], [], [], [11, 12, 13, 14], 2⟩,
    ⟨⟨some 38, .load false 1 (.v 37), some (29, false), [18, 10]⟩, [30, 31, 32, 33], [], [], [11, 12, 13, 14], 2⟩,
    ⟨⟨some 39, .bin .gtr (.v 33) (.v 38), some (29, false), [14, 19, 10]⟩, [], [], [], [], 2⟩,
    ⟨⟨some 40, .pick (.v 29) (.c (.bool true)) (.v 39), none, [10, 20]⟩, [], [], [], [], 2⟩])
  (.ghost (.keep [0, 1, 6, 40]) (.cond (.v 40)
  (.seq (.reg [⟨some 4, .mov (.c (.bool false)), none, []⟩])
  (.ghost (.keep [4]) .ret))
  .skip))))
  (.ghost (.keep [0, 1, 6]) (.reg [⟨some 17, .mov (.v 6), none, []⟩,
    ⟨some 18, .bin .add (.v 17) (.c (.int .i64 1)), none, [0]⟩,
    ⟨some 6, .mov (.v 18), none, [1, 0, 1]⟩]))))))))))
  (.ghost (.keep []) (.seq (.reg [⟨some 4, .mov (.c (.bool true)), none, []⟩])
  (.ghost (.keep [4]) .ret)))))))))))
theorem fn35 : factOf Tryd.prog 35 = some (ac35.strip, [.tmp 4], 41) := by kernel_rfl
theorem ok35 : ac35.okAll = true := by kernel_rfl

/-- abugida/axes.Touches -/
def ac36 : AC := (.ghost (.keep [0, 1])
  (.seq (.reg [⟨some 2, .box (.v 0), none, []⟩,
    ⟨some 4, .alloc [.bool false], none, []⟩])
  (.ghost (.keep [1, 2, 4]) (.seq (.seq (.reg [⟨some 9, .mov (.v 1), none, []⟩,
    ⟨some 10, .mov (.v 1), none, []⟩,
    ⟨some 11, .len false (.v 10), none, [1]⟩,
    ⟨some 12, .call 32 [.v 9, .v 11], none, [0, 2]⟩,
    ⟨some 13, .un .not (.v 12), none, [3]⟩,
    ⟨some 14, .mov (.v 13), none, [4, 3]⟩,
    ⟨some 15, .load true 1 (.v 2), some (14, false), [5]⟩,
    ⟨some 16, .mov (.v 1), some (14, false), [5]⟩,
    ⟨some 17, .len false (.v 16), some (14, false), [7, 5]⟩,
    ⟨some 18, .call 23 [.v 15, .v 17], some (14, false), [6, 8, 5, 5]⟩,
    ⟨some 19, .un .not (.v 18), some (14, false), [9, 5]⟩,
    ⟨some 20, .pick (.v 14) (.c (.bool true)) (.v 19), none, [5, 10]⟩])
  (.ghost (.keep [1, 2, 4, 20]) (.cond (.v 20)
  (.seq (.reg [⟨none, .store 1 (.v 4) (.c (.bool false)), none, []⟩])
  (.ghost (.keep [4]) .ret))
  .skip)))
  (.ghost (.keep [1, 2, 4]) (.seq (.seq (.reg [⟨some 21, .faddr 0 (.v 2), none, []⟩,
    ⟨some 22, .load false 1 (.v 21), none, [0]⟩,
    ⟨some 23, .mov (.v 1), none, []⟩,
    ⟨some 24, .call 72 [.v 22, .v 23], none, [1, 2]⟩])
  (.ghost (.keep [4, 24]) (.block 0 (.rfun (.v 24) [25, 26] [5, 6, 7, 8, 25, 26, 27, 28, 29, 30, 31, 32, 33, 34, 35, 36, 37, 38, 39, 40, 41, 42, 43, 44, 45, 46, 47, 48, 49, 50, 51, 52, 53]
  (.seq (.reg [⟨some 5, .alloc [.int .i64 0, .int .i64 0, .int .i64 0], none, []⟩,
    ⟨none, .store 3 (.v 5) (.v 25), none, [0, 0]⟩])
  (.ghost (.keep [4, 5, 24, 26]) (.reg [⟨some 6, .alloc [.int .i64 0, .int .i64 0], none, []⟩,
    ⟨none, .store 2 (.v 6) (.v 26), none, [0, 0]⟩])))
  (.ghost (.keep [4, 5, 6, 24]) (.block 1 (.seq (.draw [⟨⟨some 27, .faddr 0 (.v 5), none, []⟩, [30, 31, 33, 34, 35, 36, 37, 38], [], [], [], 2⟩,
    ⟨⟨some 28, .load false 1 (.v 27), none, [0]⟩, [30, 31, 33, 34, 35, 36, 37, 38], [], [], [], 2⟩,
    ⟨⟨some 29, .bin .add (.v 28) (.c (.int .i64 1)), none, [1]⟩, [30, 31, 33, 34, 35, 36, 37, 38], [], [], [], 2⟩,
    ⟨⟨some 30, .faddr 1 (.v 5), none, []⟩, [27, 28, 29, 33, 34, 35, 36, 37, 38], [], [], [0, 1, 2], 2⟩,
    ⟨⟨some 31, .load false 1 (.v 30), none, [3]⟩, [27, 28, 29, 33, 34, 35, 36, 37, 38], [], [], [0, 1, 2], 2⟩,
    ⟨⟨some 32, .mm false (.v 29) (.v 31), none, [2, 4]⟩, [33, 34, 35, 36, 37, 38], [], [], [], 2⟩,
    ⟨⟨some 33, .faddr 2 (.v 5), none, []⟩, [7, 27, 28, 29, 30, 31, 32, 36, 37], [], [], [0, 1, 2, 3, 4, 5], 2⟩,
    ⟨⟨some 34, .load false 1 (.v 33), none, [6]⟩, [7, 27, 28, 29, 30, 31, 32, 36, 37], [], [], [0, 1, 2, 3, 4, 5], 2⟩,
    ⟨⟨some 35, .bin .sub (.v 34) (.c (.int .i64 1)), none, [7]⟩, [7, 27, 28, 29, 30, 31, 32, 36, 37], [], [], [0, 1, 2, 3, 4, 5], 2⟩,
    ⟨⟨some 36, .faddr 1 (.v 5), none, []⟩, [7, 27, 28, 29, 30, 31, 32, 33, 34, 35], [], [], [0, 1, 2, 3, 4, 5, 6, 7, 8], 2⟩,
    ⟨⟨some 37, .load false 1 (.v 36), none, [9]⟩, [7, 27, 28, 29, 30, 31, 32, 33, 34, 35], [], [], [0, 1, 2, 3, 4, 5, 6, 7, 8], 2⟩,
    ⟨⟨some 38, .mm true (.v 35) (.v 37), none, [8, 10]⟩, [7, 27, 28, 29, 30, 31, 32], [], [], [0, 1, 2, 3, 4, 5], 2⟩,
    ⟨⟨some 7, .mov (.v 32), none, [5, 0, 1, 2, 3, 4, 5]⟩, [33, 34, 35, 36, 37, 38], [], [], [6, 7, 8, 9, 10, 11], 2⟩,
    ⟨⟨some 8, .mov (.v 38), none, [11, 12, 0, 1, 2, 3, 4, 5, 6, 7, 8, 9, 10, 11, 12]⟩, [], [], [], [], 2⟩])
  (.ghost (.keep [4, 5, 6, 7, 8, 24]) (.seq (.reg [⟨some 39, .faddr 1 (.v 5), none, []⟩,
    ⟨some 40, .load false 1 (.v 39), none, [0]⟩,
    ⟨some 41, .bin .neq (.v 40) (.c (.int .i64 0)), none, [1]⟩,
    ⟨some 42, .mov (.v 41), none, [2]⟩,
    ⟨some 43, .iaddrA 1 2 (.v 6) (.c (.int .i64 1)), some (42, true), [3]⟩,
    ⟨some 44, .load false 1 (.v 43), some (42, true), [4, 3]⟩,
    ⟨some 45, .mov (.v 7), some (42, true), [3]⟩,
    ⟨some 46, .bin .lss (.v 44) (.v 45), some (42, true), [5, 6, 3]⟩,
    ⟨some 47, .mov (.v 46), some (42, true), [7, 3, 3]⟩,
    ⟨some 48, .iaddrA 1 2 (.v 6) (.c (.int .i64 0)), some (47, false), [8]⟩,
    ⟨some 49, .load false 1 (.v 48), some (47, false), [9, 8]⟩,
    ⟨some 50, .mov (.v 8), some (47, false), [8]⟩,
    ⟨some 51, .bin .gtr (.v 49) (.v 50), some (47, false), [10, 11, 8]⟩,
    ⟨some 52, .pick (.v 47) (.c (.bool true)) (.v 51), some (42, true), [8, 12, 3]⟩,
    ⟨some 53, .pick (.v 42) (.v 52) (.c (.bool false)), none, [3, 13]⟩])
  (.ghost (.keep [4, 24, 53]) (.cond (.v 53)
  (.seq (.reg [⟨none, .store 1 (.v 4) (.c (.bool false)), none, []⟩])
  (.ghost (.keep [4]) .ret))
  .skip)))))))))))
  (.ghost (.keep [4]) (.seq (.reg [⟨none, .store 1 (.v 4) (.c (.bool true)), none, []⟩])
  (.ghost (.keep [4]) .ret)))))))))
theorem fn36 : factOf Tryd.prog 36 = some (ac36.strip, [.cell 4 false 1], 54) := by kernel_rfl
theorem ok36 : ac36.okAll = true := by kernel_rfl

/-- abugida/abugidaref09.Touches -/
def ac37 : AC := (.ghost (.keep [0, 1])
  (.seq (.reg [⟨some 2, .box (.v 0), none, []⟩,
    ⟨some 4, .mov (.c (.bool false)), none, []⟩])
  (.ghost (.keep [1, 2]) (.seq (.reg [⟨some 10, .mov (.v 1), none, []⟩,
    ⟨some 11, .mov (.v 1), none, []⟩,
    ⟨some 12, .len false (.v 11), none, [1]⟩,
    ⟨some 13, .call 33 [.v 10, .v 12], none, [0, 2]⟩,
    ⟨some 5, .mov (.v 13), none, [3, 3, 0, 1, 2, 3]⟩])
  (.ghost (.keep [1, 2, 5]) (.seq (.reg [⟨some 14, .load true 1 (.v 2), none, []⟩,
    ⟨some 15, .mov (.v 1), none, []⟩,
    ⟨some 16, .len false (.v 15), none, [1]⟩,
    ⟨some 17, .call 24 [.v 14, .v 16], none, [0, 2]⟩,
    ⟨some 6, .mov (.v 17), none, [3, 3, 0, 1, 2, 3]⟩])
  (.ghost (.keep [1, 2, 5, 6]) (.seq (.seq (.reg [⟨some 18, .mov (.v 5), none, []⟩,
    ⟨some 19, .un .not (.v 18), none, [0]⟩,
    ⟨some 20, .mov (.v 19), none, [1]⟩,
    ⟨some 21, .mov (.v 6), some (20, false), [2]⟩,
    ⟨some 22, .un .not (.v 21), some (20, false), [3, 2]⟩,
    ⟨some 23, .pick (.v 20) (.c (.bool true)) (.v 22), none, [2, 4]⟩])
  (.ghost (.keep [1, 2, 23]) (.cond (.v 23)
  (.seq (.reg [⟨some 4, .mov (.c (.bool false)), none, []⟩])
  (.ghost (.keep [4]) .ret))
  .skip)))
  (.ghost (.keep [1, 2]) (.seq (.seq (.reg [⟨some 7, .mov (.c (.int .i64 0)), none, []⟩])
  (.ghost (.keep [1, 2, 7]) (.block 0 (.loop (.ghost (.keep [1, 2, 7]) (.seq (.seq (.reg [⟨some 24, .mov (.v 7), none, []⟩,
    ⟨some 25, .mov (.v 1), none, []⟩,
    ⟨some 26, .len false (.v 25), none, [1]⟩,
    ⟨some 27, .bin .lss (.v 24) (.v 26), none, [0, 2]⟩])
  (.ghost (.keep [1, 2, 7, 27]) (.cond (.v 27)
  .skip
  (.exit 0))))
  (.ghost (.keep [1, 2, 7]) (.seq (.block 1 (.seq (.reg [⟨some 8, .mov (.c (.bool false)), none, []⟩])
  (.ghost (.keep [1, 2, 7, 8]) (.seq (.seq (.reg [⟨some 30, .mov (.v 1), none, []⟩,
    ⟨some 31, .mov (.v 7), none, []⟩,
    ⟨some 32, .iaddr 2 (.v 30) (.v 31), none, [0, 1]⟩,
    ⟨some 33, .iaddrA 1 2 (.v 32) (.c (.int .i64 0)), none, [2]⟩,
    ⟨some 34, .load false 1 (.v 33), none, [3]⟩,
    ⟨some 9, .mov (.v 34), none, [4, 0, 1, 2, 3, 4]⟩])
  (.ghost (.keep [1, 2, 7, 8, 9]) (.block 2 (.loop (.ghost (.keep [1, 2, 7, 8, 9]) (.seq (.seq (.reg [⟨some 35, .mov (.v 9), none, []⟩,
    ⟨some 36, .mov (.v 1), none, []⟩,
    ⟨some 37, .mov (.v 7), none, []⟩,
    ⟨some 38, .iaddr 2 (.v 36) (.v 37), none, [1, 2]⟩,
    ⟨some 39, .iaddrA 1 2 (.v 38) (.c (.int .i64 1)), none, [3]⟩,
    ⟨some 40, .load false 1 (.v 39), none, [4]⟩,
    ⟨some 41, .bin .leq (.v 35) (.v 40), none, [0, 5]⟩])
  (.ghost (.keep [1, 2, 7, 8, 9, 41]) (.cond (.v 41)
  .skip
  (.exit 2))))
  (.ghost (.keep [1, 2, 7, 8, 9]) (.seq (.block 3 (.reg [⟨some 44, .mov (.v 8), none, []⟩,
    ⟨some 45, .mov (.v 44), none, [0]⟩,
    ⟨some 46, .faddr 0 (.v 2), some (45, false), [1]⟩,
    ⟨some 47, .load false 1 (.v 46), some (45, false), [2, 1]⟩,
    ⟨some 48, .mov (.v 7), some (45, false), [1]⟩,
    ⟨some 49, .iaddr 3 (.v 47) (.v 48), some (45, false), [3, 4, 1]⟩,
    ⟨some 50, .load true 3 (.v 49), some (45, false), [5, 1]⟩,
    ⟨some 51, .mov (.v 9), some (45, false), [1]⟩,
    ⟨some 52, .call 65 [.v 50, .v 51], some (45, false), [6, 7, 1, 1]⟩,
    ⟨some 53, .field 0 false 1 (.v 52), some (45, false), [8, 1]⟩,
    ⟨some 54, .bin .gtr (.v 53) (.c (.int .i64 0)), some (45, false), [9, 1]⟩,
    ⟨some 55, .pick (.v 45) (.c (.bool true)) (.v 54), none, [1, 10]⟩,
    ⟨some 8, .mov (.v 55), none, [11, 8, 0, 1, 2, 3, 4, 5, 6, 7, 8, 9, 10, 11]⟩]))
  (.ghost (.keep [1, 2, 7, 8, 9]) (.reg [⟨some 42, .mov (.v 9), none, []⟩,
    ⟨some 43, .bin .add (.v 42) (.c (.int .i64 1)), none, [0]⟩,
    ⟨some 9, .mov (.v 43), none, [1, 0, 1]⟩]))))))))))
  (.ghost (.keep [1, 2, 7, 8]) (.seq (.reg [⟨some 56, .mov (.v 8), none, []⟩,
    ⟨some 57, .un .not (.v 56), none, [0]⟩])
  (.ghost (.keep [1, 2, 7, 57]) (.cond (.v 57)
  (.seq (.reg [⟨some 4, .mov (.c (.bool false)), none, []⟩])
  (.ghost (.keep [4]) .ret))
  .skip))))))))
  (.ghost (.keep [1, 2, 7]) (.reg [⟨some 28, .mov (.v 7), none, []⟩,
    ⟨some 29, .bin .add (.v 28) (.c (.int .i64 1)), none, [0]⟩,
    ⟨some 7, .mov (.v 29), none, [1, 0, 1]⟩]))))))))))
  (.ghost (.keep []) (.seq (.reg [⟨some 4, .mov (.c (.bool true)), none, []⟩])
  (.ghost (.keep [4]) .ret)))))))))))))
theorem fn37 : factOf Tryd.prog 37 = some (ac37.strip, [.tmp 4], 58) := by kernel_rfl
theorem ok37 : ac37.okAll = true := by kernel_rfl

/-- abugida/axes.zip[abugida/api.Tent,int] -/
def ac61 : AC := (.ghost (.keep [0, 1])
  (.seq (.reg [⟨some 2, .box (.v 0), none, []⟩,
    ⟨some 3, .box (.v 1), none, []⟩,
    ⟨some 4, .mov (.c .nfn), none, []⟩])
  (.ghost (.keep [2, 3]) (.seq (.reg [⟨some 5, .mkfn (.func 85) [] [.v 2, .v 3], none, []⟩,
    ⟨some 4, .mov (.v 5), none, [0, 0]⟩])
  (.ghost (.keep [4]) .ret)))))
theorem fn61 : factOf Tryd.prog 61 = some (ac61.strip, [.tmp 4], 6) := by kernel_rfl
theorem ok61 : ac61.okAll = true := by kernel_rfl

/-- abugida/axes.strength -/
def ac62 : AC := (.ghost (.keep [0, 1])
  (.seq (.reg [⟨some 2, .box (.v 0), none, []⟩,
    ⟨some 4, .alloc [.int .i64 0, .int .i64 0], none, []⟩])
  (.ghost (.keep [1, 2, 4]) (.seq (.reg [⟨some 7, .build [.int .i64 0, .int .i64 0] [(0, 1, .c (.int .i64 0)), (1, 1, .c (.int .i64 1))], none, []⟩,
    ⟨some 5, .alloc [.int .i64 0, .int .i64 0], none, []⟩,
    ⟨none, .store 2 (.v 5) (.v 7), none, [1, 0, 0, 1]⟩])
  (.ghost (.keep [1, 2, 4, 5]) (.seq (.block 0 (.seq (.seq (.reg [⟨some 19, .faddr 1 (.v 2), none, []⟩,
    ⟨some 20, .load false 1 (.v 19), none, [0]⟩,
    ⟨some 21, .bin .eql (.v 20) (.c (.int .i64 0)), none, [1]⟩,
    ⟨some 18, .mov (.v 21), none, [2]⟩])
  (.ghost (.keep [1, 2, 4, 5, 18]) (.cond (.v 18)
  .skip
  (.reg [⟨some 22, .mov (.v 1), none, []⟩,
    ⟨some 23, .faddr 1 (.v 2), none, []⟩,
    ⟨some 24, .load false 1 (.v 23), none, [1]⟩,
    ⟨some 25, .bin .eql (.v 22) (.v 24), none, [0, 2]⟩,
    ⟨some 18, .mov (.v 25), none, [3]⟩]))))
  (.ghost (.keep [1, 2, 4, 5, 18]) (.cond (.v 18)
  (.reg [⟨some 26, .faddr 0 (.v 5), none, []⟩,
    ⟨none, .store 1 (.v 26) (.c (.int .i64 1)), none, [0]⟩])
  (.seq (.seq (.reg [⟨some 28, .mov (.v 1), none, []⟩,
    ⟨some 29, .faddr 0 (.v 2), none, []⟩,
    ⟨some 30, .load false 1 (.v 29), none, [1]⟩,
    ⟨some 31, .bin .leq (.v 28) (.v 30), none, [0, 2]⟩,
    ⟨some 27, .mov (.v 31), none, [3]⟩])
  (.ghost (.keep [1, 2, 4, 5, 27]) (.cond (.v 27)
  .skip
  (.reg [⟨some 32, .mov (.v 1), none, []⟩,
    ⟨some 33, .faddr 2 (.v 2), none, []⟩,
    ⟨some 34, .load false 1 (.v 33), none, [1]⟩,
    ⟨some 35, .bin .geq (.v 32) (.v 34), none, [0, 2]⟩,
    ⟨some 27, .mov (.v 35), none, [3]⟩]))))
  (.ghost (.keep [1, 2, 4, 5, 27]) (.cond (.v 27)
  .skip
  (.seq (.reg [⟨some 37, .mov (.v 1), none, []⟩,
    ⟨some 38, .faddr 1 (.v 2), none, []⟩,
    ⟨some 39, .load false 1 (.v 38), none, [1]⟩,
    ⟨some 40, .bin .lss (.v 37) (.v 39), none, [0, 2]⟩,
    ⟨some 36, .mov (.v 40), none, [3]⟩])
  (.ghost (.keep [1, 2, 4, 5, 36]) (.cond (.v 36)
  (.reg [⟨some 41, .mov (.v 1), none, []⟩,
    ⟨some 42, .faddr 0 (.v 2), none, []⟩,
    ⟨some 43, .load false 1 (.v 42), none, [1]⟩,
    ⟨some 44, .bin .sub (.v 41) (.v 43), none, [0, 2]⟩,
    ⟨some 45, .faddr 1 (.v 2), none, []⟩,
    ⟨some 46, .load false 1 (.v 45), none, [4]⟩,
    ⟨some 47, .faddr 0 (.v 2), none, []⟩,
    ⟨some 48, .load false 1 (.v 47), none, [6]⟩,
    ⟨some 49, .bin .sub (.v 46) (.v 48), none, [5, 7]⟩,
    ⟨some 50, .build [.int .i64 0, .int .i64 0] [(0, 1, .v 44), (1, 1, .v 49)], none, [3, 8]⟩,
    ⟨none, .store 2 (.v 5) (.v 50), none, [9, 0, 1, 2, 3, 4, 5, 6, 7, 8, 9]⟩])
  (.reg [⟨some 8, .faddr 2 (.v 2), none, []⟩,
    ⟨some 9, .load false 1 (.v 8), none, [0]⟩,
    ⟨some 10, .mov (.v 1), none, []⟩,
    ⟨some 11, .bin .sub (.v 9) (.v 10), none, [1, 2]⟩,
    ⟨some 12, .faddr 2 (.v 2), none, []⟩,
    ⟨some 13, .load false 1 (.v 12), none, [4]⟩,
    ⟨some 14, .faddr 1 (.v 2), none, []⟩,
    ⟨some 15, .load false 1 (.v 14), none, [6]⟩,
    ⟨some 16, .bin .sub (.v 13) (.v 15), none, [5, 7]⟩,
    ⟨some 17, .build [.int .i64 0, .int .i64 0] [(0, 1, .v 11), (1, 1, .v 16)], none, [3, 8]⟩,
    ⟨none, .store 2 (.v 5) (.v 17), none, [9, 0, 1, 2, 3, 4, 5, 6, 7, 8, 9]⟩])))))))))))
  (.ghost (.keep [4, 5]) (.seq (.reg [⟨some 51, .faddr 0 (.v 5), none, []⟩,
    ⟨some 52, .load false 1 (.v 51), none, [0]⟩,
    ⟨some 53, .faddr 1 (.v 5), none, []⟩,
    ⟨some 54, .load false 1 (.v 53), none, [2]⟩,
    ⟨some 55, .call 86 [.v 52, .v 54], none, [1, 3]⟩,
    ⟨some 6, .mov (.v 55), none, [4, 4, 0, 1, 2, 3, 4]⟩])
  (.ghost (.keep [4, 5, 6]) (.seq (.draw [⟨⟨some 56, .faddr 0 (.v 5), none, []⟩, [58, 60, 61, 62, 63], [], [], [], 2⟩,
    ⟨⟨some 57, .load false 1 (.v 56), none, [0]⟩, [58, 60, 61, 62, 63], [], [], [], 2⟩,
    ⟨⟨some 58, .mov (.v 6), none, []⟩, [56, 57, 60, 61, 62, 63], [], [], [0, 1], 2⟩,
    ⟨⟨some 59, .bin .quo (.v 57) (.v 58), none, [1, 2]⟩, [60, 61, 62, 63], [], [], [], 2⟩,
    ⟨⟨some 60, .faddr 1 (.v 5), none, []⟩, [56, 57, 58, 59, 62], [], [], [0, 1, 2, 3], 2⟩,
    ⟨⟨some 61, .load false 1 (.v 60), none, [4]⟩, [56, 57, 58, 59, 62], [], [], [0, 1, 2, 3], 2⟩,
    ⟨⟨some 62, .mov (.v 6), none, []⟩, [56, 57, 58, 59, 60, 61], [], [], [0, 1, 2, 3, 4, 5], 2⟩,
    ⟨⟨some 63, .bin .quo (.v 61) (.v 62), none, [5, 6]⟩, [56, 57, 58, 59], [], [], [0, 1, 2, 3], 2⟩,
    ⟨⟨some 64, .build [.int .i64 0, .int .i64 0] [(0, 1, .v 59), (1, 1, .v 63)], none, [3, 7]⟩, [], [], [], [], 2⟩,
    ⟨⟨none, .store 2 (.v 4) (.v 64), none, [8, 0, 1, 2, 3, 4, 5, 6, 7, 8]⟩, [], [], [4], [], 1⟩])
  (.ghost (.keep [4]) .ret)))))))))))
theorem fn62 : factOf Tryd.prog 62 = some (ac62.strip, [.cell 4 true 2], 65) := by kernel_rfl
theorem ok62 : ac62.okAll = true := by kernel_rfl

/-- abugida/abugidaref09.Coords -/
def ac63 : AC := (.ghost (.keep [0])
  (.seq (.reg [⟨some 2, .mov (.c (.bool false)), none, []⟩])
  (.ghost (.keep [0]) (.seq (.seq (.reg [⟨some 3, .mov (.c (.int .i64 0)), none, []⟩])
  (.ghost (.keep [0, 3]) (.block 0 (.loop (.ghost (.keep [0, 3]) (.seq (.seq (.reg [⟨some 5, .mov (.v 3), none, []⟩,
    ⟨some 6, .mov (.v 0), none, []⟩,
    ⟨some 7, .len false (.v 6), none, [1]⟩,
    ⟨some 8, .bin .lss (.v 5) (.v 7), none, [0, 2]⟩])
  (.ghost (.keep [0, 3, 8]) (.cond (.v 8)
  .skip
  (.exit 0))))
  (.ghost (.keep [0, 3]) (.seq (.block 1 (.seq (.reg [⟨some 11, .mov (.v 0), none, []⟩,
    ⟨some 12, .mov (.v 3), none, []⟩,
    ⟨some 13, .iaddr 1 (.v 11) (.v 12), none, [0, 1]⟩,
    ⟨some 14, .load false 1 (.v 13), none, [2]⟩,
    ⟨some 15, .call 19 [.v 14], none, [3]⟩,
    ⟨some 4, .mov (.v 15), none, [4, 4, 0, 1, 2, 3, 4]⟩])
  (.ghost (.keep [0, 3, 4]) (.seq (.reg [⟨some 16, .mov (.v 4), none, []⟩,
    ⟨some 17, .un .not (.v 16), none, [0]⟩])
  (.ghost (.keep [0, 3, 17]) (.cond (.v 17)
  (.seq (.reg [⟨some 2, .mov (.c (.bool false)), none, []⟩])
  (.ghost (.keep [2]) .ret))
  .skip))))))
  (.ghost (.keep [0, 3]) (.reg [⟨some 9, .mov (.v 3), none, []⟩,
    ⟨some 10, .bin .add (.v 9) (.c (.int .i64 1)), none, [0]⟩,
    ⟨some 3, .mov (.v 10), none, [1, 0, 1]⟩]))))))))))
  (.ghost (.keep [0]) (.seq (.reg [⟨some 18, .mov (.v 0), none, []⟩,
    ⟨some 19, .len false (.v 18), none, [0]⟩,
    ⟨some 20, .bin .leq (.v 19) (.c (.int .i64 3)), none, [1]⟩,
    ⟨some 2, .mov (.v 20), none, [2, 0, 1, 2]⟩])
  (.ghost (.keep [2]) .ret)))))))
theorem fn63 : factOf Tryd.prog 63 = some (ac63.strip, [.tmp 2], 21) := by kernel_rfl
theorem ok63 : ac63.okAll = true := by kernel_rfl

/-- abugida/abugidaref01.Times -/
def ac64 : AC := (.ghost (.keep [0, 1])
  (.seq (.reg [⟨some 2, .box (.v 0), none, []⟩,
    ⟨some 3, .box (.v 1), none, []⟩,
    ⟨some 4, .alloc [.int .i64 0, .int .i64 0], none, []⟩,
    ⟨some 5, .mov (.c (.bool false)), none, []⟩])
  (.ghost (.keep [2, 3, 4]) (.seq (.seq (.reg [⟨some 9, .load true 2 (.v 2), none, []⟩,
    ⟨some 10, .call 87 [.v 9], none, [0]⟩,
    ⟨some 11, .un .not (.v 10), none, [1]⟩,
    ⟨some 12, .mov (.v 11), none, [2, 1]⟩,
    ⟨some 13, .load true 2 (.v 3), some (12, false), [3]⟩,
    ⟨some 14, .call 87 [.v 13], some (12, false), [4, 3, 3]⟩,
    ⟨some 15, .un .not (.v 14), some (12, false), [5, 3]⟩,
    ⟨some 16, .pick (.v 12) (.c (.bool true)) (.v 15), none, [3, 6]⟩])
  (.ghost (.keep [2, 3, 4, 16]) (.cond (.v 16)
  (.seq (.reg [⟨some 17, .build [.int .i64 0, .int .i64 0] [], none, []⟩,
    ⟨none, .store 2 (.v 4) (.v 17), none, [0, 0]⟩,
    ⟨some 5, .mov (.c (.bool false)), none, [1, 0, 1]⟩])
  (.ghost (.keep [4, 5]) .ret))
  .skip)))
  (.ghost (.keep [2, 3, 4]) (.seq (.reg [⟨some 18, .faddr 0 (.v 2), none, []⟩,
    ⟨some 19, .load false 1 (.v 18), none, [0]⟩,
    ⟨some 20, .faddr 0 (.v 3), none, []⟩,
    ⟨some 21, .load false 1 (.v 20), none, [2]⟩,
    ⟨some 22, .bin .mul (.v 19) (.v 21), none, [1, 3]⟩,
    ⟨some 6, .mov (.v 22), none, [4, 0, 1, 2, 3, 4]⟩])
  (.ghost (.keep [2, 3, 4, 6]) (.seq (.reg [⟨some 23, .faddr 1 (.v 2), none, []⟩,
    ⟨some 24, .load false 1 (.v 23), none, [0]⟩,
    ⟨some 25, .faddr 1 (.v 3), none, []⟩,
    ⟨some 26, .load false 1 (.v 25), none, [2]⟩,
    ⟨some 27, .bin .mul (.v 24) (.v 26), none, [1, 3]⟩,
    ⟨some 7, .mov (.v 27), none, [4, 0, 1, 2, 3, 4]⟩])
  (.ghost (.keep [4, 6, 7]) (.seq (.reg [⟨some 28, .mov (.v 6), none, []⟩,
    ⟨some 29, .mov (.v 7), none, []⟩,
    ⟨some 30, .call 88 [.v 28, .v 29], none, [0, 1]⟩,
    ⟨some 8, .mov (.v 30), none, [2, 2, 0, 1, 2]⟩])
  (.ghost (.keep [4, 6, 7, 8]) (.seq (.seq (.reg [⟨some 31, .mov (.v 7), none, []⟩,
    ⟨some 32, .mov (.v 8), none, []⟩,
    ⟨some 33, .bin .quo (.v 31) (.v 32), none, [0, 1]⟩,
    ⟨some 34, .bin .gtr (.v 33) (.c (.int .i64 262144)), none, [2]⟩])
  (.ghost (.keep [4, 6, 7, 8, 34]) (.cond (.v 34)
  (.seq (.reg [⟨some 35, .build [.int .i64 0, .int .i64 0] [], none, []⟩,
    ⟨none, .store 2 (.v 4) (.v 35), none, [0, 0]⟩,
    ⟨some 5, .mov (.c (.bool false)), none, [1, 0, 1]⟩])
  (.ghost (.keep [4, 5]) .ret))
  .skip)))
  (.ghost (.keep [4, 6, 7, 8]) (.seq (.draw [⟨⟨some 36, .mov (.v 6), none, []⟩, [37, 39, 40, 41], [], [], [], 2⟩,
    ⟨⟨some 37, .mov (.v 8), none, []⟩, [36, 39, 40, 41], [], [], [0], 2⟩,
    ⟨⟨some 38, .bin .quo (.v 36) (.v 37), none, [0, 1]⟩, [39, 40, 41], [], [], [], 2⟩,
    ⟨⟨some 39, .mov (.v 7), none, []⟩, [36, 37, 38, 40], [], [], [0, 1, 2], 2⟩,
    ⟨⟨some 40, .mov (.v 8), none, []⟩, [36, 37, 38, 39], [], [], [0, 1, 2, 3], 2⟩,
    ⟨⟨some 41, .bin .quo (.v 39) (.v 40), none, [3, 4]⟩, [36, 37, 38], [], [], [0, 1, 2], 2⟩,
    ⟨⟨some 42, .build [.int .i64 0, .int .i64 0] [(0, 1, .v 38), (1, 1, .v 41)], none, [2, 5]⟩, [], [], [], [], 2⟩,
    ⟨⟨none, .store 2 (.v 4) (.v 42), none, [6, 0, 1, 2, 3, 4, 5, 6]⟩, [], [], [4], [], 1⟩,
    ⟨⟨some 5, .mov (.c (.bool true)), none, [7, 0, 1, 2, 3, 4, 5, 6, 7]⟩, [], [], [], [], 2⟩])
  (.ghost (.keep [4, 5]) .ret)))))))))))))))
theorem fn64 : factOf Tryd.prog 64 = some (ac64.strip, [.cell 4 true 2, .tmp 5], 43) := by kernel_rfl
theorem ok64 : ac64.okAll = true := by kernel_rfl

/-- abugida/abugidaref09.strength -/
def ac65 : AC := (.ghost (.keep [0, 1])
  (.seq (.reg [⟨some 2, .box (.v 0), none, []⟩,
    ⟨some 4, .alloc [.int .i64 0, .int .i64 0], none, []⟩])
  (.ghost (.keep [1, 2, 4]) (.seq (.reg [⟨some 5, .mov (.c (.int .i64 0)), none, []⟩])
  (.ghost (.keep [1, 2, 4]) (.seq (.reg [⟨some 6, .mov (.c (.int .i64 1)), none, []⟩])
  (.ghost (.keep [1, 2, 4, 6]) (.seq (.block 0 (.seq (.reg [⟨some 18, .faddr 1 (.v 2), none, []⟩,
    ⟨some 19, .load false 1 (.v 18), none, [0]⟩,
    ⟨some 20, .bin .eql (.v 19) (.c (.int .i64 0)), none, [1]⟩,
    ⟨some 21, .mov (.v 20), none, [2]⟩,
    ⟨some 22, .mov (.v 1), some (21, false), [3]⟩,
    ⟨some 23, .faddr 1 (.v 2), some (21, false), [3]⟩,
    ⟨some 24, .load false 1 (.v 23), some (21, false), [5, 3]⟩,
    ⟨some 25, .bin .eql (.v 22) (.v 24), some (21, false), [4, 6, 3]⟩,
    ⟨some 26, .pick (.v 21) (.c (.bool true)) (.v 25), none, [3, 7]⟩,
    ⟨some 17, .mov (.v 26), none, [8, 3]⟩])
  (.ghost (.keep [1, 2, 4, 6, 17]) (.cond (.v 17)
  (.reg [⟨some 5, .mov (.c (.int .i64 1)), none, []⟩])
  (.seq (.reg [⟨some 28, .mov (.v 1), none, []⟩,
    ⟨some 29, .faddr 0 (.v 2), none, []⟩,
    ⟨some 30, .load false 1 (.v 29), none, [1]⟩,
    ⟨some 31, .bin .leq (.v 28) (.v 30), none, [0, 2]⟩,
    ⟨some 32, .mov (.v 31), none, [3]⟩,
    ⟨some 33, .mov (.v 1), some (32, false), [4]⟩,
    ⟨some 34, .faddr 2 (.v 2), some (32, false), [4]⟩,
    ⟨some 35, .load false 1 (.v 34), some (32, false), [6, 4]⟩,
    ⟨some 36, .bin .geq (.v 33) (.v 35), some (32, false), [5, 7, 4]⟩,
    ⟨some 37, .pick (.v 32) (.c (.bool true)) (.v 36), none, [4, 8]⟩,
    ⟨some 27, .mov (.v 37), none, [9, 4]⟩])
  (.ghost (.keep [1, 2, 4, 6, 27]) (.cond (.v 27)
  (.reg [⟨some 5, .mov (.c (.int .i64 0)), none, []⟩])
  (.seq (.reg [⟨some 39, .mov (.v 1), none, []⟩,
    ⟨some 40, .faddr 1 (.v 2), none, []⟩,
    ⟨some 41, .load false 1 (.v 40), none, [1]⟩,
    ⟨some 42, .bin .lss (.v 39) (.v 41), none, [0, 2]⟩,
    ⟨some 38, .mov (.v 42), none, [3]⟩])
  (.ghost (.keep [1, 2, 4, 38]) (.cond (.v 38)
  (.seq (.reg [⟨some 43, .mov (.v 1), none, []⟩,
    ⟨some 44, .faddr 0 (.v 2), none, []⟩,
    ⟨some 45, .load false 1 (.v 44), none, [1]⟩,
    ⟨some 46, .bin .sub (.v 43) (.v 45), none, [0, 2]⟩,
    ⟨some 5, .mov (.v 46), none, [3, 0, 1, 2, 3]⟩])
  (.ghost (.keep [2, 4, 5]) (.reg [⟨some 47, .faddr 1 (.v 2), none, []⟩,
    ⟨some 48, .load false 1 (.v 47), none, [0]⟩,
    ⟨some 49, .faddr 0 (.v 2), none, []⟩,
    ⟨some 50, .load false 1 (.v 49), none, [2]⟩,
    ⟨some 51, .bin .sub (.v 48) (.v 50), none, [1, 3]⟩,
    ⟨some 6, .mov (.v 51), none, [4, 0, 1, 2, 3, 4]⟩])))
  (.seq (.reg [⟨some 8, .faddr 2 (.v 2), none, []⟩,
    ⟨some 9, .load false 1 (.v 8), none, [0]⟩,
    ⟨some 10, .mov (.v 1), none, []⟩,
    ⟨some 11, .bin .sub (.v 9) (.v 10), none, [1, 2]⟩,
    ⟨some 5, .mov (.v 11), none, [3, 0, 1, 2, 3]⟩])
  (.ghost (.keep [2, 4, 5]) (.reg [⟨some 12, .faddr 2 (.v 2), none, []⟩,
    ⟨some 13, .load false 1 (.v 12), none, [0]⟩,
    ⟨some 14, .faddr 1 (.v 2), none, []⟩,
    ⟨some 15, .load false 1 (.v 14), none, [2]⟩,
    ⟨some 16, .bin .sub (.v 13) (.v 15), none, [1, 3]⟩,
    ⟨some 6, .mov (.v 16), none, [4, 0, 1, 2, 3, 4]⟩])))))))))))))
  (.ghost (.keep [4, 5, 6]) (.seq (.reg [⟨some 52, .mov (.v 5), none, []⟩,
    ⟨some 53, .mov (.v 6), none, []⟩,
    ⟨some 54, .call 88 [.v 52, .v 53], none, [0, 1]⟩,
    ⟨some 7, .mov (.v 54), none, [2, 2, 0, 1, 2]⟩])
  (.ghost (.keep [4, 5, 6, 7]) (.seq (.draw [⟨⟨some 55, .mov (.v 5), none, []⟩, [56, 58, 59, 60], [], [], [], 2⟩,
    ⟨⟨some 56, .mov (.v 7), none, []⟩, [55, 58, 59, 60], [], [], [0], 2⟩,
    ⟨⟨some 57, .bin .quo (.v 55) (.v 56), none, [0, 1]⟩, [58, 59, 60], [], [], [], 2⟩,
    ⟨⟨some 58, .mov (.v 6), none, []⟩, [55, 56, 57, 59], [], [], [0, 1, 2], 2⟩,
    ⟨⟨some 59, .mov (.v 7), none, []⟩, [55, 56, 57, 58], [], [], [0, 1, 2, 3], 2⟩,
    ⟨⟨some 60, .bin .quo (.v 58) (.v 59), none, [3, 4]⟩, [55, 56, 57], [], [], [0, 1, 2], 2⟩,
    ⟨⟨some 61, .build [.int .i64 0, .int .i64 0] [(0, 1, .v 57), (1, 1, .v 60)], none, [2, 5]⟩, [], [], [], [], 2⟩,
    ⟨⟨none, .store 2 (.v 4) (.v 61), none, [6, 0, 1, 2, 3, 4, 5, 6]⟩, [], [], [4], [], 1⟩])
  (.ghost (.keep [4]) .ret)))))))))))))
theorem fn65 : factOf Tryd.prog 65 = some (ac65.strip, [.cell 4 true 2], 62) := by kernel_rfl
theorem ok65 : ac65.okAll = true := by kernel_rfl

/-- abugida/fix.Part -/
def ac66 : AC := (.ghost (.keep [0, 1])
  (.seq (.reg [⟨some 3, .box (.v 1), none, []⟩,
    ⟨some 4, .mov (.c (.int .i64 0)), none, []⟩,
    ⟨some 5, .mov (.c (.bool false)), none, [1]⟩])
  (.ghost (.keep [0, 3]) (.seq (.seq (.reg [⟨some 6, .mov (.v 0), none, []⟩,
    ⟨some 7, .bslice 3 1 1 [.int .i64 0] [(0, 1, .v 6)], none, [0]⟩,
    ⟨some 8, .call 53 [.v 7], none, [1]⟩,
    ⟨some 9, .un .not (.v 8), none, [2]⟩,
    ⟨some 10, .mov (.v 9), none, [3, 2]⟩,
    ⟨some 11, .load true 2 (.v 3), some (10, false), [4]⟩,
    ⟨some 12, .call 73 [.v 11], some (10, false), [5, 4, 4]⟩,
    ⟨some 13, .un .not (.v 12), some (10, false), [6, 4]⟩,
    ⟨some 14, .pick (.v 10) (.c (.bool true)) (.v 13), none, [4, 7]⟩])
  (.ghost (.keep [0, 3, 14]) (.cond (.v 14)
  (.seq (.reg [⟨some 4, .mov (.c (.int .i64 0)), none, []⟩,
    ⟨some 5, .mov (.c (.bool false)), none, [0, 0]⟩])
  (.ghost (.keep [4, 5]) .ret))
  .skip)))
  (.ghost (.keep [0, 3]) (.seq (.reg [⟨some 15, .mov (.v 0), none, []⟩,
    ⟨some 16, .bin .mul (.c (.int .i64 64)) (.v 15), none, [0]⟩,
    ⟨some 17, .faddr 0 (.v 3), none, []⟩,
    ⟨some 18, .load false 1 (.v 17), none, [2]⟩,
    ⟨some 19, .bin .mul (.v 16) (.v 18), none, [1, 3]⟩,
    ⟨some 20, .faddr 1 (.v 3), none, []⟩,
    ⟨some 21, .load false 1 (.v 20), none, [5]⟩,
    ⟨some 22, .call 54 [.v 19, .v 21], none, [4, 6]⟩,
    ⟨some 23, .ext (.v 22) 0, none, [7]⟩,
    ⟨some 24, .ext (.v 22) 1, none, [7]⟩,
    ⟨some 4, .mov (.v 23), none, [8, 7, 0, 1, 2, 3, 4, 5, 6, 7, 8, 9]⟩,
    ⟨some 5, .mov (.v 24), none, [9, 10, 0, 1, 2, 3, 4, 5, 6, 7, 8, 9, 10]⟩])
  (.ghost (.keep [4, 5]) .ret)))))))
theorem fn66 : factOf Tryd.prog 66 = some (ac66.strip, [.tmp 4, .tmp 5], 25) := by kernel_rfl
theorem ok66 : ac66.okAll = true := by kernel_rfl

/-- abugida/abugidaref01.Small -/
def ac67 : AC := (.ghost (.keep [0])
  (.seq (.reg [⟨some 2, .mov (.c (.bool false)), none, []⟩])
  (.ghost (.keep [0]) (.seq (.reg [⟨some 3, .mov (.v 0), none, []⟩,
    ⟨some 4, .bin .geq (.v 3) (.c (.int .i64 (-1048576))), none, [0]⟩,
    ⟨some 5, .mov (.v 4), none, [1]⟩,
    ⟨some 6, .mov (.v 0), some (5, true), [2]⟩,
    ⟨some 7, .bin .leq (.v 6) (.c (.int .i64 1048576)), some (5, true), [3, 2]⟩,
    ⟨some 8, .pick (.v 5) (.v 7) (.c (.bool false)), none, [2, 4]⟩,
    ⟨some 2, .mov (.v 8), none, [5, 2, 0, 1, 2, 3, 4, 5]⟩])
  (.ghost (.keep [2]) .ret)))))
theorem fn67 : factOf Tryd.prog 67 = some (ac67.strip, [.tmp 2], 9) := by kernel_rfl
theorem ok67 : ac67.okAll = true := by kernel_rfl

/-- abugida/abugidaref01.Part -/
def ac68 : AC := (.ghost (.keep [0, 1])
  (.seq (.reg [⟨some 3, .box (.v 1), none, []⟩,
    ⟨some 4, .mov (.c (.int .i64 0)), none, []⟩,
    ⟨some 5, .mov (.c (.bool false)), none, [1]⟩])
  (.ghost (.keep [0, 3]) (.seq (.seq (.reg [⟨some 6, .mov (.v 0), none, []⟩,
    ⟨some 7, .call 67 [.v 6], none, [0]⟩,
    ⟨some 8, .un .not (.v 7), none, [1]⟩,
    ⟨some 9, .mov (.v 8), none, [2, 1]⟩,
    ⟨some 10, .load true 2 (.v 3), some (9, false), [3]⟩,
    ⟨some 11, .call 87 [.v 10], some (9, false), [4, 3, 3]⟩,
    ⟨some 12, .un .not (.v 11), some (9, false), [5, 3]⟩,
    ⟨some 13, .pick (.v 9) (.c (.bool true)) (.v 12), none, [3, 6]⟩])
  (.ghost (.keep [0, 3, 13]) (.cond (.v 13)
  (.seq (.reg [⟨some 4, .mov (.c (.int .i64 0)), none, []⟩,
    ⟨some 5, .mov (.c (.bool false)), none, [0, 0]⟩])
  (.ghost (.keep [4, 5]) .ret))
  .skip)))
  (.ghost (.keep [0, 3]) (.seq (.reg [⟨some 14, .mov (.v 0), none, []⟩,
    ⟨some 15, .bin .mul (.c (.int .i64 64)) (.v 14), none, [0]⟩,
    ⟨some 16, .faddr 0 (.v 3), none, []⟩,
    ⟨some 17, .load false 1 (.v 16), none, [2]⟩,
    ⟨some 18, .bin .mul (.v 15) (.v 17), none, [1, 3]⟩,
    ⟨some 19, .faddr 1 (.v 3), none, []⟩,
    ⟨some 20, .load false 1 (.v 19), none, [5]⟩,
    ⟨some 21, .call 79 [.v 18, .v 20], none, [4, 6]⟩,
    ⟨some 22, .ext (.v 21) 0, none, [7]⟩,
    ⟨some 23, .ext (.v 21) 1, none, [7]⟩,
    ⟨some 4, .mov (.v 22), none, [8, 7, 0, 1, 2, 3, 4, 5, 6, 7, 8, 9]⟩,
    ⟨some 5, .mov (.v 23), none, [9, 10, 0, 1, 2, 3, 4, 5, 6, 7, 8, 9, 10]⟩])
  (.ghost (.keep [4, 5]) .ret)))))))
theorem fn68 : factOf Tryd.prog 68 = some (ac68.strip, [.tmp 4, .tmp 5], 24) := by kernel_rfl
theorem ok68 : ac68.okAll = true := by kernel_rfl

/-- abugida/axes.Ranges$1 -/
def ac69 : AC := (.ghost (.keep [0])
  (.seq (.reg [⟨some 1, .box (.v 0), none, []⟩,
    ⟨some 2, .mov (.c (.bool false)), none, []⟩])
  (.ghost (.keep [1]) (.seq (.reg [⟨some 3, .iaddrA 1 2 (.v 1) (.c (.int .i64 0)), none, []⟩,
    ⟨some 4, .load false 1 (.v 3), none, [0]⟩,
    ⟨some 5, .call 47 [.v 4], none, [1]⟩,
    ⟨some 6, .un .not (.v 5), none, [2]⟩,
    ⟨some 7, .mov (.v 6), none, [3, 2]⟩,
    ⟨some 8, .iaddrA 1 2 (.v 1) (.c (.int .i64 1)), some (7, false), [4]⟩,
    ⟨some 9, .load false 1 (.v 8), some (7, false), [5, 4]⟩,
    ⟨some 10, .call 47 [.v 9], some (7, false), [6, 4, 4]⟩,
    ⟨some 11, .un .not (.v 10), some (7, false), [7, 4]⟩,
    ⟨some 12, .pick (.v 7) (.c (.bool true)) (.v 11), none, [4, 8]⟩,
    ⟨some 13, .mov (.v 12), none, [9, 7]⟩,
    ⟨some 14, .iaddrA 1 2 (.v 1) (.c (.int .i64 0)), some (13, false), [10]⟩,
    ⟨some 15, .load false 1 (.v 14), some (13, false), [11, 10]⟩,
    ⟨some 16, .iaddrA 1 2 (.v 1) (.c (.int .i64 1)), some (13, false), [10]⟩,
    ⟨some 17, .load false 1 (.v 16), some (13, false), [13, 10]⟩,
    ⟨some 18, .bin .gtr (.v 15) (.v 17), some (13, false), [12, 14, 10]⟩,
    ⟨some 19, .pick (.v 13) (.c (.bool true)) (.v 18), none, [10, 15]⟩,
    ⟨some 2, .mov (.v 19), none, [16, 10, 0, 1, 2, 3, 4, 5, 6, 7, 8, 9, 10, 11, 12, 13, 14, 15, 16]⟩])
  (.ghost (.keep [2]) .ret)))))
theorem fn69 : factOf Tryd.prog 69 = some (ac69.strip, [.tmp 2], 20) := by kernel_rfl
theorem ok69 : ac69.okAll = true := by kernel_rfl

/-- slices.ContainsFunc[[][2]int,[2]int] -/
def ac70 : AC := (.ghost (.keep [0, 1])
  (.seq (.reg [⟨some 4, .mov (.c (.bool false)), none, []⟩])
  (.ghost (.keep [0, 1]) (.seq (.reg [⟨some 5, .mov (.v 0), none, []⟩,
    ⟨some 6, .mov (.v 1), none, []⟩,
    ⟨some 7, .call 89 [.v 5, .v 6], none, [0, 1]⟩,
    ⟨some 8, .bin .geq (.v 7) (.c (.int .i64 0)), none, [2]⟩,
    ⟨some 4, .mov (.v 8), none, [3, 2, 0, 1, 2, 3]⟩])
  (.ghost (.keep [4]) .ret)))))
theorem fn70 : factOf Tryd.prog 70 = some (ac70.strip, [.tmp 4], 9) := by kernel_rfl
theorem ok70 : ac70.okAll = true := by kernel_rfl

/-- abugida/axes.zip[int,[2]int] -/
def ac71 : AC := (.ghost (.keep [0, 1])
  (.seq (.reg [⟨some 2, .box (.v 0), none, []⟩,
    ⟨some 3, .box (.v 1), none, []⟩,
    ⟨some 4, .mov (.c .nfn), none, []⟩])
  (.ghost (.keep [2, 3]) (.seq (.reg [⟨some 5, .mkfn (.func 90) [] [.v 2, .v 3], none, []⟩,
    ⟨some 4, .mov (.v 5), none, [0, 0]⟩])
  (.ghost (.keep [4]) .ret)))))
theorem fn71 : factOf Tryd.prog 71 = some (ac71.strip, [.tmp 4], 6) := by kernel_rfl
theorem ok71 : ac71.okAll = true := by kernel_rfl

/-- abugida/axes.zip[abugida/api.Tent,[2]int] -/
def ac72 : AC := (.ghost (.keep [0, 1])
  (.seq (.reg [⟨some 2, .box (.v 0), none, []⟩,
    ⟨some 3, .box (.v 1), none, []⟩,
    ⟨some 4, .mov (.c .nfn), none, []⟩])
  (.ghost (.keep [2, 3]) (.seq (.reg [⟨some 5, .mkfn (.func 91) [] [.v 2, .v 3], none, []⟩,
    ⟨some 4, .mov (.v 5), none, [0, 0]⟩])
  (.ghost (.keep [4]) .ret)))))
theorem fn72 : factOf Tryd.prog 72 = some (ac72.strip, [.tmp 4], 6) := by kernel_rfl
theorem ok72 : ac72.okAll = true := by kernel_rfl

/-- abugida/fix.right -/
def ac73 : AC := (.ghost (.keep [0])
  (.seq (.reg [⟨some 1, .box (.v 0), none, []⟩,
    ⟨some 2, .mov (.c (.bool false)), none, []⟩])
  (.ghost (.keep [1]) (.seq (.reg [⟨some 3, .faddr 1 (.v 1), none, []⟩,
    ⟨some 4, .load false 1 (.v 3), none, [0]⟩,
    ⟨some 5, .bin .geq (.v 4) (.c (.int .i64 1)), none, [1]⟩,
    ⟨some 6, .mov (.v 5), none, [2]⟩,
    ⟨some 7, .faddr 1 (.v 1), some (6, true), [3]⟩,
    ⟨some 8, .load false 1 (.v 7), some (6, true), [4, 3]⟩,
    ⟨some 9, .bin .leq (.v 8) (.c (.int .i64 262144)), some (6, true), [5, 3]⟩,
    ⟨some 10, .pick (.v 6) (.v 9) (.c (.bool false)), none, [3, 6]⟩,
    ⟨some 11, .mov (.v 10), none, [7, 3]⟩,
    ⟨some 12, .faddr 0 (.v 1), some (11, true), [8]⟩,
    ⟨some 13, .load false 1 (.v 12), some (11, true), [9, 8]⟩,
    ⟨some 14, .bin .geq (.v 13) (.c (.int .i64 0)), some (11, true), [10, 8]⟩,
    ⟨some 15, .pick (.v 11) (.v 14) (.c (.bool false)), none, [8, 11]⟩,
    ⟨some 16, .mov (.v 15), none, [12, 8]⟩,
    ⟨some 17, .faddr 0 (.v 1), some (16, true), [13]⟩,
    ⟨some 18, .load false 1 (.v 17), some (16, true), [14, 13]⟩,
    ⟨some 19, .faddr 1 (.v 1), some (16, true), [13]⟩,
    ⟨some 20, .load false 1 (.v 19), some (16, true), [16, 13]⟩,
    ⟨some 21, .bin .leq (.v 18) (.v 20), some (16, true), [15, 17, 13]⟩,
    ⟨some 22, .pick (.v 16) (.v 21) (.c (.bool false)), none, [13, 18]⟩,
    ⟨some 23, .mov (.v 22), none, [19, 13]⟩,
    ⟨some 24, .faddr 0 (.v 1), some (23, true), [20]⟩,
    ⟨some 25, .load false 1 (.v 24), some (23, true), [21, 20]⟩,
    ⟨some 26, .faddr 1 (.v 1), some (23, true), [20]⟩,
    ⟨some 27, .load false 1 (.v 26), some (23, true), [23, 20]⟩,
    ⟨some 28, .call 92 [.v 25, .v 27], some (23, true), [22, 24, 20, 20]⟩,
    ⟨some 29, .bin .eql (.v 28) (.c (.int .i64 1)), some (23, true), [25, 20]⟩,
    ⟨some 30, .pick (.v 23) (.v 29) (.c (.bool false)), none, [20, 26]⟩,
    ⟨some 2, .mov (.v 30), none, [27, 25, 0, 1, 2, 3, 4, 5, 6, 7, 8, 9, 10, 11, 12, 13, 14, 15, 16, 17, 18, 19, 20, 21, 22, 23, 24, 25, 26, 27]⟩])
  (.ghost (.keep [2]) .ret)))))
theorem fn73 : factOf Tryd.prog 73 = some (ac73.strip, [.tmp 2], 31) := by kernel_rfl
theorem ok73 : ac73.okAll = true := by kernel_rfl

/-- abugida/fix.common[int64] -/
def ac74 : AC := (.ghost (.keep [0, 1])
  (.seq (.reg [⟨some 4, .mov (.c (.int .i64 0)), none, []⟩])
  (.ghost (.keep [0, 1]) (.seq (.block 0 (.loop (.ghost (.keep [0, 1]) (.seq (.seq (.reg [⟨some 5, .mov (.v 1), none, []⟩,
    ⟨some 6, .bin .gtr (.v 5) (.c (.int .i64 0)), none, [0]⟩])
  (.ghost (.keep [0, 1, 6]) (.cond (.v 6)
  .skip
  (.exit 0))))
  (.ghost (.keep [0, 1]) (.block 1 (.draw [⟨⟨some 7, .mov (.v 1), none, []⟩, [8, 9, 10], [], [], [], 2⟩,
    ⟨⟨some 8, .mov (.v 0), none, []⟩, [7, 9], [], [], [0], 2⟩,
    ⟨⟨some 9, .mov (.v 1), none, []⟩, [0, 7, 8], [], [], [0, 1], 2⟩,
    ⟨⟨some 10, .bin .rem (.v 8) (.v 9), none, [1, 2]⟩, [0, 7], [], [], [0], 2⟩,
    ⟨⟨some 0, .mov (.v 7), none, [0, 0, 1]⟩, [9, 10], [], [], [2, 3], 2⟩,
    ⟨⟨some 1, .mov (.v 10), none, [3, 4, 0, 1, 2, 3, 4]⟩, [], [], [], [], 2⟩])))))))
  (.ghost (.keep [0]) (.seq (.reg [⟨some 11, .mov (.v 0), none, []⟩,
    ⟨some 4, .mov (.v 11), none, [0, 0]⟩])
  (.ghost (.keep [4]) .ret)))))))
theorem fn74 : factOf Tryd.prog 74 = some (ac74.strip, [.tmp 4], 12) := by kernel_rfl
theorem ok74 : ac74.okAll = true := by kernel_rfl

/-- strings.Contains -/
def ac76 : AC := (.ghost (.keep [0, 1])
  (.seq (.reg [⟨some 4, .mov (.c (.bool false)), none, []⟩])
  (.ghost (.keep [0, 1]) (.seq (.reg [⟨some 5, .mov (.v 0), none, []⟩,
    ⟨some 6, .mov (.v 1), none, []⟩,
    ⟨some 7, .call 100 [.v 5, .v 6], none, [0, 1]⟩,
    ⟨some 8, .bin .geq (.v 7) (.c (.int .i64 0)), none, [2]⟩,
    ⟨some 4, .mov (.v 8), none, [3, 2, 0, 1, 2, 3]⟩])
  (.ghost (.keep [4]) .ret)))))
theorem fn76 : factOf Tryd.prog 76 = some (ac76.strip, [.tmp 4], 9) := by kernel_rfl
theorem ok76 : ac76.okAll = true := by kernel_rfl

/-- slices.Index[[][2]int,[2]int] -/
def ac77 : AC := (.ghost (.keep [0, 1])
  (.seq (.reg [⟨some 3, .box (.v 1), none, []⟩,
    ⟨some 4, .mov (.c (.int .i64 0)), none, []⟩])
  (.ghost (.keep [0, 3]) (.seq (.seq (.reg [⟨some 6, .mov (.v 0), none, []⟩,
    ⟨some 7, .len false (.v 6), none, [0]⟩,
    ⟨some 8, .mov (.c (.int .i64 0)), none, []⟩])
  (.ghost (.keep [0, 3, 7, 8]) (.block 0 (.loop (.ghost (.keep [0, 3, 7, 8]) (.seq (.reg [⟨some 9, .bin .lss (.v 8) (.v 7), none, []⟩])
  (.ghost (.keep [0, 3, 7, 8, 9]) (.seq (.cond (.v 9)
  .skip
  (.exit 0))
  (.ghost (.keep [0, 3, 7, 8]) (.seq (.block 1 (.seq (.reg [⟨some 10, .mov (.v 8), none, []⟩,
    ⟨some 5, .mov (.v 10), none, [0, 0]⟩])
  (.ghost (.keep [0, 3, 5, 7, 8]) (.seq (.draw [⟨⟨some 11, .load true 2 (.v 3), none, []⟩, [12, 13, 14, 15], [], [], [], 2⟩,
    ⟨⟨some 12, .mov (.v 0), none, []⟩, [11, 13], [], [], [0], 2⟩,
    ⟨⟨some 13, .mov (.v 5), none, []⟩, [11, 12], [], [], [0, 1], 2⟩,
    ⟨⟨some 14, .iaddr 2 (.v 12) (.v 13), none, [1, 2]⟩, [11], [], [], [0], 2⟩,
    ⟨⟨some 15, .load true 2 (.v 14), none, [3]⟩, [11], [], [], [0], 2⟩,
    ⟨⟨some 16, .eqs false 2 [(0, 1), (1, 1)] (.v 11) (.v 15), none, [0, 4]⟩, [], [], [], [], 2⟩])
  (.ghost (.keep [0, 3, 5, 7, 8, 16]) (.cond (.v 16)
  (.seq (.reg [⟨some 17, .mov (.v 5), none, []⟩,
    ⟨some 4, .mov (.v 17), none, [0, 0]⟩])
  (.ghost (.keep [4]) .ret))
  .skip))))))
  (.ghost (.keep [0, 3, 7, 8]) (.reg [⟨some 18, .bin .add (.v 8) (.c (.int .i64 1)), none, []⟩,
    ⟨some 8, .mov (.v 18), none, [0]⟩]))))))))))))
  (.ghost (.keep []) (.seq (.reg [⟨some 4, .mov (.c (.int .i64 (-1))), none, []⟩])
  (.ghost (.keep [4]) .ret)))))))
theorem fn77 : factOf Tryd.prog 77 = some (ac77.strip, [.tmp 4], 19) := by kernel_rfl
theorem ok77 : ac77.okAll = true := by kernel_rfl

/-- abugida/axes.zip[[2]int,[2]int]$1 -/
def ac78 : AY := (.ghost (.keep [0, 1, 2])
  (.seq (.reg [⟨some 5, .load false 1 (.v 1), none, []⟩,
    ⟨some 6, .len false (.v 5), none, [0]⟩,
    ⟨some 7, .load false 1 (.v 2), none, []⟩,
    ⟨some 8, .len false (.v 7), none, [2]⟩,
    ⟨some 9, .mm false (.v 6) (.v 8), none, [1, 3]⟩,
    ⟨some 10, .mov (.c (.int .i64 0)), none, []⟩])
  (.ghost (.keep [0, 1, 2, 9, 10]) (.block 0 (.loop (.ghost (.keep [0, 1, 2, 9, 10]) (.seq (.reg [⟨some 11, .bin .lss (.v 10) (.v 9), none, []⟩])
  (.ghost (.keep [0, 1, 2, 9, 10, 11]) (.seq (.cond (.v 11)
  .skip
  (.exit 0))
  (.ghost (.keep [0, 1, 2, 9, 10]) (.seq (.block 1 (.seq (.reg [⟨some 12, .mov (.v 10), none, []⟩,
    ⟨some 4, .mov (.v 12), none, [0, 0]⟩])
  (.ghost (.keep [0, 1, 2, 4, 9, 10]) (.seq (.yield true [⟨⟨some 13, .mov (.v 0), none, []⟩, [14, 15, 16, 17, 18, 19, 20, 21], [], [], [], 2⟩,
    ⟨⟨some 14, .load false 1 (.v 1), none, []⟩, [13, 15, 18, 19, 20, 21], [], [], [0], 2⟩,
    ⟨⟨some 15, .mov (.v 4), none, []⟩, [13, 14, 18, 19, 20, 21], [], [], [0, 1], 2⟩,
    ⟨⟨some 16, .iaddr 2 (.v 14) (.v 15), none, [1, 2]⟩, [13, 18, 19, 20, 21], [], [], [0], 2⟩,
    ⟨⟨some 17, .load true 2 (.v 16), none, [3]⟩, [13, 18, 19, 20, 21], [], [], [0], 2⟩,
    ⟨⟨some 18, .load false 1 (.v 2), none, []⟩, [13, 14, 15, 16, 17, 19], [], [], [0, 1, 2, 3, 4], 2⟩,
    ⟨⟨some 19, .mov (.v 4), none, []⟩, [13, 14, 15, 16, 17, 18], [], [], [0, 1, 2, 3, 4, 5], 2⟩,
    ⟨⟨some 20, .iaddr 2 (.v 18) (.v 19), none, [5, 6]⟩, [13, 14, 15, 16, 17], [], [], [0, 1, 2, 3, 4], 2⟩,
    ⟨⟨some 21, .load true 2 (.v 20), none, [7]⟩, [13, 14, 15, 16, 17], [], [], [0, 1, 2, 3, 4], 2⟩]
    ⟨some 22, .callv (.v 13) [.v 17, .v 21], none, [0, 4, 8]⟩ [⟨some 23, .un .not (.v 22), none, [9]⟩])
  (.ghost (.keep [0, 1, 2, 9, 10, 23]) (.cond (.v 23)
  .ret
  .skip))))))
  (.ghost (.keep [0, 1, 2, 9, 10]) (.reg [⟨some 24, .bin .add (.v 10) (.c (.int .i64 1)), none, []⟩,
    ⟨some 10, .mov (.v 24), none, [0]⟩])))))))))))))
theorem fn78 : factOf Tryd.prog 78 = some (ac78.strip, [], 25) := by kernel_rfl
theorem ok78 : ac78.okAll = true := by kernel_rfl

/-- abugida/abugidaref01.Round -/
def ac79 : AC := (.ghost (.keep [0, 1])
  (.seq (.reg [⟨some 4, .mov (.c (.int .i64 0)), none, []⟩,
    ⟨some 5, .mov (.c (.bool false)), none, [0]⟩])
  (.ghost (.keep [0, 1]) (.seq (.reg [⟨some 10, .mov (.v 0), none, []⟩,
    ⟨some 11, .mov (.v 1), none, []⟩,
    ⟨some 12, .call 101 [.v 10, .v 11], none, [0, 1]⟩,
    ⟨some 9, .mov (.v 12), none, [2]⟩,
    ⟨some 13, .ext (.v 9) 0, none, [3]⟩,
    ⟨some 14, .ext (.v 9) 1, none, [3]⟩,
    ⟨some 6, .mov (.v 13), none, [4, 2, 0, 1, 2, 3, 4]⟩,
    ⟨some 7, .mov (.v 14), none, [5, 6, 0, 1, 2, 3, 4, 5, 6]⟩])
  (.ghost (.keep [0, 1, 6, 7]) (.seq (.seq (.reg [⟨some 15, .mov (.v 7), none, []⟩,
    ⟨some 16, .un .not (.v 15), none, [0]⟩])
  (.ghost (.keep [0, 1, 6, 16]) (.cond (.v 16)
  (.seq (.reg [⟨some 4, .mov (.c (.int .i64 0)), none, []⟩,
    ⟨some 5, .mov (.c (.bool false)), none, [0, 0]⟩])
  (.ghost (.keep [4, 5]) .ret))
  .skip)))
  (.ghost (.keep [0, 1, 6]) (.seq (.reg [⟨some 17, .mov (.v 0), none, []⟩,
    ⟨some 18, .mov (.v 1), none, []⟩,
    ⟨some 19, .bin .rem (.v 17) (.v 18), none, [0, 1]⟩,
    ⟨some 8, .mov (.v 19), none, [2, 0, 1, 2]⟩])
  (.ghost (.keep [1, 6, 8]) (.seq (.seq (.reg [⟨some 20, .mov (.v 8), none, []⟩,
    ⟨some 21, .bin .lss (.v 20) (.c (.int .i64 0)), none, [0]⟩])
  (.ghost (.keep [1, 6, 8, 21]) (.cond (.v 21)
  (.reg [⟨some 22, .mov (.v 8), none, []⟩,
    ⟨some 23, .mov (.v 1), none, []⟩,
    ⟨some 24, .bin .add (.v 22) (.v 23), none, [0, 1]⟩,
    ⟨some 8, .mov (.v 24), none, [2, 0, 1, 2]⟩])
  .skip)))
  (.ghost (.keep [1, 6, 8]) (.seq (.seq (.reg [⟨some 25, .mov (.v 8), none, []⟩,
    ⟨some 26, .mov (.v 1), none, []⟩,
    ⟨some 27, .mov (.v 8), none, []⟩,
    ⟨some 28, .bin .sub (.v 26) (.v 27), none, [1, 2]⟩,
    ⟨some 29, .bin .geq (.v 25) (.v 28), none, [0, 3]⟩])
  (.ghost (.keep [6, 29]) (.cond (.v 29)
  (.reg [⟨some 30, .mov (.v 6), none, []⟩,
    ⟨some 31, .bin .add (.v 30) (.c (.int .i64 1)), none, [0]⟩,
    ⟨some 6, .mov (.v 31), none, [1, 0, 1]⟩])
  .skip)))
  (.ghost (.keep [6]) (.seq (.reg [⟨some 32, .mov (.v 6), none, []⟩,
    ⟨some 4, .mov (.v 32), none, [0, 0]⟩,
    ⟨some 5, .mov (.c (.bool true)), none, [1, 0, 1]⟩])
  (.ghost (.keep [4, 5]) .ret)))))))))))))))
theorem fn79 : factOf Tryd.prog 79 = some (ac79.strip, [.tmp 4, .tmp 5], 33) := by kernel_rfl
theorem ok79 : ac79.okAll = true := by kernel_rfl

/-- abugida/fix.Round$1 -/
def ac80 : AC := (.ghost (.keep [0, 1])
  (.seq (.reg [⟨some 4, .mov (.c (.bool false)), none, []⟩])
  (.ghost (.keep [0, 1]) (.seq (.reg [⟨some 5, .mov (.v 0), none, []⟩,
    ⟨some 6, .mov (.v 1), none, []⟩,
    ⟨some 7, .mov (.v 0), none, []⟩,
    ⟨some 8, .bin .sub (.v 6) (.v 7), none, [1, 2]⟩,
    ⟨some 9, .bin .geq (.v 5) (.v 8), none, [0, 3]⟩,
    ⟨some 4, .mov (.v 9), none, [4, 0, 1, 2, 3, 4]⟩])
  (.ghost (.keep [4]) .ret)))))
theorem fn80 : factOf Tryd.prog 80 = some (ac80.strip, [.tmp 4], 10) := by kernel_rfl
theorem ok80 : ac80.okAll = true := by kernel_rfl

/-- (abugida/fix.rounding).quotient -/
def ac81 : AC := (.ghost (.keep [0, 1, 2])
  (.seq (.reg [⟨some 3, .box (.v 0), none, []⟩,
    ⟨some 6, .mov (.c (.int .i64 0)), none, []⟩,
    ⟨some 7, .mov (.c (.bool false)), none, [1]⟩])
  (.ghost (.keep [1, 2, 3]) (.seq (.seq (.reg [⟨some 10, .mov (.v 2), none, []⟩,
    ⟨some 11, .bin .lss (.v 10) (.c (.int .i64 1)), none, [0]⟩])
  (.ghost (.keep [1, 2, 3, 11]) (.cond (.v 11)
  (.seq (.reg [⟨some 6, .mov (.c (.int .i64 0)), none, []⟩,
    ⟨some 7, .mov (.c (.bool false)), none, [0, 0]⟩])
  (.ghost (.keep [6, 7]) .ret))
  .skip)))
  (.ghost (.keep [1, 2, 3]) (.seq (.draw [⟨⟨some 12, .mov (.v 1), none, []⟩, [13, 15, 16, 17], [], [], [], 2⟩,
    ⟨⟨some 13, .mov (.v 2), none, []⟩, [12, 15, 16, 17], [], [], [0], 2⟩,
    ⟨⟨some 14, .bin .quo (.v 12) (.v 13), none, [0, 1]⟩, [15, 16, 17], [], [], [], 2⟩,
    ⟨⟨some 15, .mov (.v 1), none, []⟩, [8, 12, 13, 14, 16], [], [], [0, 1, 2], 2⟩,
    ⟨⟨some 16, .mov (.v 2), none, []⟩, [8, 12, 13, 14, 15], [], [], [0, 1, 2, 3], 2⟩,
    ⟨⟨some 17, .bin .rem (.v 15) (.v 16), none, [3, 4]⟩, [8, 12, 13, 14], [], [], [0, 1, 2], 2⟩,
    ⟨⟨some 8, .mov (.v 14), none, [2, 0, 1, 2]⟩, [15, 16, 17], [], [], [3, 4, 5], 2⟩,
    ⟨⟨some 9, .mov (.v 17), none, [5, 6, 0, 1, 2, 3, 4, 5, 6]⟩, [], [], [], [], 2⟩])
  (.ghost (.keep [2, 3, 8, 9]) (.seq (.seq (.reg [⟨some 18, .mov (.v 9), none, []⟩,
    ⟨some 19, .bin .lss (.v 18) (.c (.int .i64 0)), none, [0]⟩])
  (.ghost (.keep [2, 3, 8, 9, 19]) (.cond (.v 19)
  (.reg [⟨some 20, .mov (.v 8), none, []⟩,
    ⟨some 21, .bin .sub (.v 20) (.c (.int .i64 1)), none, [0]⟩,
    ⟨some 22, .mov (.v 9), none, []⟩,
    ⟨some 23, .mov (.v 2), none, []⟩,
    ⟨some 24, .bin .add (.v 22) (.v 23), none, [2, 3]⟩,
    ⟨some 8, .mov (.v 21), none, [1, 0, 1]⟩,
    ⟨some 9, .mov (.v 24), none, [4, 5, 0, 1, 2, 3, 4, 5]⟩])
  .skip)))
  (.ghost (.keep [2, 3, 8, 9]) (.seq (.seq (.reg [⟨some 25, .faddr 0 (.v 3), none, []⟩,
    ⟨some 26, .load false 1 (.v 25), none, [0]⟩,
    ⟨some 27, .mov (.v 9), none, []⟩,
    ⟨some 28, .mov (.v 2), none, []⟩,
    ⟨some 29, .callv (.v 26) [.v 27, .v 28], none, [1, 2, 3]⟩])
  (.ghost (.keep [8, 29]) (.cond (.v 29)
  (.reg [⟨some 30, .mov (.v 8), none, []⟩,
    ⟨some 31, .bin .add (.v 30) (.c (.int .i64 1)), none, [0]⟩,
    ⟨some 8, .mov (.v 31), none, [1, 0, 1]⟩])
  .skip)))
  (.ghost (.keep [8]) (.seq (.reg [⟨some 32, .mov (.v 8), none, []⟩,
    ⟨some 6, .mov (.v 32), none, [0, 0]⟩,
    ⟨some 7, .mov (.c (.bool true)), none, [1, 0, 1]⟩])
  (.ghost (.keep [6, 7]) .ret)))))))))))))
theorem fn81 : factOf Tryd.prog 81 = some (ac81.strip, [.tmp 6, .tmp 7], 33) := by kernel_rfl
theorem ok81 : ac81.okAll = true := by kernel_rfl

/-- slices.IndexFunc[[]abugida/api.Tent,abugida/api.Tent] -/
def ac82 : AC := (.ghost (.keep [0, 1])
  (.seq (.reg [⟨some 4, .mov (.c (.int .i64 0)), none, []⟩])
  (.ghost (.keep [0, 1]) (.seq (.seq (.reg [⟨some 6, .mov (.v 0), none, []⟩,
    ⟨some 7, .len false (.v 6), none, [0]⟩,
    ⟨some 8, .mov (.c (.int .i64 0)), none, []⟩])
  (.ghost (.keep [0, 1, 7, 8]) (.block 0 (.loop (.ghost (.keep [0, 1, 7, 8]) (.seq (.reg [⟨some 9, .bin .lss (.v 8) (.v 7), none, []⟩])
  (.ghost (.keep [0, 1, 7, 8, 9]) (.seq (.cond (.v 9)
  .skip
  (.exit 0))
  (.ghost (.keep [0, 1, 7, 8]) (.seq (.block 1 (.seq (.reg [⟨some 10, .mov (.v 8), none, []⟩,
    ⟨some 5, .mov (.v 10), none, [0, 0]⟩])
  (.ghost (.keep [0, 1, 5, 7, 8]) (.seq (.reg [⟨some 11, .mov (.v 1), none, []⟩,
    ⟨some 12, .mov (.v 0), none, []⟩,
    ⟨some 13, .mov (.v 5), none, []⟩,
    ⟨some 14, .iaddr 3 (.v 12) (.v 13), none, [1, 2]⟩,
    ⟨some 15, .load true 3 (.v 14), none, [3]⟩,
    ⟨some 16, .callv (.v 11) [.v 15], none, [0, 4]⟩])
  (.ghost (.keep [0, 1, 5, 7, 8, 16]) (.cond (.v 16)
  (.seq (.reg [⟨some 17, .mov (.v 5), none, []⟩,
    ⟨some 4, .mov (.v 17), none, [0, 0]⟩])
  (.ghost (.keep [4]) .ret))
  .skip))))))
  (.ghost (.keep [0, 1, 7, 8]) (.reg [⟨some 18, .bin .add (.v 8) (.c (.int .i64 1)), none, []⟩,
    ⟨some 8, .mov (.v 18), none, [0]⟩]))))))))))))
  (.ghost (.keep []) (.seq (.reg [⟨some 4, .mov (.c (.int .i64 (-1))), none, []⟩])
  (.ghost (.keep [4]) .ret)))))))
theorem fn82 : factOf Tryd.prog 82 = some (ac82.strip, [.tmp 4], 19) := by kernel_rfl
theorem ok82 : ac82.okAll = true := by kernel_rfl

/-- slices.ContainsFunc[[]int,int] -/
def ac83 : AC := (.ghost (.keep [0, 1])
  (.seq (.reg [⟨some 4, .mov (.c (.bool false)), none, []⟩])
  (.ghost (.keep [0, 1]) (.seq (.reg [⟨some 5, .mov (.v 0), none, []⟩,
    ⟨some 6, .mov (.v 1), none, []⟩,
    ⟨some 7, .call 102 [.v 5, .v 6], none, [0, 1]⟩,
    ⟨some 8, .bin .geq (.v 7) (.c (.int .i64 0)), none, [2]⟩,
    ⟨some 4, .mov (.v 8), none, [3, 2, 0, 1, 2, 3]⟩])
  (.ghost (.keep [4]) .ret)))))
theorem fn83 : factOf Tryd.prog 83 = some (ac83.strip, [.tmp 4], 9) := by kernel_rfl
theorem ok83 : ac83.okAll = true := by kernel_rfl

/-- abugida/axes.coords$1 -/
def ac84 : AC := (.ghost (.keep [0])
  (.seq (.reg [⟨some 2, .mov (.c (.bool false)), none, []⟩])
  (.ghost (.keep [0]) (.seq (.reg [⟨some 3, .mov (.v 0), none, []⟩,
    ⟨some 4, .call 47 [.v 3], none, [0]⟩,
    ⟨some 5, .un .not (.v 4), none, [1]⟩,
    ⟨some 2, .mov (.v 5), none, [2, 1, 0, 1, 2]⟩])
  (.ghost (.keep [2]) .ret)))))
theorem fn84 : factOf Tryd.prog 84 = some (ac84.strip, [.tmp 2], 6) := by kernel_rfl
theorem ok84 : ac84.okAll = true := by kernel_rfl

/-- abugida/axes.zip[abugida/api.Tent,int]$1 -/
def ac85 : AY := (.ghost (.keep [0, 1, 2])
  (.seq (.reg [⟨some 5, .load false 1 (.v 1), none, []⟩,
    ⟨some 6, .len false (.v 5), none, [0]⟩,
    ⟨some 7, .load false 1 (.v 2), none, []⟩,
    ⟨some 8, .len false (.v 7), none, [2]⟩,
    ⟨some 9, .mm false (.v 6) (.v 8), none, [1, 3]⟩,
    ⟨some 10, .mov (.c (.int .i64 0)), none, []⟩])
  (.ghost (.keep [0, 1, 2, 9, 10]) (.block 0 (.loop (.ghost (.keep [0, 1, 2, 9, 10]) (.seq (.reg [⟨some 11, .bin .lss (.v 10) (.v 9), none, []⟩])
  (.ghost (.keep [0, 1, 2, 9, 10, 11]) (.seq (.cond (.v 11)
  .skip
  (.exit 0))
  (.ghost (.keep [0, 1, 2, 9, 10]) (.seq (.block 1 (.seq (.reg [⟨some 12, .mov (.v 10), none, []⟩,
    ⟨some 4, .mov (.v 12), none, [0, 0]⟩])
  (.ghost (.keep [0, 1, 2, 4, 9, 10]) (.seq (.yield true [⟨⟨some 13, .mov (.v 0), none, []⟩, [14, 15, 16, 17, 18, 19, 20, 21], [], [], [], 2⟩,
    ⟨⟨some 14, .load false 1 (.v 1), none, []⟩, [13, 15, 18, 19, 20, 21], [], [], [0], 2⟩,
    ⟨⟨some 15, .mov (.v 4), none, []⟩, [13, 14, 18, 19, 20, 21], [], [], [0, 1], 2⟩,
    ⟨⟨some 16, .iaddr 3 (.v 14) (.v 15), none, [1, 2]⟩, [13, 18, 19, 20, 21], [], [], [0], 2⟩,
    ⟨⟨some 17, .load true 3 (.v 16), none, [3]⟩, [13, 18, 19, 20, 21], [], [], [0], 2⟩,
    ⟨⟨some 18, .load false 1 (.v 2), none, []⟩, [13, 14, 15, 16, 17, 19], [], [], [0, 1, 2, 3, 4], 2⟩,
    ⟨⟨some 19, .mov (.v 4), none, []⟩, [13, 14, 15, 16, 17, 18], [], [], [0, 1, 2, 3, 4, 5], 2⟩,
    ⟨⟨some 20, .iaddr 1 (.v 18) (.v 19), none, [5, 6]⟩, [13, 14, 15, 16, 17], [], [], [0, 1, 2, 3, 4], 2⟩,
    ⟨⟨some 21, .load false 1 (.v 20), none, [7]⟩, [13, 14, 15, 16, 17], [], [], [0, 1, 2, 3, 4], 2⟩]
    ⟨some 22, .callv (.v 13) [.v 17, .v 21], none, [0, 4, 8]⟩ [⟨some 23, .un .not (.v 22), none, [9]⟩])
  (.ghost (.keep [0, 1, 2, 9, 10, 23]) (.cond (.v 23)
  .ret
  .skip))))))
  (.ghost (.keep [0, 1, 2, 9, 10]) (.reg [⟨some 24, .bin .add (.v 10) (.c (.int .i64 1)), none, []⟩,
    ⟨some 10, .mov (.v 24), none, [0]⟩])))))))))))))
theorem fn85 : factOf Tryd.prog 85 = some (ac85.strip, [], 25) := by kernel_rfl
theorem ok85 : ac85.okAll = true := by kernel_rfl

/-- abugida/axes.divisor -/
def ac86 : AC := (.ghost (.keep [0, 1])
  (.seq (.reg [⟨some 4, .mov (.c (.int .i64 0)), none, []⟩])
  (.ghost (.keep [0, 1]) (.seq (.block 0 (.loop (.ghost (.keep [0, 1]) (.seq (.seq (.reg [⟨some 5, .mov (.v 1), none, []⟩,
    ⟨some 6, .bin .gtr (.v 5) (.c (.int .i64 0)), none, [0]⟩])
  (.ghost (.keep [0, 1, 6]) (.cond (.v 6)
  .skip
  (.exit 0))))
  (.ghost (.keep [0, 1]) (.block 1 (.draw [⟨⟨some 7, .mov (.v 1), none, []⟩, [8, 9, 10], [], [], [], 2⟩,
    ⟨⟨some 8, .mov (.v 0), none, []⟩, [7, 9], [], [], [0], 2⟩,
    ⟨⟨some 9, .mov (.v 1), none, []⟩, [0, 7, 8], [], [], [0, 1], 2⟩,
    ⟨⟨some 10, .bin .rem (.v 8) (.v 9), none, [1, 2]⟩, [0, 7], [], [], [0], 2⟩,
    ⟨⟨some 0, .mov (.v 7), none, [0, 0, 1]⟩, [9, 10], [], [], [2, 3], 2⟩,
    ⟨⟨some 1, .mov (.v 10), none, [3, 4, 0, 1, 2, 3, 4]⟩, [], [], [], [], 2⟩])))))))
  (.ghost (.keep [0]) (.seq (.reg [⟨some 11, .mov (.v 0), none, []⟩,
    ⟨some 4, .mov (.v 11), none, [0, 0]⟩])
  (.ghost (.keep [4]) .ret)))))))
theorem fn86 : factOf Tryd.prog 86 = some (ac86.strip, [.tmp 4], 12) := by kernel_rfl
theorem ok86 : ac86.okAll = true := by kernel_rfl

/-- abugida/abugidaref01.Right -/
def ac87 : AC := (.ghost (.keep [0])
  (.seq (.reg [⟨some 1, .box (.v 0), none, []⟩,
    ⟨some 2, .mov (.c (.bool false)), none, []⟩])
  (.ghost (.keep [1]) (.seq (.reg [⟨some 3, .faddr 1 (.v 1), none, []⟩,
    ⟨some 4, .load false 1 (.v 3), none, [0]⟩,
    ⟨some 5, .bin .geq (.v 4) (.c (.int .i64 1)), none, [1]⟩,
    ⟨some 6, .mov (.v 5), none, [2]⟩,
    ⟨some 7, .faddr 1 (.v 1), some (6, true), [3]⟩,
    ⟨some 8, .load false 1 (.v 7), some (6, true), [4, 3]⟩,
    ⟨some 9, .bin .leq (.v 8) (.c (.int .i64 262144)), some (6, true), [5, 3]⟩,
    ⟨some 10, .pick (.v 6) (.v 9) (.c (.bool false)), none, [3, 6]⟩,
    ⟨some 11, .mov (.v 10), none, [7, 3]⟩,
    ⟨some 12, .faddr 0 (.v 1), some (11, true), [8]⟩,
    ⟨some 13, .load false 1 (.v 12), some (11, true), [9, 8]⟩,
    ⟨some 14, .bin .geq (.v 13) (.c (.int .i64 0)), some (11, true), [10, 8]⟩,
    ⟨some 15, .pick (.v 11) (.v 14) (.c (.bool false)), none, [8, 11]⟩,
    ⟨some 16, .mov (.v 15), none, [12, 8]⟩,
    ⟨some 17, .faddr 0 (.v 1), some (16, true), [13]⟩,
    ⟨some 18, .load false 1 (.v 17), some (16, true), [14, 13]⟩,
    ⟨some 19, .faddr 1 (.v 1), some (16, true), [13]⟩,
    ⟨some 20, .load false 1 (.v 19), some (16, true), [16, 13]⟩,
    ⟨some 21, .bin .leq (.v 18) (.v 20), some (16, true), [15, 17, 13]⟩,
    ⟨some 22, .pick (.v 16) (.v 21) (.c (.bool false)), none, [13, 18]⟩,
    ⟨some 23, .mov (.v 22), none, [19, 13]⟩,
    ⟨some 24, .faddr 0 (.v 1), some (23, true), [20]⟩,
    ⟨some 25, .load false 1 (.v 24), some (23, true), [21, 20]⟩,
    ⟨some 26, .faddr 1 (.v 1), some (23, true), [20]⟩,
    ⟨some 27, .load false 1 (.v 26), some (23, true), [23, 20]⟩,
    ⟨some 28, .call 88 [.v 25, .v 27], some (23, true), [22, 24, 20, 20]⟩,
    ⟨some 29, .bin .eql (.v 28) (.c (.int .i64 1)), some (23, true), [25, 20]⟩,
    ⟨some 30, .pick (.v 23) (.v 29) (.c (.bool false)), none, [20, 26]⟩,
    ⟨some 2, .mov (.v 30), none, [27, 25, 0, 1, 2, 3, 4, 5, 6, 7, 8, 9, 10, 11, 12, 13, 14, 15, 16, 17, 18, 19, 20, 21, 22, 23, 24, 25, 26, 27]⟩])
  (.ghost (.keep [2]) .ret)))))
theorem fn87 : factOf Tryd.prog 87 = some (ac87.strip, [.tmp 2], 31) := by kernel_rfl
theorem ok87 : ac87.okAll = true := by kernel_rfl

/-- abugida/abugidaref01.Common -/
def ac88 : AC := (.ghost (.keep [0, 1])
  (.seq (.reg [⟨some 4, .mov (.c (.int .i64 0)), none, []⟩])
  (.ghost (.keep [0, 1]) (.seq (.block 0 (.loop (.ghost (.keep [0, 1]) (.seq (.seq (.reg [⟨some 6, .mov (.v 1), none, []⟩,
    ⟨some 7, .bin .gtr (.v 6) (.c (.int .i64 0)), none, [0]⟩])
  (.ghost (.keep [0, 1, 7]) (.cond (.v 7)
  .skip
  (.exit 0))))
  (.ghost (.keep [0, 1]) (.block 1 (.seq (.reg [⟨some 8, .mov (.v 0), none, []⟩,
    ⟨some 9, .mov (.v 1), none, []⟩,
    ⟨some 10, .bin .rem (.v 8) (.v 9), none, [0, 1]⟩,
    ⟨some 5, .mov (.v 10), none, [2, 0, 1, 2]⟩])
  (.ghost (.keep [1, 5]) (.seq (.reg [⟨some 11, .mov (.v 1), none, []⟩,
    ⟨some 0, .mov (.v 11), none, [0, 0]⟩])
  (.ghost (.keep [0, 5]) (.reg [⟨some 12, .mov (.v 5), none, []⟩,
    ⟨some 1, .mov (.v 12), none, [0, 0]⟩])))))))))))
  (.ghost (.keep [0]) (.seq (.reg [⟨some 13, .mov (.v 0), none, []⟩,
    ⟨some 4, .mov (.v 13), none, [0, 0]⟩])
  (.ghost (.keep [4]) .ret)))))))
theorem fn88 : factOf Tryd.prog 88 = some (ac88.strip, [.tmp 4], 14) := by kernel_rfl
theorem ok88 : ac88.okAll = true := by kernel_rfl

/-- slices.IndexFunc[[][2]int,[2]int] -/
def ac89 : AC := (.ghost (.keep [0, 1])
  (.seq (.reg [⟨some 4, .mov (.c (.int .i64 0)), none, []⟩])
  (.ghost (.keep [0, 1]) (.seq (.seq (.reg [⟨some 6, .mov (.v 0), none, []⟩,
    ⟨some 7, .len false (.v 6), none, [0]⟩,
    ⟨some 8, .mov (.c (.int .i64 0)), none, []⟩])
  (.ghost (.keep [0, 1, 7, 8]) (.block 0 (.loop (.ghost (.keep [0, 1, 7, 8]) (.seq (.reg [⟨some 9, .bin .lss (.v 8) (.v 7), none, []⟩])
  (.ghost (.keep [0, 1, 7, 8, 9]) (.seq (.cond (.v 9)
  .skip
  (.exit 0))
  (.ghost (.keep [0, 1, 7, 8]) (.seq (.block 1 (.seq (.reg [⟨some 10, .mov (.v 8), none, []⟩,
    ⟨some 5, .mov (.v 10), none, [0, 0]⟩])
  (.ghost (.keep [0, 1, 5, 7, 8]) (.seq (.reg [⟨some 11, .mov (.v 1), none, []⟩,
    ⟨some 12, .mov (.v 0), none, []⟩,
    ⟨some 13, .mov (.v 5), none, []⟩,
    ⟨some 14, .iaddr 2 (.v 12) (.v 13), none, [1, 2]⟩,
    ⟨some 15, .load true 2 (.v 14), none, [3]⟩,
    ⟨some 16, .callv (.v 11) [.v 15], none, [0, 4]⟩])
  (.ghost (.keep [0, 1, 5, 7, 8, 16]) (.cond (.v 16)
  (.seq (.reg [⟨some 17, .mov (.v 5), none, []⟩,
    ⟨some 4, .mov (.v 17), none, [0, 0]⟩])
  (.ghost (.keep [4]) .ret))
  .skip))))))
  (.ghost (.keep [0, 1, 7, 8]) (.reg [⟨some 18, .bin .add (.v 8) (.c (.int .i64 1)), none, []⟩,
    ⟨some 8, .mov (.v 18), none, [0]⟩]))))))))))))
  (.ghost (.keep []) (.seq (.reg [⟨some 4, .mov (.c (.int .i64 (-1))), none, []⟩])
  (.ghost (.keep [4]) .ret)))))))
theorem fn89 : factOf Tryd.prog 89 = some (ac89.strip, [.tmp 4], 19) := by kernel_rfl
theorem ok89 : ac89.okAll = true := by kernel_rfl

/-- abugida/axes.zip[int,[2]int]$1 -/
def ac90 : AY := (.ghost (.keep [0, 1, 2])
  (.seq (.reg [⟨some 5, .load false 1 (.v 1), none, []⟩,
    ⟨some 6, .len false (.v 5), none, [0]⟩,
    ⟨some 7, .load false 1 (.v 2), none, []⟩,
    ⟨some 8, .len false (.v 7), none, [2]⟩,
    ⟨some 9, .mm false (.v 6) (.v 8), none, [1, 3]⟩,
    ⟨some 10, .mov (.c (.int .i64 0)), none, []⟩])
  (.ghost (.keep [0, 1, 2, 9, 10]) (.block 0 (.loop (.ghost (.keep [0, 1, 2, 9, 10]) (.seq (.reg [⟨some 11, .bin .lss (.v 10) (.v 9), none, []⟩])
  (.ghost (.keep [0, 1, 2, 9, 10, 11]) (.seq (.cond (.v 11)
  .skip
  (.exit 0))
  (.ghost (.keep [0, 1, 2, 9, 10]) (.seq (.block 1 (.seq (.reg [⟨some 12, .mov (.v 10), none, []⟩,
    ⟨some 4, .mov (.v 12), none, [0, 0]⟩])
  (.ghost (.keep [0, 1, 2, 4, 9, 10]) (.seq (.yield true [⟨⟨some 13, .mov (.v 0), none, []⟩, [14, 15, 16, 17, 18, 19, 20, 21], [], [], [], 2⟩,
    ⟨⟨some 14, .load false 1 (.v 1), none, []⟩, [13, 15, 18, 19, 20, 21], [], [], [0], 2⟩,
    ⟨⟨some 15, .mov (.v 4), none, []⟩, [13, 14, 18, 19, 20, 21], [], [], [0, 1], 2⟩,
    ⟨⟨some 16, .iaddr 1 (.v 14) (.v 15), none, [1, 2]⟩, [13, 18, 19, 20, 21], [], [], [0], 2⟩,
    ⟨⟨some 17, .load false 1 (.v 16), none, [3]⟩, [13, 18, 19, 20, 21], [], [], [0], 2⟩,
    ⟨⟨some 18, .load false 1 (.v 2), none, []⟩, [13, 14, 15, 16, 17, 19], [], [], [0, 1, 2, 3, 4], 2⟩,
    ⟨⟨some 19, .mov (.v 4), none, []⟩, [13, 14, 15, 16, 17, 18], [], [], [0, 1, 2, 3, 4, 5], 2⟩,
    ⟨⟨some 20, .iaddr 2 (.v 18) (.v 19), none, [5, 6]⟩, [13, 14, 15, 16, 17], [], [], [0, 1, 2, 3, 4], 2⟩,
    ⟨⟨some 21, .load true 2 (.v 20), none, [7]⟩, [13, 14, 15, 16, 17], [], [], [0, 1, 2, 3, 4], 2⟩]
    ⟨some 22, .callv (.v 13) [.v 17, .v 21], none, [0, 4, 8]⟩ [⟨some 23, .un .not (.v 22), none, [9]⟩])
  (.ghost (.keep [0, 1, 2, 9, 10, 23]) (.cond (.v 23)
  .ret
  .skip))))))
  (.ghost (.keep [0, 1, 2, 9, 10]) (.reg [⟨some 24, .bin .add (.v 10) (.c (.int .i64 1)), none, []⟩,
    ⟨some 10, .mov (.v 24), none, [0]⟩])))))))))))))
theorem fn90 : factOf Tryd.prog 90 = some (ac90.strip, [], 25) := by kernel_rfl
theorem ok90 : ac90.okAll = true := by kernel_rfl

/-- abugida/axes.zip[abugida/api.Tent,[2]int]$1 -/
def ac91 : AY := (.ghost (.keep [0, 1, 2])
  (.seq (.reg [⟨some 5, .load false 1 (.v 1), none, []⟩,
    ⟨some 6, .len false (.v 5), none, [0]⟩,
    ⟨some 7, .load false 1 (.v 2), none, []⟩,
    ⟨some 8, .len false (.v 7), none, [2]⟩,
    ⟨some 9, .mm false (.v 6) (.v 8), none, [1, 3]⟩,
    ⟨some 10, .mov (.c (.int .i64 0)), none, []⟩])
  (.ghost (.keep [0, 1, 2, 9, 10]) (.block 0 (.loop (.ghost (.keep [0, 1, 2, 9, 10]) (.seq (.reg [⟨some 11, .bin .lss (.v 10) (.v 9), none, []⟩])
  (.ghost (.keep [0, 1, 2, 9, 10, 11]) (.seq (.cond (.v 11)
  .skip
  (.exit 0))
  (.ghost (.keep [0, 1, 2, 9, 10]) (.seq (.block 1 (.seq (.reg [⟨some 12, .mov (.v 10), none, []⟩,
    ⟨some 4, .mov (.v 12), none, [0, 0]⟩])
  (.ghost (.keep [0, 1, 2, 4, 9, 10]) (.seq (.yield true [⟨⟨some 13, .mov (.v 0), none, []⟩, [14, 15, 16, 17, 18, 19, 20, 21], [], [], [], 2⟩,
    ⟨⟨some 14, .load false 1 (.v 1), none, []⟩, [13, 15, 18, 19, 20, 21], [], [], [0], 2⟩,
    ⟨⟨some 15, .mov (.v 4), none, []⟩, [13, 14, 18, 19, 20, 21], [], [], [0, 1], 2⟩,
    ⟨⟨some 16, .iaddr 3 (.v 14) (.v 15), none, [1, 2]⟩, [13, 18, 19, 20, 21], [], [], [0], 2⟩,
    ⟨⟨some 17, .load true 3 (.v 16), none, [3]⟩, [13, 18, 19, 20, 21], [], [], [0], 2⟩,
    ⟨⟨some 18, .load false 1 (.v 2), none, []⟩, [13, 14, 15, 16, 17, 19], [], [], [0, 1, 2, 3, 4], 2⟩,
    ⟨⟨some 19, .mov (.v 4), none, []⟩, [13, 14, 15, 16, 17, 18], [], [], [0, 1, 2, 3, 4, 5], 2⟩,
    ⟨⟨some 20, .iaddr 2 (.v 18) (.v 19), none, [5, 6]⟩, [13, 14, 15, 16, 17], [], [], [0, 1, 2, 3, 4], 2⟩,
    ⟨⟨some 21, .load true 2 (.v 20), none, [7]⟩, [13, 14, 15, 16, 17], [], [], [0, 1, 2, 3, 4], 2⟩]
    ⟨some 22, .callv (.v 13) [.v 17, .v 21], none, [0, 4, 8]⟩ [⟨some 23, .un .not (.v 22), none, [9]⟩])
  (.ghost (.keep [0, 1, 2, 9, 10, 23]) (.cond (.v 23)
  .ret
  .skip))))))
  (.ghost (.keep [0, 1, 2, 9, 10]) (.reg [⟨some 24, .bin .add (.v 10) (.c (.int .i64 1)), none, []⟩,
    ⟨some 10, .mov (.v 24), none, [0]⟩])))))))))))))
theorem fn91 : factOf Tryd.prog 91 = some (ac91.strip, [], 25) := by kernel_rfl
theorem ok91 : ac91.okAll = true := by kernel_rfl

/-- abugida/fix.common[int] -/
def ac92 : AC := (.ghost (.keep [0, 1])
  (.seq (.reg [⟨some 4, .mov (.c (.int .i64 0)), none, []⟩])
  (.ghost (.keep [0, 1]) (.seq (.block 0 (.loop (.ghost (.keep [0, 1]) (.seq (.seq (.reg [⟨some 5, .mov (.v 1), none, []⟩,
    ⟨some 6, .bin .gtr (.v 5) (.c (.int .i64 0)), none, [0]⟩])
  (.ghost (.keep [0, 1, 6]) (.cond (.v 6)
  .skip
  (.exit 0))))
  (.ghost (.keep [0, 1]) (.block 1 (.draw [⟨⟨some 7, .mov (.v 1), none, []⟩, [8, 9, 10], [], [], [], 2⟩,
    ⟨⟨some 8, .mov (.v 0), none, []⟩, [7, 9], [], [], [0], 2⟩,
    ⟨⟨some 9, .mov (.v 1), none, []⟩, [0, 7, 8], [], [], [0, 1], 2⟩,
    ⟨⟨some 10, .bin .rem (.v 8) (.v 9), none, [1, 2]⟩, [0, 7], [], [], [0], 2⟩,
    ⟨⟨some 0, .mov (.v 7), none, [0, 0, 1]⟩, [9, 10], [], [], [2, 3], 2⟩,
    ⟨⟨some 1, .mov (.v 10), none, [3, 4, 0, 1, 2, 3, 4]⟩, [], [], [], [], 2⟩])))))))
  (.ghost (.keep [0]) (.seq (.reg [⟨some 11, .mov (.v 0), none, []⟩,
    ⟨some 4, .mov (.v 11), none, [0, 0]⟩])
  (.ghost (.keep [4]) .ret)))))))
theorem fn92 : factOf Tryd.prog 92 = some (ac92.strip, [.tmp 4], 12) := by kernel_rfl
theorem ok92 : ac92.okAll = true := by kernel_rfl

end Go.Abs.A09
namespace Go.Abs.A09
open Go Go.Abs Go.Proofs
set_option maxRecDepth 100000
set_option linter.unusedVariables false
/-- strings.Trim -/
def ac75 : AC := (.ghost (.keep [0, 1])
  (.seq (.reg [⟨some 4, .mov (.c (.str ⟨#[]⟩)), none, []⟩])
  (.ghost (.keep [0, 1]) (.seq (.seq (.reg [⟨some 7, .mov (.v 0), none, []⟩,
    ⟨some 8, .bin .eql (.v 7) (.c (.str ⟨#[]⟩)), none, [0]⟩,
    ⟨some 9, .mov (.v 8), none, [1]⟩,
    ⟨some 10, .mov (.v 1), some (9, false), [2]⟩,
    ⟨some 11, .bin .eql (.v 10) (.c (.str ⟨#[]⟩)), some (9, false), [3, 2]⟩,
    ⟨some 12, .pick (.v 9) (.c (.bool true)) (.v 11), none, [2, 4]⟩])
  (.ghost (.keep [0, 1, 12]) (.cond (.v 12)
  (.seq (.reg [⟨some 13, .mov (.v 0), none, []⟩,
    ⟨some 4, .mov (.v 13), none, [0, 0]⟩])
  (.ghost (.keep [4]) .ret))
  .skip)))
  (.ghost (.keep [0, 1]) (.seq (.seq (.reg [⟨some 14, .mov (.v 1), none, []⟩,
    ⟨some 15, .len true (.v 14), none, [0]⟩,
    ⟨some 16, .bin .eql (.v 15) (.c (.int .i64 1)), none, [1]⟩,
    ⟨some 17, .mov (.v 16), none, [2]⟩,
    ⟨some 18, .mov (.v 1), some (17, true), [3]⟩,
    ⟨some 19, .idxS (.v 18) (.c (.int .i64 0)), some (17, true), [4, 3]⟩,
    ⟨some 20, .bin .lss (.v 19) (.c (.int .u8 128)), some (17, true), [5, 3]⟩,
    ⟨some 21, .pick (.v 17) (.v 20) (.c (.bool false)), none, [3, 6]⟩])
  (.ghost (.keep [0, 1, 21]) (.cond (.v 21)
  (.seq (.draw [⟨⟨some 22, .mov (.v 0), none, []⟩, [23, 24, 26, 27], [], [], [], 2⟩,
    ⟨⟨some 23, .mov (.v 1), none, []⟩, [22, 26, 27], [], [], [0], 2⟩,
    ⟨⟨some 24, .idxS (.v 23) (.c (.int .i64 0)), none, [1]⟩, [22, 26, 27], [], [], [0], 2⟩,
    ⟨⟨some 25, .call 94 [.v 22, .v 24], none, [0, 2]⟩, [26, 27], [], [25], [], 1⟩,
    ⟨⟨some 26, .mov (.v 1), none, []⟩, [22, 23, 24, 25], [25], [], [0, 1, 2, 3], 2⟩,
    ⟨⟨some 27, .idxS (.v 26) (.c (.int .i64 0)), none, [4]⟩, [22, 23, 24, 25], [25], [], [0, 1, 2, 3], 2⟩,
    ⟨⟨some 28, .call 93 [.v 25, .v 27], none, [3, 5, 3]⟩, [], [], [28], [], 1⟩,
    ⟨⟨some 4, .mov (.v 28), none, [6, 6, 0, 1, 2, 3, 4, 5, 6]⟩, [], [], [], [], 2⟩])
  (.ghost (.keep [4]) .ret))
  .skip)))
  (.ghost (.keep [0, 1]) (.seq (.seq (.reg [⟨some 30, .mov (.v 1), none, []⟩,
    ⟨some 31, .call 95 [.v 30], none, [0]⟩,
    ⟨some 29, .mov (.v 31), none, [1]⟩,
    ⟨some 32, .ext (.v 29) 0, none, [2]⟩,
    ⟨some 33, .ext (.v 29) 1, none, [2]⟩,
    ⟨some 5, .alloc (List.replicate 256 (.bool false)), none, []⟩,
    ⟨none, .store 256 (.v 5) (.v 32), none, [5, 3, 1, 0, 1, 2, 3, 5]⟩,
    ⟨some 6, .mov (.v 33), none, [4, 6, 0, 1, 2, 3, 4, 5, 6]⟩])
  (.ghost (.keep [0, 1, 5, 6]) (.seq (.reg [⟨some 34, .mov (.v 6), none, []⟩])
  (.ghost (.keep [0, 1, 5, 34]) (.cond (.v 34)
  (.seq (.reg [⟨some 35, .mov (.v 0), none, []⟩,
    ⟨some 36, .call 97 [.v 35, .v 5], none, [0]⟩,
    ⟨some 37, .call 96 [.v 36, .v 5], none, [1, 1]⟩,
    ⟨some 4, .mov (.v 37), none, [2, 2, 0, 1, 2]⟩])
  (.ghost (.keep [4]) .ret))
  .skip)))))
  (.ghost (.keep [0, 1]) (.seq (.reg [⟨some 38, .mov (.v 0), none, []⟩,
    ⟨some 39, .mov (.v 1), none, []⟩,
    ⟨some 40, .call 99 [.v 38, .v 39], none, [0, 1]⟩,
    ⟨some 41, .mov (.v 1), none, []⟩,
    ⟨some 42, .call 98 [.v 40, .v 41], none, [2, 3, 2]⟩,
    ⟨some 4, .mov (.v 42), none, [4, 4, 0, 1, 2, 3, 4]⟩])
  (.ghost (.keep [4]) .ret)))))))))))
theorem fn75 : factOf Tryd.prog 75 = some (ac75.strip, [.tmp 4], 43) := by kernel_rfl
theorem ok75 : ac75.okAll = true := by kernel_rfl

/-- strings.trimLeftByte -/
def ac93 : AC := (.ghost (.keep [0, 1])
  (.seq (.reg [⟨some 4, .mov (.c (.str ⟨#[]⟩)), none, []⟩])
  (.ghost (.keep [0, 1]) (.seq (.block 0 (.loop (.ghost (.keep [0, 1]) (.seq (.seq (.reg [⟨some 5, .mov (.v 0), none, []⟩,
    ⟨some 6, .len true (.v 5), none, [0]⟩,
    ⟨some 7, .bin .gtr (.v 6) (.c (.int .i64 0)), none, [1]⟩,
    ⟨some 8, .mov (.v 7), none, [2]⟩,
    ⟨some 9, .mov (.v 0), some (8, true), [3]⟩,
    ⟨some 10, .idxS (.v 9) (.c (.int .i64 0)), some (8, true), [4, 3]⟩,
    ⟨some 11, .mov (.v 1), some (8, true), [3]⟩,
    ⟨some 12, .bin .eql (.v 10) (.v 11), some (8, true), [5, 6, 3]⟩,
    ⟨some 13, .pick (.v 8) (.v 12) (.c (.bool false)), none, [3, 7]⟩])
  (.ghost (.keep [0, 1, 13]) (.cond (.v 13)
  .skip
  (.exit 0))))
  (.ghost (.keep [0, 1]) (.block 1 (.reg [⟨some 14, .mov (.v 0), none, []⟩,
    ⟨some 15, .slcS (.v 14) (some (.c (.int .i64 1))) none, none, [0]⟩,
    ⟨some 0, .mov (.v 15), none, [1, 0, 1]⟩])))))))
  (.ghost (.keep [0]) (.seq (.reg [⟨some 16, .mov (.v 0), none, []⟩,
    ⟨some 4, .mov (.v 16), none, [0, 0]⟩])
  (.ghost (.keep [4]) .ret)))))))
theorem fn93 : factOf Tryd.prog 93 = some (ac93.strip, [.tmp 4], 17) := by kernel_rfl
theorem ok93 : ac93.okAll = true := by kernel_rfl

/-- strings.trimRightByte -/
def ac94 : AC := (.ghost (.keep [0, 1])
  (.seq (.reg [⟨some 4, .mov (.c (.str ⟨#[]⟩)), none, []⟩])
  (.ghost (.keep [0, 1]) (.seq (.block 0 (.loop (.ghost (.keep [0, 1]) (.seq (.seq (.reg [⟨some 5, .mov (.v 0), none, []⟩,
    ⟨some 6, .len true (.v 5), none, [0]⟩,
    ⟨some 7, .bin .gtr (.v 6) (.c (.int .i64 0)), none, [1]⟩,
    ⟨some 8, .mov (.v 7), none, [2]⟩,
    ⟨some 9, .mov (.v 0), some (8, true), [3]⟩,
    ⟨some 10, .mov (.v 0), some (8, true), [3]⟩,
    ⟨some 11, .len true (.v 10), some (8, true), [5, 3]⟩,
    ⟨some 12, .bin .sub (.v 11) (.c (.int .i64 1)), some (8, true), [6, 3]⟩,
    ⟨some 13, .idxS (.v 9) (.v 12), some (8, true), [4, 7, 3]⟩,
    ⟨some 14, .mov (.v 1), some (8, true), [3]⟩,
    ⟨some 15, .bin .eql (.v 13) (.v 14), some (8, true), [8, 9, 3]⟩,
    ⟨some 16, .pick (.v 8) (.v 15) (.c (.bool false)), none, [3, 10]⟩])
  (.ghost (.keep [0, 1, 16]) (.cond (.v 16)
  .skip
  (.exit 0))))
  (.ghost (.keep [0, 1]) (.block 1 (.reg [⟨some 17, .mov (.v 0), none, []⟩,
    ⟨some 18, .mov (.v 0), none, []⟩,
    ⟨some 19, .len true (.v 18), none, [1]⟩,
    ⟨some 20, .bin .sub (.v 19) (.c (.int .i64 1)), none, [2]⟩,
    ⟨some 21, .slcS (.v 17) none (some (.v 20)), none, [0, 3]⟩,
    ⟨some 0, .mov (.v 21), none, [4, 0, 1, 2, 3, 4]⟩])))))))
  (.ghost (.keep [0]) (.seq (.reg [⟨some 22, .mov (.v 0), none, []⟩,
    ⟨some 4, .mov (.v 22), none, [0, 0]⟩])
  (.ghost (.keep [4]) .ret)))))))
theorem fn94 : factOf Tryd.prog 94 = some (ac94.strip, [.tmp 4], 23) := by kernel_rfl
theorem ok94 : ac94.okAll = true := by kernel_rfl

/-- strings.makeASCIISet -/
def ac95 : AC := (.ghost (.keep [0])
  (.seq (.reg [⟨some 2, .alloc (List.replicate 256 (.bool false)), none, []⟩,
    ⟨some 3, .mov (.c (.bool false)), none, []⟩])
  (.ghost (.keep [0, 2]) (.seq (.seq (.reg [⟨some 4, .mov (.c (.int .i64 0)), none, []⟩])
  (.ghost (.keep [0, 2, 4]) (.block 0 (.loop (.ghost (.keep [0, 2, 4]) (.seq (.seq (.reg [⟨some 6, .mov (.v 4), none, []⟩,
    ⟨some 7, .mov (.v 0), none, []⟩,
    ⟨some 8, .len true (.v 7), none, [1]⟩,
    ⟨some 9, .bin .lss (.v 6) (.v 8), none, [0, 2]⟩])
  (.ghost (.keep [0, 2, 4, 9]) (.cond (.v 9)
  .skip
  (.exit 0))))
  (.ghost (.keep [0, 2, 4]) (.seq (.block 1 (.seq (.reg [⟨some 12, .mov (.v 0), none, []⟩,
    ⟨some 13, .mov (.v 4), none, []⟩,
    ⟨some 14, .idxS (.v 12) (.v 13), none, [0, 1]⟩,
    ⟨some 5, .mov (.v 14), none, [2, 0, 1, 2]⟩])
  (.ghost (.keep [0, 2, 4, 5]) (.seq (.seq (.reg [⟨some 15, .mov (.v 5), none, []⟩,
    ⟨some 16, .bin .geq (.v 15) (.c (.int .u8 128)), none, [0]⟩])
  (.ghost (.keep [0, 2, 4, 5, 16]) (.cond (.v 16)
  (.seq (.reg [⟨some 17, .load true 256 (.v 2), none, []⟩,
    ⟨none, .store 256 (.v 2) (.v 17), none, [0, 0]⟩,
    ⟨some 3, .mov (.c (.bool false)), none, [1, 0, 1]⟩])
  (.ghost (.keep [2, 3]) .ret))
  .skip)))
  (.ghost (.keep [0, 2, 4, 5]) (.reg [⟨some 18, .mov (.v 5), none, []⟩,
    ⟨some 19, .iaddrA 1 256 (.v 2) (.v 18), none, [0, 0]⟩,
    ⟨none, .store 1 (.v 19) (.c (.bool true)), none, [1, 0]⟩]))))))
  (.ghost (.keep [0, 2, 4]) (.reg [⟨some 10, .mov (.v 4), none, []⟩,
    ⟨some 11, .bin .add (.v 10) (.c (.int .i64 1)), none, [0]⟩,
    ⟨some 4, .mov (.v 11), none, [1, 0, 1]⟩]))))))))))
  (.ghost (.keep [2]) (.seq (.reg [⟨some 20, .load true 256 (.v 2), none, []⟩,
    ⟨none, .store 256 (.v 2) (.v 20), none, [0, 0]⟩,
    ⟨some 3, .mov (.c (.bool true)), none, [1, 0, 1]⟩])
  (.ghost (.keep [2, 3]) .ret)))))))
theorem fn95 : factOf Tryd.prog 95 = some (ac95.strip, [.cell 2 true 256, .tmp 3], 21) := by kernel_rfl
theorem ok95 : ac95.okAll = true := by kernel_rfl

/-- strings.trimLeftASCII -/
def ac96 : AC := (.ghost (.keep [0, 1])
  (.seq (.reg [⟨some 4, .mov (.c (.str ⟨#[]⟩)), none, []⟩])
  (.ghost (.keep [0, 1]) (.seq (.block 0 (.loop (.ghost (.keep [0, 1]) (.seq (.seq (.reg [⟨some 5, .mov (.v 0), none, []⟩,
    ⟨some 6, .len true (.v 5), none, [0]⟩,
    ⟨some 7, .bin .gtr (.v 6) (.c (.int .i64 0)), none, [1]⟩])
  (.ghost (.keep [0, 1, 7]) (.cond (.v 7)
  .skip
  (.exit 0))))
  (.ghost (.keep [0, 1]) (.block 1 (.seq (.seq (.reg [⟨some 8, .mov (.v 1), none, []⟩,
    ⟨some 9, .mov (.v 0), none, []⟩,
    ⟨some 10, .idxS (.v 9) (.c (.int .i64 0)), none, [1]⟩,
    ⟨some 11, .call 103 [.v 8, .v 10], none, [0, 2]⟩,
    ⟨some 12, .un .not (.v 11), none, [3]⟩])
  (.ghost (.keep [0, 1, 12]) (.cond (.v 12)
  (.exit 0)
  .skip)))
  (.ghost (.keep [0, 1]) (.reg [⟨some 13, .mov (.v 0), none, []⟩,
    ⟨some 14, .slcS (.v 13) (some (.c (.int .i64 1))) none, none, [0]⟩,
    ⟨some 0, .mov (.v 14), none, [1, 0, 1]⟩])))))))))
  (.ghost (.keep [0]) (.seq (.reg [⟨some 15, .mov (.v 0), none, []⟩,
    ⟨some 4, .mov (.v 15), none, [0, 0]⟩])
  (.ghost (.keep [4]) .ret)))))))
theorem fn96 : factOf Tryd.prog 96 = some (ac96.strip, [.tmp 4], 16) := by kernel_rfl
theorem ok96 : ac96.okAll = true := by kernel_rfl

/-- strings.trimRightASCII -/
def ac97 : AC := (.ghost (.keep [0, 1])
  (.seq (.reg [⟨some 4, .mov (.c (.str ⟨#[]⟩)), none, []⟩])
  (.ghost (.keep [0, 1]) (.seq (.block 0 (.loop (.ghost (.keep [0, 1]) (.seq (.seq (.reg [⟨some 5, .mov (.v 0), none, []⟩,
    ⟨some 6, .len true (.v 5), none, [0]⟩,
    ⟨some 7, .bin .gtr (.v 6) (.c (.int .i64 0)), none, [1]⟩])
  (.ghost (.keep [0, 1, 7]) (.cond (.v 7)
  .skip
  (.exit 0))))
  (.ghost (.keep [0, 1]) (.block 1 (.seq (.seq (.reg [⟨some 8, .mov (.v 1), none, []⟩,
    ⟨some 9, .mov (.v 0), none, []⟩,
    ⟨some 10, .mov (.v 0), none, []⟩,
    ⟨some 11, .len true (.v 10), none, [2]⟩,
    ⟨some 12, .bin .sub (.v 11) (.c (.int .i64 1)), none, [3]⟩,
    ⟨some 13, .idxS (.v 9) (.v 12), none, [1, 4]⟩,
    ⟨some 14, .call 103 [.v 8, .v 13], none, [0, 5]⟩,
    ⟨some 15, .un .not (.v 14), none, [6]⟩])
  (.ghost (.keep [0, 1, 15]) (.cond (.v 15)
  (.exit 0)
  .skip)))
  (.ghost (.keep [0, 1]) (.reg [⟨some 16, .mov (.v 0), none, []⟩,
    ⟨some 17, .mov (.v 0), none, []⟩,
    ⟨some 18, .len true (.v 17), none, [1]⟩,
    ⟨some 19, .bin .sub (.v 18) (.c (.int .i64 1)), none, [2]⟩,
    ⟨some 20, .slcS (.v 16) none (some (.v 19)), none, [0, 3]⟩,
    ⟨some 0, .mov (.v 20), none, [4, 0, 1, 2, 3, 4]⟩])))))))))
  (.ghost (.keep [0]) (.seq (.reg [⟨some 21, .mov (.v 0), none, []⟩,
    ⟨some 4, .mov (.v 21), none, [0, 0]⟩])
  (.ghost (.keep [4]) .ret)))))))
theorem fn97 : factOf Tryd.prog 97 = some (ac97.strip, [.tmp 4], 22) := by kernel_rfl
theorem ok97 : ac97.okAll = true := by kernel_rfl

/-- strings.Index -/
def ac100 : AC := (.ghost (.keep [0, 1])
  (.seq (.reg [⟨some 4, .mov (.c (.int .i64 0)), none, []⟩])
  (.ghost (.keep [0, 1]) (.seq (.reg [⟨some 5, .mov (.v 0), none, []⟩,
    ⟨some 6, .mov (.v 1), none, []⟩,
    ⟨some 7, .call 107 [.v 5, .v 6], none, [0, 1]⟩,
    ⟨some 4, .mov (.v 7), none, [2, 2, 0, 1, 2]⟩])
  (.ghost (.keep [4]) .ret)))))
theorem fn100 : factOf Tryd.prog 100 = some (ac100.strip, [.tmp 4], 8) := by kernel_rfl
theorem ok100 : ac100.okAll = true := by kernel_rfl

/-- abugida/abugidaref01.Down -/
def ac101 : AC := (.ghost (.keep [0, 1])
  (.seq (.reg [⟨some 4, .mov (.c (.int .i64 0)), none, []⟩,
    ⟨some 5, .mov (.c (.bool false)), none, [0]⟩])
  (.ghost (.keep [0, 1]) (.seq (.seq (.reg [⟨some 7, .mov (.v 1), none, []⟩,
    ⟨some 8, .bin .lss (.v 7) (.c (.int .i64 1)), none, [0]⟩])
  (.ghost (.keep [0, 1, 8]) (.cond (.v 8)
  (.seq (.reg [⟨some 4, .mov (.c (.int .i64 0)), none, []⟩,
    ⟨some 5, .mov (.c (.bool false)), none, [0, 0]⟩])
  (.ghost (.keep [4, 5]) .ret))
  .skip)))
  (.ghost (.keep [0, 1]) (.seq (.reg [⟨some 9, .mov (.v 0), none, []⟩,
    ⟨some 10, .mov (.v 1), none, []⟩,
    ⟨some 11, .bin .quo (.v 9) (.v 10), none, [0, 1]⟩,
    ⟨some 6, .mov (.v 11), none, [2, 0, 1, 2]⟩])
  (.ghost (.keep [0, 1, 6]) (.seq (.seq (.reg [⟨some 12, .mov (.v 0), none, []⟩,
    ⟨some 13, .mov (.v 1), none, []⟩,
    ⟨some 14, .bin .rem (.v 12) (.v 13), none, [0, 1]⟩,
    ⟨some 15, .bin .lss (.v 14) (.c (.int .i64 0)), none, [2]⟩])
  (.ghost (.keep [6, 15]) (.cond (.v 15)
  (.reg [⟨some 16, .mov (.v 6), none, []⟩,
    ⟨some 17, .bin .sub (.v 16) (.c (.int .i64 1)), none, [0]⟩,
    ⟨some 6, .mov (.v 17), none, [1, 0, 1]⟩])
  .skip)))
  (.ghost (.keep [6]) (.seq (.reg [⟨some 18, .mov (.v 6), none, []⟩,
    ⟨some 4, .mov (.v 18), none, [0, 0]⟩,
    ⟨some 5, .mov (.c (.bool true)), none, [1, 0, 1]⟩])
  (.ghost (.keep [4, 5]) .ret)))))))))))
theorem fn101 : factOf Tryd.prog 101 = some (ac101.strip, [.tmp 4, .tmp 5], 19) := by kernel_rfl
theorem ok101 : ac101.okAll = true := by kernel_rfl

/-- slices.IndexFunc[[]int,int] -/
def ac102 : AC := (.ghost (.keep [0, 1])
  (.seq (.reg [⟨some 4, .mov (.c (.int .i64 0)), none, []⟩])
  (.ghost (.keep [0, 1]) (.seq (.seq (.reg [⟨some 6, .mov (.v 0), none, []⟩,
    ⟨some 7, .len false (.v 6), none, [0]⟩,
    ⟨some 8, .mov (.c (.int .i64 0)), none, []⟩])
  (.ghost (.keep [0, 1, 7, 8]) (.block 0 (.loop (.ghost (.keep [0, 1, 7, 8]) (.seq (.reg [⟨some 9, .bin .lss (.v 8) (.v 7), none, []⟩])
  (.ghost (.keep [0, 1, 7, 8, 9]) (.seq (.cond (.v 9)
  .skip
  (.exit 0))
  (.ghost (.keep [0, 1, 7, 8]) (.seq (.block 1 (.seq (.reg [⟨some 10, .mov (.v 8), none, []⟩,
    ⟨some 5, .mov (.v 10), none, [0, 0]⟩])
  (.ghost (.keep [0, 1, 5, 7, 8]) (.seq (.reg [⟨some 11, .mov (.v 1), none, []⟩,
    ⟨some 12, .mov (.v 0), none, []⟩,
    ⟨some 13, .mov (.v 5), none, []⟩,
    ⟨some 14, .iaddr 1 (.v 12) (.v 13), none, [1, 2]⟩,
    ⟨some 15, .load false 1 (.v 14), none, [3]⟩,
    ⟨some 16, .callv (.v 11) [.v 15], none, [0, 4]⟩])
  (.ghost (.keep [0, 1, 5, 7, 8, 16]) (.cond (.v 16)
  (.seq (.reg [⟨some 17, .mov (.v 5), none, []⟩,
    ⟨some 4, .mov (.v 17), none, [0, 0]⟩])
  (.ghost (.keep [4]) .ret))
  .skip))))))
  (.ghost (.keep [0, 1, 7, 8]) (.reg [⟨some 18, .bin .add (.v 8) (.c (.int .i64 1)), none, []⟩,
    ⟨some 8, .mov (.v 18), none, [0]⟩]))))))))))))
  (.ghost (.keep []) (.seq (.reg [⟨some 4, .mov (.c (.int .i64 (-1))), none, []⟩])
  (.ghost (.keep [4]) .ret)))))))
theorem fn102 : factOf Tryd.prog 102 = some (ac102.strip, [.tmp 4], 19) := by kernel_rfl
theorem ok102 : ac102.okAll = true := by kernel_rfl

/-- (*strings.asciiSet).contains -/
def ac103 : AC := (.ghost (.keep [0, 1])
  (.seq (.reg [⟨some 4, .mov (.c (.bool false)), none, []⟩])
  (.ghost (.keep [0, 1]) (.seq (.reg [⟨some 5, .mov (.v 0), none, []⟩,
    ⟨some 6, .mov (.v 1), none, []⟩,
    ⟨some 7, .nilck (.v 5), none, [0]⟩,
    ⟨some 8, .iaddrA 1 256 (.v 7) (.v 6), none, [2, 1]⟩,
    ⟨some 9, .load false 1 (.v 8), none, [3]⟩,
    ⟨some 4, .mov (.v 9), none, [4, 0, 1, 2, 3, 4]⟩])
  (.ghost (.keep [4]) .ret)))))
theorem fn103 : factOf Tryd.prog 103 = some (ac103.strip, [.tmp 4], 10) := by kernel_rfl
theorem ok103 : ac103.okAll = true := by kernel_rfl

end Go.Abs.A09
namespace Go.Abs.A09
/-! ### plain arithmetic -/
def R (n : Int) : Prop := -9223372036854775808 ≤ n ∧ n ≤ 9223372036854775807

theorem R_ediv {n d : Int} (h : R n) (hd : 1 ≤ d) : R (n / d) := by
  obtain ⟨h1, h2⟩ := h
  constructor
  · refine Int.le_ediv_of_mul_le (by omega) ?_
    have : (-9223372036854775808 : Int) * d ≤ (-9223372036854775808) * 1 := Int.mul_le_mul_of_nonpos_left (by omega) hd
    omega
  · rcases Int.le_total 0 n with h3 | h3
    · exact Int.le_trans (Int.ediv_le_self d h3) h2
    · have : n / d ≤ 0 := by
        have := Int.ediv_le_ediv (by omega : 0 < d) h3
        simpa using this
      omega

theorem tdiv_pos {n d : Int} (hd : 1 ≤ d) : n.tdiv d = n / d + (if n.tmod d < 0 then 1 else 0) ∧ n.tmod d = n % d - (if n.tmod d < 0 then d else 0) := by
  have e1 := Int.mul_ediv_add_emod n d
  have e2 := Int.emod_nonneg n (by omega : d ≠ 0)
  have e3 := Int.emod_lt_of_pos n (by omega : 0 < d)
  have hs : Int.sign d = 1 := Int.sign_eq_one_of_pos (by omega)
  have hn : (d.natAbs : Int) = d := by omega
  have t1 := Int.tdiv_eq_ediv (a := n) (b := d)
  have t2 := Int.tmod_eq_emod (a := n) (b := d)
  rw [hs] at t1
  by_cases hc : 0 ≤ n ∨ d ∣ n
  · rw [if_pos hc] at t1 t2
    have t2' : n.tmod d = n % d := by simpa using t2
    have : ¬ n.tmod d < 0 := by omega
    rw [if_neg this, if_neg this]
    exact ⟨t1, by omega⟩
  · rw [if_neg hc] at t1 t2
    rw [hn] at t2
    have : n.tmod d < 0 := by omega
    rw [if_pos this, if_pos this]
    exact ⟨t1, t2⟩

theorem tdiv_floor {n d : Int} (hd : 1 ≤ d) : (if n.tmod d < 0 then n.tdiv d - 1 else n.tdiv d) = n / d := by
  obtain ⟨h1, h2⟩ := tdiv_pos (n := n) hd
  split <;> (rename_i h; simp only [h, if_true, if_false] at h1; omega)
theorem tmod_floor {n d : Int} (hd : 1 ≤ d) : (if n.tmod d < 0 then n.tmod d + d else n.tmod d) = n % d := by
  obtain ⟨h1, h2⟩ := tdiv_pos (n := n) hd
  split <;> (rename_i h; simp only [h, if_true, if_false] at h2; omega)
theorem R_tdiv {n d : Int} (h : R n) (hd : 1 ≤ d) : R (n.tdiv d) := by
  have h3 := R_ediv h hd
  have h1 := tdiv_floor (n := n) hd
  have h4 := (tdiv_pos (n := n) hd).1
  obtain ⟨g1, g2⟩ := h3
  obtain ⟨k1, k2⟩ := h
  by_cases hm : n.tmod d < 0
  · simp only [hm, if_true] at h1 h4
    refine ⟨by omega, ?_⟩
    have : n / d < 0 := by
      have e2 := Int.emod_nonneg n (by omega : d ≠ 0)
      have t2 := (tdiv_pos (n := n) hd).2
      simp only [hm, if_true] at t2
      have hn : n < 0 := by
        by_cases hn : n < 0
        · exact hn
        · have := Int.tmod_nonneg d (by omega : 0 ≤ n)
          omega
      exact Int.ediv_neg_of_neg_of_pos hn (by omega)
    omega
  · simp only [hm, if_false] at h1 h4
    exact ⟨by omega, by omega⟩
theorem tmod_bd {n d : Int} (hd : 1 ≤ d) : -d < n.tmod d ∧ n.tmod d < d := by
  have h2 := (tdiv_pos (n := n) hd).2
  have e2 := Int.emod_nonneg n (by omega : d ≠ 0)
  have e3 := Int.emod_lt_of_pos n (by omega : 0 < d)
  have := tmod_floor (n := n) hd
  constructor
  · by_cases hm : n.tmod d < 0
    · simp only [hm, if_true] at this
      by_cases hz : n % d = 0
      · exfalso
        have h5 : d ∣ n := Int.dvd_of_emod_eq_zero hz
        have := Int.tmod_eq_zero_of_dvd h5
        omega
      · omega
    · omega
  · split at h2 <;> omega

theorem ediv_le {n d m : Int} (h : n ≤ m) (h0 : 0 ≤ m) (hd : 1 ≤ d) : n / d ≤ m := by
  rcases Int.le_total 0 n with h3 | h3
  · exact Int.le_trans (Int.ediv_le_self d h3) h
  · have : n / d ≤ 0 := by
      have := Int.ediv_le_ediv (by omega : 0 < d) h3
      simpa using this
    omega
def roundS (n d : Int) : Int := if n % d ≥ d - n % d then n / d + 1 else n / d

/-- The greatest common divisor, as the code has it. -/
def gcdI (a b : Int) : Int := if 0 < b then gcdI b (a.tmod b) else a
termination_by b.toNat
decreasing_by
  have := (tmod_bd (n := a) (d := b) (by omega)).2
  omega
theorem gcdI_pos {a b : Int} (h : 0 < b) : gcdI a b = gcdI b (a.tmod b) := by rw [gcdI, if_pos h]
theorem gcdI_neg {a b : Int} (h : ¬ 0 < b) : gcdI a b = a := by rw [gcdI, if_neg h]
end Go.Abs.A09
namespace Go.Abs.A09
open Go Go.Abs Go.Proofs
set_option maxRecDepth 100000
set_option linter.unusedVariables false
set_option linter.unusedSimpArgs false
theorem mixed : Tryd.prog.follows .mixedOrders = true := by kernel_rfl
theorem wr {n : Int} (h : R n) : IntKind.i64.wrap n = n := wrap_i64 h.1 h.2
attribute [local simp ↓] awp_skip awp_seq awp_cond awp_block awp_exit awp_ret awp_reg awp_draw awp_ghost awp_loop awp_rfun awpR_nil awpR_cons awpX_nil awpX_0 awpX_1 awpX_2 awpI_eq awpI_t awpI_f awpStep_eq
attribute [local simp] condL_true condL_false condL_dec evDel evV evN evS evA initFr Ghost.app Fr.var Fr.blk Fr.ff FF.val Abs.look Fr.app Fr.erase Fr.noSlot AV.noSlot AV.noSlotL Blk.noSlot Fr.spoken AV.fz AV.fzL Blk.fz binV binI shI binS unV fillA FF.parts FF.vals headO intO boundO lenV scalarEq leavesEq AV.aggc AV.cells FF.read FF.rows AV.one PV.one chunk freshB newS pickV retK evRs evRl evR resOf mkTup mkAgg allP cloOf okP_nil okX_p okX okP addN Del.noSlot Del.owners Rnd reify_p normM insM Fr.back Fr.backV Fr.setPs normV insV
theorem b47 (n : Int) : Best Tryd.prog 47 [.int .i64 n] (.p (.bool (decide (-64 ≤ n) && decide (n ≤ 64)))) := by
  refine best mixed fn47 ok47 (by simp) ?_
  by_cases h1 : -64 ≤ n <;> by_cases h2 : n ≤ 64 <;> simp -dsimp [ac47, h1, h2]
theorem b19 (n : Int) : Best Tryd.prog 19 [.int .i64 n] (.p (.bool (decide (-64 ≤ n) && decide (n ≤ 64)))) := by
  refine best mixed fn19 ok19 (by simp) ?_
  by_cases h1 : -64 ≤ n <;> by_cases h2 : n ≤ 64 <;> simp -dsimp [ac19, h1, h2]
theorem b67 (n : Int) : Best Tryd.prog 67 [.int .i64 n] (.p (.bool (decide (-1048576 ≤ n) && decide (n ≤ 1048576)))) := by
  refine best mixed fn67 ok67 (by simp) ?_
  by_cases h1 : -1048576 ≤ n <;> by_cases h2 : n ≤ 1048576 <;> simp -dsimp [ac67, h1, h2]
theorem b49 (a l h : Int) : Best Tryd.prog 49 [.int .i64 a, .int .i64 l, .int .i64 h] (.p (.int .i64 (max l (min a h)))) := by
  refine best mixed fn49 ok49 (by simp) ?_
  simp -dsimp [ac49]
theorem b101 {n d : Int} (hn : R n) (hd : R d) : Best Tryd.prog 101 [.int .i64 n, .int .i64 d] (.p (.tup [.int .i64 (if d < 1 then 0 else n / d), .bool (decide (1 ≤ d))])) := by
  refine best mixed fn101 ok101 (by simp) ?_
  by_cases h1 : d < 1
  · have : ¬ 1 ≤ d := by omega
    simp -dsimp [ac101, h1, this]
  · have g1 := tdiv_floor (n := n) (d := d) (by omega)
    have g2 := R_tdiv hn (d := d) (by omega)
    have g3 := R_ediv hn (d := d) (by omega)
    have hd0 : d ≠ 0 := by omega
    have h3 : 1 ≤ d := by omega
    by_cases h2 : n.tmod d < 0 <;> simp only [h2, if_true, if_false] at g1
    · simp -dsimp [ac101, h1, h2, hd0, h3, wr g2, g1, wr g3]
    · simp -dsimp [ac101, h1, h2, hd0, h3, wr g2, g1, wr g3]
theorem b79 {n d : Int} (hn : R n) (hn2 : n ≤ 4611686018427387904) (hd : R d) : Best Tryd.prog 79 [.int .i64 n, .int .i64 d] (.p (.tup [.int .i64 (if d < 1 then 0 else roundS n d), .bool (decide (1 ≤ d))])) := by
  refine best mixed fn79 ok79 (by simp) ?_
  have hb := b101 hn hd
  by_cases h1 : d < 1
  · have h3 : ¬ 1 ≤ d := by omega
    simp only [h1, h3, if_true, decide_false] at hb ⊢
    simp -dsimp [ac79]
    refine call_p hb rfl (by simp) ?_
    simp -dsimp
  · have g2 := tmod_floor (n := n) (d := d) (by omega)
    have g3 := R_ediv hn (d := d) (by omega)
    have g4 := ediv_le (n := n) (d := d) hn2 (by omega) (by omega)
    have hd0 : d ≠ 0 := by omega
    have h3 : 1 ≤ d := by omega
    have e2 := Int.emod_nonneg n hd0
    have e3 := Int.emod_lt_of_pos n (by omega : 0 < d)
    have e5 : ¬ n % d < 0 := by omega
    have w1 : R (n % d) := ⟨by omega, by have := hd.2; omega⟩
    have w2 : R (d - n % d) := ⟨by omega, by have := hd.2; omega⟩
    have w3 : R (n / d + 1) := ⟨by have := g3.1; omega, by omega⟩
    simp only [h1, h3, if_false, decide_true] at hb ⊢
    simp -dsimp [ac79]
    refine call_p hb rfl (by simp) ?_
    by_cases h4 : n % d ≥ d - n % d
    · have hr : roundS n d = n / d + 1 := by simp [roundS, h4]
      have h4' : d - n % d ≤ n % d := h4
      by_cases h2 : n.tmod d < 0 <;> simp only [h2, if_true, if_false] at g2 <;> simp -dsimp [hd0, h2, g2, e5, wr w1, wr w2, wr w3, h4, h4', hr]
    · have hr : roundS n d = n / d := by simp [roundS, h4]
      have h4' : ¬ d - n % d ≤ n % d := h4
      by_cases h2 : n.tmod d < 0 <;> simp only [h2, if_true, if_false] at g2 <;> simp -dsimp [hd0, h2, g2, e5, wr w1, wr w2, h4, h4', hr]
theorem b80 {n d : Int} (hn : R (d - n)) : Best Tryd.prog 80 [.int .i64 n, .int .i64 d] (.p (.bool (decide (n ≥ d - n)))) := by
  refine best mixed fn80 ok80 (by simp) ?_
  simp -dsimp [ac80, wr hn]
theorem b88 {a b : Int} (hb : R b) : Best Tryd.prog 88 [.int .i64 a, .int .i64 b] (.p (.int .i64 (gcdI a b))) := by
  refine best mixed fn88 ok88 (by simp) ?_
  simp -dsimp [ac88]
  refine loopL_rule (fun m F => ∃ x y, m = y.toNat ∧ R y ∧ gcdI x y = gcdI a b ∧ (Ghost.keep [0, 1]).app F = some ⟨[(0, .p (.int .i64 x)), (1, .p (.int .i64 y))], []⟩) ?_ ⟨a, b, rfl, hb, rfl, by simp⟩
  rintro m F ⟨x, y, rfl, hy, hg, hF⟩
  rw [awp_ghost, hF]
  by_cases h : 0 < y
  · have h0 : y ≠ 0 := by omega
    have hb := tmod_bd (n := x) (d := y) (by omega)
    have hr : R (x.tmod y) := ⟨by have := hy.2; omega, by have := hy.2; omega⟩
    simp -dsimp [h, h0, Rnd, okP_nil, okX_p, okX, okP, addN, Fr.erase, Fr.noSlot, Del.owners]
    refine ⟨_, ?_, y, _, rfl, hr, (gcdI_pos h).symm.trans hg, rfl, rfl⟩
    omega
  · simp -dsimp [h, Rnd, ← hg, gcdI_neg h]
theorem b92 {a b : Int} (hb : R b) : Best Tryd.prog 92 [.int .i64 a, .int .i64 b] (.p (.int .i64 (gcdI a b))) := by
  refine best mixed fn92 ok92 (by simp) ?_
  simp -dsimp [ac92]
  refine loopL_rule (fun m F => ∃ x y, m = y.toNat ∧ R y ∧ gcdI x y = gcdI a b ∧ (Ghost.keep [0, 1]).app F = some ⟨[(0, .p (.int .i64 x)), (1, .p (.int .i64 y))], []⟩) ?_ ⟨a, b, rfl, hb, rfl, by simp⟩
  rintro m F ⟨x, y, rfl, hy, hg, hF⟩
  rw [awp_ghost, hF]
  by_cases h : 0 < y
  · have h0 : y ≠ 0 := by omega
    have hb := tmod_bd (n := x) (d := y) (by omega)
    have hr : R (x.tmod y) := ⟨by have := hy.2; omega, by have := hy.2; omega⟩
    simp -dsimp [h, h0, Rnd, okP_nil, okX_p, okX, okP, addN, Fr.erase, Fr.noSlot, Del.owners]
    refine ⟨_, ?_, y, _, rfl, hr, (gcdI_pos h).symm.trans hg, rfl, rfl⟩
    omega
  · simp -dsimp [h, Rnd, ← hg, gcdI_neg h]
theorem b74 {a b : Int} (hb : R b) : Best Tryd.prog 74 [.int .i64 a, .int .i64 b] (.p (.int .i64 (gcdI a b))) := by
  refine best mixed fn74 ok74 (by simp) ?_
  simp -dsimp [ac74]
  refine loopL_rule (fun m F => ∃ x y, m = y.toNat ∧ R y ∧ gcdI x y = gcdI a b ∧ (Ghost.keep [0, 1]).app F = some ⟨[(0, .p (.int .i64 x)), (1, .p (.int .i64 y))], []⟩) ?_ ⟨a, b, rfl, hb, rfl, by simp⟩
  rintro m F ⟨x, y, rfl, hy, hg, hF⟩
  rw [awp_ghost, hF]
  by_cases h : 0 < y
  · have h0 : y ≠ 0 := by omega
    have hb := tmod_bd (n := x) (d := y) (by omega)
    have hr : R (x.tmod y) := ⟨by have := hy.2; omega, by have := hy.2; omega⟩
    simp -dsimp [h, h0, Rnd, okP_nil, okX_p, okX, okP, addN, Fr.erase, Fr.noSlot, Del.owners]
    refine ⟨_, ?_, y, _, rfl, hr, (gcdI_pos h).symm.trans hg, rfl, rfl⟩
    omega
  · simp -dsimp [h, Rnd, ← hg, gcdI_neg h]
theorem b86 {a b : Int} (hb : R b) : Best Tryd.prog 86 [.int .i64 a, .int .i64 b] (.p (.int .i64 (gcdI a b))) := by
  refine best mixed fn86 ok86 (by simp) ?_
  simp -dsimp [ac86]
  refine loopL_rule (fun m F => ∃ x y, m = y.toNat ∧ R y ∧ gcdI x y = gcdI a b ∧ (Ghost.keep [0, 1]).app F = some ⟨[(0, .p (.int .i64 x)), (1, .p (.int .i64 y))], []⟩) ?_ ⟨a, b, rfl, hb, rfl, by simp⟩
  rintro m F ⟨x, y, rfl, hy, hg, hF⟩
  rw [awp_ghost, hF]
  by_cases h : 0 < y
  · have h0 : y ≠ 0 := by omega
    have hb := tmod_bd (n := x) (d := y) (by omega)
    have hr : R (x.tmod y) := ⟨by have := hy.2; omega, by have := hy.2; omega⟩
    simp -dsimp [h, h0, Rnd, okP_nil, okX_p, okX, okP, addN, Fr.erase, Fr.noSlot, Del.owners]
    refine ⟨_, ?_, y, _, rfl, hr, (gcdI_pos h).symm.trans hg, rfl, rfl⟩
    omega
  · simp -dsimp [h, Rnd, ← hg, gcdI_neg h]
end Go.Abs.A09
namespace Go.Abs.A09
open Go Go.Abs Go.Proofs
set_option maxRecDepth 100000
set_option linter.unusedVariables false
/-- abugida/abugidalaw09.short -/
def ac12 : AC := (.ghost (.keep [0])
  (.seq (.reg [⟨some 1, .box (.v 0), none, []⟩,
    ⟨some 2, .alloc [.str ⟨#[]⟩, .int .i64 0, .int .i64 0, .int .i64 0, .nsl], none, []⟩])
  (.ghost (.keep [1, 2]) (.seq (.reg [⟨some 3, .faddr 0 (.v 1), none, []⟩,
    ⟨some 4, .load false 1 (.v 3), none, [0]⟩,
    ⟨some 5, .faddr 0 (.v 1), none, []⟩,
    ⟨some 6, .load false 1 (.v 5), none, [2]⟩,
    ⟨some 7, .len true (.v 6), none, [3]⟩,
    ⟨some 8, .mm false (.v 7) (.c (.int .i64 20)), none, [4]⟩,
    ⟨some 9, .slcS (.v 4) none (some (.v 8)), none, [1, 5]⟩,
    ⟨some 10, .faddr 0 (.v 1), none, [0, 1, 2, 3, 4, 5, 6]⟩,
    ⟨none, .store 1 (.v 10) (.v 9), none, [7, 6, 0, 1, 2, 3, 4, 5, 6]⟩])
  (.ghost (.keep [1, 2]) (.seq (.reg [⟨some 11, .bslice 30 2 0 [] [], none, []⟩,
    ⟨some 12, .faddr 4 (.v 1), none, []⟩,
    ⟨some 13, .load false 1 (.v 12), none, [1]⟩,
    ⟨some 14, .faddr 4 (.v 1), none, []⟩,
    ⟨some 15, .load false 1 (.v 14), none, [3]⟩,
    ⟨some 16, .len false (.v 15), none, [4]⟩,
    ⟨some 17, .mm false (.v 16) (.c (.int .i64 8)), none, [5]⟩,
    ⟨some 18, .slcV 2 (.v 13) none (some (.v 17)), none, [2, 6]⟩,
    ⟨some 19, .app 30 2 16 (.v 11) (.v 18), none, [0, 7]⟩,
    ⟨some 20, .faddr 4 (.v 1), none, [0, 1, 2, 3, 4, 5, 6, 7, 8]⟩,
    ⟨none, .store 1 (.v 20) (.v 19), none, [9, 8, 8, 0, 1, 2, 3, 4, 5, 6, 7, 8]⟩])
  (.ghost (.keep [1, 2]) (.seq (.reg [⟨some 21, .load true 5 (.v 1), none, []⟩,
    ⟨none, .store 5 (.v 2) (.v 21), none, [0, 0]⟩])
  (.ghost (.keep [2]) .ret)))))))))
theorem fn12 : factOf Tryd.prog 12 = some (ac12.strip, [.cell 2 true 5], 22) := by kernel_rfl
theorem ok12 : ac12.okAll = true := by kernel_rfl

/-- abugida/abugidaref09.MadeAxis -/
def ac13 : AC := (.ghost (.keep [0, 1])
  (.seq (.reg [⟨some 4, .alloc [.str ⟨#[]⟩, .int .i64 0, .int .i64 0, .int .i64 0, .nsl], none, []⟩])
  (.ghost (.keep [0, 1, 4]) (.seq (.reg [⟨some 13, .mov (.v 0), none, []⟩,
    ⟨some 14, .call 43 [.v 13, .c (.int .i64 0)], none, [0]⟩,
    ⟨some 15, .bin .rem (.v 14) (.c (.int .i64 41)), none, [1]⟩,
    ⟨some 16, .bin .mul (.v 15) (.c (.int .i64 25)), none, [2]⟩,
    ⟨some 17, .bin .sub (.v 16) (.c (.int .i64 500)), none, [3]⟩,
    ⟨some 5, .mov (.v 17), none, [4, 1, 0, 1, 2, 3, 4]⟩])
  (.ghost (.keep [0, 1, 4, 5]) (.seq (.reg [⟨some 18, .mov (.v 1), none, []⟩,
    ⟨some 19, .mov (.v 5), none, []⟩,
    ⟨some 20, .mov (.v 5), none, []⟩,
    ⟨some 21, .mov (.v 5), none, []⟩,
    ⟨some 22, .build [.str ⟨#[]⟩, .int .i64 0, .int .i64 0, .int .i64 0, .nsl] [(0, 1, .v 18), (1, 1, .v 19), (2, 1, .v 20), (3, 1, .v 21)], none, [0, 1, 2, 3]⟩,
    ⟨some 6, .alloc [.str ⟨#[]⟩, .int .i64 0, .int .i64 0, .int .i64 0, .nsl], none, []⟩,
    ⟨none, .store 5 (.v 6) (.v 22), none, [5, 4, 0, 1, 2, 3, 4, 5]⟩])
  (.ghost (.keep [0, 4, 5, 6]) (.seq (.reg [⟨some 23, .mov (.v 0), none, []⟩,
    ⟨some 24, .call 43 [.v 23, .c (.int .i64 1)], none, [0]⟩,
    ⟨some 25, .bin .rem (.v 24) (.c (.int .i64 3)), none, [1]⟩,
    ⟨some 7, .mov (.v 25), none, [2, 1, 0, 1, 2]⟩])
  (.ghost (.keep [0, 4, 5, 6, 7]) (.seq (.reg [⟨some 26, .mov (.v 0), none, []⟩,
    ⟨some 27, .call 43 [.v 26, .c (.int .i64 2)], none, [0]⟩,
    ⟨some 28, .bin .rem (.v 27) (.c (.int .i64 3)), none, [1]⟩,
    ⟨some 8, .mov (.v 28), none, [2, 1, 0, 1, 2]⟩])
  (.ghost (.keep [0, 4, 5, 6, 7, 8]) (.seq (.reg [⟨some 9, .mov (.c .nsl), none, []⟩])
  (.ghost (.own 9 63 30 2) (.ghost (.keep [0, 4, 5, 6, 7, 8, 9]) (.seq (.reg [⟨some 10, .mov (.c (.int .i64 0)), none, []⟩])
  (.ghost (.keep [0, 4, 5, 6, 7, 8, 9, 10]) (.seq (.seq (.reg [⟨some 11, .mov (.c (.int .i64 0)), none, []⟩])
  (.ghost (.keep [0, 4, 5, 6, 7, 8, 9, 10, 11]) (.block 0 (.loop (.ghost (.keep [0, 4, 5, 6, 7, 8, 9, 10, 11]) (.seq (.seq (.reg [⟨some 29, .mov (.v 11), none, []⟩,
    ⟨some 30, .mov (.v 7), none, []⟩,
    ⟨some 31, .bin .lss (.v 29) (.v 30), none, [0, 1]⟩])
  (.ghost (.keep [0, 4, 5, 6, 7, 8, 9, 10, 11, 31]) (.cond (.v 31)
  .skip
  (.exit 0))))
  (.ghost (.keep [0, 4, 5, 6, 7, 8, 9, 10, 11]) (.seq (.block 1 (.seq (.draw [⟨⟨some 34, .faddr 1 (.v 6), none, []⟩, [37, 38, 39, 40, 41], [40], [], [], 2⟩,
    ⟨⟨some 35, .load false 1 (.v 34), none, [0]⟩, [37, 38, 39, 40, 41], [40], [], [], 0⟩,
    ⟨⟨some 36, .bin .sub (.v 35) (.c (.int .i64 1)), none, [1]⟩, [37, 38, 39, 40, 41], [40], [], [], 2⟩,
    ⟨⟨some 37, .mov (.v 0), none, []⟩, [34, 35, 36, 38, 39], [], [], [0, 1, 2], 2⟩,
    ⟨⟨some 38, .mov (.v 11), none, []⟩, [34, 35, 36, 37], [], [], [0, 1, 2, 3], 2⟩,
    ⟨⟨some 39, .bin .add (.c (.int .i64 3)) (.v 38), none, [4]⟩, [34, 35, 36, 37], [], [], [0, 1, 2, 3], 2⟩,
    ⟨⟨some 40, .call 43 [.v 37, .v 39], none, [3, 5]⟩, [34, 35, 36], [], [40], [0, 1, 2], 1⟩,
    ⟨⟨some 41, .bin .rem (.v 40) (.c (.int .i64 200)), none, [6]⟩, [34, 35, 36], [], [], [0, 1, 2], 2⟩,
    ⟨⟨some 42, .bin .sub (.v 36) (.v 41), none, [2, 7]⟩, [], [], [], [], 2⟩,
    ⟨⟨some 43, .faddr 1 (.v 6), none, [0, 1, 2, 3, 4, 5, 6, 7, 8]⟩, [], [], [], [], 2⟩,
    ⟨⟨none, .store 1 (.v 43) (.v 42), none, [9, 8, 6, 0, 1, 2, 3, 4, 5, 6, 7, 8]⟩, [], [], [6], [], 1⟩])
  (.ghost (.keep [0, 4, 5, 6, 7, 8, 9, 10, 11]) (.seq (.reg [⟨some 44, .mov (.v 10), none, []⟩,
    ⟨some 45, .mov (.v 0), none, []⟩,
    ⟨some 46, .mov (.v 11), none, []⟩,
    ⟨some 47, .bin .add (.c (.int .i64 5)) (.v 46), none, [2]⟩,
    ⟨some 48, .call 43 [.v 45, .v 47], none, [1, 3]⟩,
    ⟨some 49, .bin .rem (.v 48) (.c (.int .i64 65)), none, [4]⟩,
    ⟨some 50, .bin .sub (.v 44) (.v 49), none, [0, 5]⟩,
    ⟨some 51, .mm true (.c (.int .i64 (-64))) (.v 50), none, [6]⟩,
    ⟨some 10, .mov (.v 51), none, [7, 4, 0, 1, 2, 3, 4, 5, 6, 7]⟩])
  (.ghost (.keep [0, 4, 5, 6, 7, 8, 9, 10, 11]) (.reg [⟨some 52, .faddr 1 (.v 6), none, []⟩,
    ⟨some 53, .load false 1 (.v 52), none, [0]⟩,
    ⟨some 54, .mov (.v 10), none, []⟩,
    ⟨some 55, .build [.int .i64 0, .int .i64 0] [(0, 1, .v 53), (1, 1, .v 54)], none, [1, 2]⟩,
    ⟨some 56, .bslice 30 2 1 [.int .i64 0, .int .i64 0] [(0, 2, .v 55)], none, [3]⟩,
    ⟨some 57, .mov (.v 9), none, []⟩,
    ⟨some 58, .app 30 2 16 (.v 56) (.v 57), none, [4, 5]⟩,
    ⟨some 9, .mov (.v 58), none, [6, 6, 0, 1, 2, 3, 4, 5, 6]⟩]))))))
  (.ghost (.keep [0, 4, 5, 6, 7, 8, 9, 10, 11]) (.reg [⟨some 32, .mov (.v 11), none, []⟩,
    ⟨some 33, .bin .add (.v 32) (.c (.int .i64 1)), none, [0]⟩,
    ⟨some 11, .mov (.v 33), none, [1, 0, 1]⟩]))))))))))
  (.ghost (.keep [0, 4, 5, 6, 8, 9]) (.seq (.reg [⟨some 59, .mov (.v 9), none, []⟩,
    ⟨some 60, .mov (.v 5), none, []⟩,
    ⟨some 61, .build [.int .i64 0, .int .i64 0] [(0, 1, .v 60), (1, 1, .c (.int .i64 0))], none, [1]⟩,
    ⟨some 62, .bslice 30 2 1 [.int .i64 0, .int .i64 0] [(0, 2, .v 61)], none, [2]⟩,
    ⟨some 63, .app 30 2 16 (.v 59) (.v 62), none, [0, 3]⟩,
    ⟨some 64, .faddr 4 (.v 6), none, [0, 1, 2, 3, 4]⟩,
    ⟨none, .store 1 (.v 64) (.v 63), none, [5, 4, 4, 0, 1, 2, 3, 4]⟩])
  (.ghost (.keep [0, 4, 6, 8]) (.seq (.reg [⟨some 10, .mov (.c (.int .i64 0)), none, []⟩])
  (.ghost (.keep [0, 4, 6, 8, 10]) (.seq (.seq (.reg [⟨some 12, .mov (.c (.int .i64 0)), none, []⟩])
  (.ghost (.keep [0, 4, 6, 8, 10, 12]) (.block 2 (.loop (.ghost (.keep [0, 4, 6, 8, 10, 12]) (.seq (.seq (.reg [⟨some 65, .mov (.v 12), none, []⟩,
    ⟨some 66, .mov (.v 8), none, []⟩,
    ⟨some 67, .bin .lss (.v 65) (.v 66), none, [0, 1]⟩])
  (.ghost (.keep [0, 4, 6, 8, 10, 12, 67]) (.cond (.v 67)
  .skip
  (.exit 2))))
  (.ghost (.keep [0, 4, 6, 8, 10, 12]) (.seq (.block 3 (.seq (.draw [⟨⟨some 70, .faddr 3 (.v 6), none, []⟩, [73, 74, 75, 76, 77], [76], [], [], 2⟩,
    ⟨⟨some 71, .load false 1 (.v 70), none, [0]⟩, [73, 74, 75, 76, 77], [76], [], [], 0⟩,
    ⟨⟨some 72, .bin .add (.v 71) (.c (.int .i64 1)), none, [1]⟩, [73, 74, 75, 76, 77], [76], [], [], 2⟩,
    ⟨⟨some 73, .mov (.v 0), none, []⟩, [70, 71, 72, 74, 75], [], [], [0, 1, 2], 2⟩,
    ⟨⟨some 74, .mov (.v 12), none, []⟩, [70, 71, 72, 73], [], [], [0, 1, 2, 3], 2⟩,
    ⟨⟨some 75, .bin .add (.c (.int .i64 7)) (.v 74), none, [4]⟩, [70, 71, 72, 73], [], [], [0, 1, 2, 3], 2⟩,
    ⟨⟨some 76, .call 43 [.v 73, .v 75], none, [3, 5]⟩, [70, 71, 72], [], [76], [0, 1, 2], 1⟩,
    ⟨⟨some 77, .bin .rem (.v 76) (.c (.int .i64 200)), none, [6]⟩, [70, 71, 72], [], [], [0, 1, 2], 2⟩,
    ⟨⟨some 78, .bin .add (.v 72) (.v 77), none, [2, 7]⟩, [], [], [], [], 2⟩,
    ⟨⟨some 79, .faddr 3 (.v 6), none, [0, 1, 2, 3, 4, 5, 6, 7, 8]⟩, [], [], [], [], 2⟩,
    ⟨⟨none, .store 1 (.v 79) (.v 78), none, [9, 8, 6, 0, 1, 2, 3, 4, 5, 6, 7, 8]⟩, [], [], [6], [], 1⟩])
  (.ghost (.keep [0, 4, 6, 8, 10, 12]) (.seq (.reg [⟨some 80, .mov (.v 10), none, []⟩,
    ⟨some 81, .mov (.v 0), none, []⟩,
    ⟨some 82, .mov (.v 12), none, []⟩,
    ⟨some 83, .bin .add (.c (.int .i64 9)) (.v 82), none, [2]⟩,
    ⟨some 84, .call 43 [.v 81, .v 83], none, [1, 3]⟩,
    ⟨some 85, .bin .rem (.v 84) (.c (.int .i64 65)), none, [4]⟩,
    ⟨some 86, .bin .add (.v 80) (.v 85), none, [0, 5]⟩,
    ⟨some 87, .mm false (.c (.int .i64 64)) (.v 86), none, [6]⟩,
    ⟨some 10, .mov (.v 87), none, [7, 4, 0, 1, 2, 3, 4, 5, 6, 7]⟩])
  (.ghost (.keep [0, 4, 6, 8, 10, 12]) (.reg [⟨some 88, .faddr 4 (.v 6), none, []⟩,
    ⟨some 89, .load false 1 (.v 88), none, [0]⟩,
    ⟨some 90, .faddr 3 (.v 6), none, []⟩,
    ⟨some 91, .load false 1 (.v 90), none, [2]⟩,
    ⟨some 92, .mov (.v 10), none, []⟩,
    ⟨some 93, .build [.int .i64 0, .int .i64 0] [(0, 1, .v 91), (1, 1, .v 92)], none, [3, 4]⟩,
    ⟨some 94, .bslice 30 2 1 [.int .i64 0, .int .i64 0] [(0, 2, .v 93)], none, [5]⟩,
    ⟨some 95, .app 30 2 16 (.v 89) (.v 94), none, [1, 6]⟩,
    ⟨some 96, .faddr 4 (.v 6), none, [0, 1, 2, 3, 4, 5, 6, 7]⟩,
    ⟨none, .store 1 (.v 96) (.v 95), none, [8, 7, 7, 0, 1, 2, 3, 4, 5, 6, 7]⟩]))))))
  (.ghost (.keep [0, 4, 6, 8, 10, 12]) (.reg [⟨some 68, .mov (.v 12), none, []⟩,
    ⟨some 69, .bin .add (.v 68) (.c (.int .i64 1)), none, [0]⟩,
    ⟨some 12, .mov (.v 69), none, [1, 0, 1]⟩]))))))))))
  (.ghost (.keep [4, 6]) (.seq (.reg [⟨some 97, .load true 5 (.v 6), none, []⟩,
    ⟨none, .store 5 (.v 4) (.v 97), none, [0, 0]⟩])
  (.ghost (.keep [4]) .ret))))))))))))))))))))))))))
theorem fn13 : factOf Tryd.prog 13 = some (ac13.strip, [.cell 4 true 5], 98) := by kernel_rfl
theorem ok13 : ac13.okAll = true := by kernel_rfl

/-- abugida/axes.Check -/
def ac14 : AC := (.ghost (.keep [0])
  (.seq (.reg [⟨some 1, .box (.v 0), none, []⟩,
    ⟨some 2, .alloc [.int .i64 0], none, []⟩])
  (.ghost (.keep [1, 2]) (.seq (.reg [⟨some 6, .faddr 4 (.v 1), none, []⟩,
    ⟨some 7, .load false 1 (.v 6), none, [0]⟩,
    ⟨some 8, .len false (.v 7), none, [1]⟩,
    ⟨some 3, .mov (.v 8), none, [2, 0, 1, 2]⟩])
  (.ghost (.keep [1, 2, 3]) (.seq (.block 0 (.seq (.reg [⟨some 10, .faddr 0 (.v 1), none, []⟩,
    ⟨some 11, .load false 1 (.v 10), none, [0]⟩,
    ⟨some 12, .call 44 [.v 11], none, [1]⟩,
    ⟨some 13, .un .not (.v 12), none, [2]⟩,
    ⟨some 9, .mov (.v 13), none, [3, 2]⟩])
  (.ghost (.keep [1, 2, 3, 9]) (.cond (.v 9)
  (.seq (.reg [⟨none, .store 1 (.v 2) (.c (.int .i64 36)), none, []⟩])
  (.ghost (.keep [2]) .ret))
  (.seq (.seq (.reg [⟨some 15, .faddr 1 (.v 1), none, []⟩,
    ⟨some 16, .load false 1 (.v 15), none, [0]⟩,
    ⟨some 17, .bin .lss (.v 16) (.c (.int .i64 (-10000))), none, [1]⟩,
    ⟨some 14, .mov (.v 17), none, [2]⟩])
  (.ghost (.keep [1, 2, 3, 14]) (.cond (.v 14)
  .skip
  (.seq (.reg [⟨some 18, .faddr 1 (.v 1), none, []⟩,
    ⟨some 19, .load false 1 (.v 18), none, [0]⟩,
    ⟨some 20, .faddr 2 (.v 1), none, []⟩,
    ⟨some 21, .load false 1 (.v 20), none, [2]⟩,
    ⟨some 22, .bin .gtr (.v 19) (.v 21), none, [1, 3]⟩,
    ⟨some 14, .mov (.v 22), none, [4]⟩])
  (.ghost (.keep [1, 2, 3, 14]) (.cond (.v 14)
  .skip
  (.seq (.reg [⟨some 23, .faddr 2 (.v 1), none, []⟩,
    ⟨some 24, .load false 1 (.v 23), none, [0]⟩,
    ⟨some 25, .faddr 3 (.v 1), none, []⟩,
    ⟨some 26, .load false 1 (.v 25), none, [2]⟩,
    ⟨some 27, .bin .gtr (.v 24) (.v 26), none, [1, 3]⟩,
    ⟨some 14, .mov (.v 27), none, [4]⟩])
  (.ghost (.keep [1, 2, 3, 14]) (.cond (.v 14)
  .skip
  (.seq (.reg [⟨some 28, .faddr 3 (.v 1), none, []⟩,
    ⟨some 29, .load false 1 (.v 28), none, [0]⟩,
    ⟨some 30, .bin .gtr (.v 29) (.c (.int .i64 10000)), none, [1]⟩,
    ⟨some 14, .mov (.v 30), none, [2]⟩])
  (.ghost (.keep [1, 2, 3, 14]) (.cond (.v 14)
  .skip
  (.seq (.reg [⟨some 31, .mov (.v 3), none, []⟩,
    ⟨some 32, .bin .lss (.v 31) (.c (.int .i64 1)), none, [0]⟩,
    ⟨some 14, .mov (.v 32), none, [1]⟩])
  (.ghost (.keep [1, 2, 3, 14]) (.cond (.v 14)
  .skip
  (.reg [⟨some 33, .mov (.v 3), none, []⟩,
    ⟨some 34, .bin .gtr (.v 33) (.c (.int .i64 6)), none, [0]⟩,
    ⟨some 14, .mov (.v 34), none, [1]⟩]))))))))))))))))
  (.ghost (.keep [1, 2, 3, 14]) (.cond (.v 14)
  (.seq (.reg [⟨none, .store 1 (.v 2) (.c (.int .i64 10)), none, []⟩])
  (.ghost (.keep [2]) .ret))
  (.seq (.seq (.draw [⟨⟨some 36, .faddr 4 (.v 1), none, []⟩, [41, 42], [], [], [], 2⟩,
    ⟨⟨some 37, .load false 1 (.v 36), none, [0]⟩, [41, 42], [], [], [], 2⟩,
    ⟨⟨some 38, .iaddr 2 (.v 37) (.c (.int .i64 0)), none, [1]⟩, [41, 42], [], [], [], 2⟩,
    ⟨⟨some 39, .iaddrA 1 2 (.v 38) (.c (.int .i64 0)), none, [2]⟩, [41, 42], [], [], [], 2⟩,
    ⟨⟨some 40, .load false 1 (.v 39), none, [3]⟩, [41, 42], [], [], [], 2⟩,
    ⟨⟨some 41, .faddr 1 (.v 1), none, []⟩, [36, 37, 38, 39, 40], [], [], [0, 1, 2, 3, 4], 2⟩,
    ⟨⟨some 42, .load false 1 (.v 41), none, [5]⟩, [36, 37, 38, 39, 40], [], [], [0, 1, 2, 3, 4], 2⟩,
    ⟨⟨some 43, .bin .neq (.v 40) (.v 42), none, [4, 6]⟩, [], [], [], [], 2⟩,
    ⟨⟨some 35, .mov (.v 43), none, [7]⟩, [], [], [], [], 2⟩])
  (.ghost (.keep [1, 2, 3, 35]) (.cond (.v 35)
  .skip
  (.seq (.draw [⟨⟨some 44, .faddr 4 (.v 1), none, []⟩, [46, 47, 51, 52], [], [], [], 2⟩,
    ⟨⟨some 45, .load false 1 (.v 44), none, [0]⟩, [46, 47, 51, 52], [], [], [], 2⟩,
    ⟨⟨some 46, .mov (.v 3), none, []⟩, [44, 45, 51, 52], [], [], [0, 1], 2⟩,
    ⟨⟨some 47, .bin .sub (.v 46) (.c (.int .i64 1)), none, [2]⟩, [44, 45, 51, 52], [], [], [0, 1], 2⟩,
    ⟨⟨some 48, .iaddr 2 (.v 45) (.v 47), none, [1, 3]⟩, [51, 52], [], [], [], 2⟩,
    ⟨⟨some 49, .iaddrA 1 2 (.v 48) (.c (.int .i64 0)), none, [4]⟩, [51, 52], [], [], [], 2⟩,
    ⟨⟨some 50, .load false 1 (.v 49), none, [5]⟩, [51, 52], [], [], [], 2⟩,
    ⟨⟨some 51, .faddr 3 (.v 1), none, []⟩, [44, 45, 46, 47, 48, 49, 50], [], [], [0, 1, 2, 3, 4, 5, 6], 2⟩,
    ⟨⟨some 52, .load false 1 (.v 51), none, [7]⟩, [44, 45, 46, 47, 48, 49, 50], [], [], [0, 1, 2, 3, 4, 5, 6], 2⟩,
    ⟨⟨some 53, .bin .neq (.v 50) (.v 52), none, [6, 8]⟩, [], [], [], [], 2⟩,
    ⟨⟨some 35, .mov (.v 53), none, [9]⟩, [], [], [], [], 2⟩])
  (.ghost (.keep [1, 2, 3, 35]) (.cond (.v 35)
  .skip
  (.reg [⟨some 54, .faddr 4 (.v 1), none, []⟩,
    ⟨some 55, .load false 1 (.v 54), none, [0]⟩,
    ⟨some 56, .faddr 2 (.v 1), none, []⟩,
    ⟨some 57, .load false 1 (.v 56), none, [2]⟩,
    ⟨some 58, .build [.int .i64 0, .int .i64 0] [(0, 1, .v 57), (1, 1, .c (.int .i64 0))], none, [3]⟩,
    ⟨some 59, .call 45 [.v 55, .v 58], none, [1, 4]⟩,
    ⟨some 60, .un .not (.v 59), none, [5]⟩,
    ⟨some 35, .mov (.v 60), none, [6, 5]⟩])))))))
  (.ghost (.keep [1, 2, 3, 35]) (.cond (.v 35)
  (.seq (.reg [⟨none, .store 1 (.v 2) (.c (.int .i64 10)), none, []⟩])
  (.ghost (.keep [2]) .ret))
  .skip))))))))))
  (.ghost (.keep [1, 2, 3]) (.seq (.seq (.draw [⟨⟨some 61, .faddr 4 (.v 1), none, []⟩, [63, 64, 65], [], [], [], 2⟩,
    ⟨⟨some 62, .load false 1 (.v 61), none, [0]⟩, [63, 64, 65], [], [], [], 2⟩,
    ⟨⟨some 63, .faddr 4 (.v 1), none, []⟩, [61, 62], [], [], [0, 1], 2⟩,
    ⟨⟨some 64, .load false 1 (.v 63), none, [2]⟩, [61, 62], [], [], [0, 1], 2⟩,
    ⟨⟨some 65, .slcV 2 (.v 64) (some (.c (.int .i64 1))) none, none, [3]⟩, [61, 62], [], [], [0, 1], 2⟩,
    ⟨⟨some 66, .call 46 [.v 62, .v 65], none, [1, 4]⟩, [], [], [66], [], 1⟩])
  (.ghost (.keep [1, 2, 3, 66]) (.block 1 (.rfun (.v 66) [67, 68] [4, 5, 67, 68, 69, 70, 71, 72, 73, 74, 75, 76, 77, 78, 79, 80]
  (.seq (.reg [⟨some 4, .alloc [.int .i64 0, .int .i64 0], none, []⟩,
    ⟨none, .store 2 (.v 4) (.v 67), none, [0, 0]⟩])
  (.ghost (.keep [1, 2, 3, 4, 66, 68]) (.reg [⟨some 5, .alloc [.int .i64 0, .int .i64 0], none, []⟩,
    ⟨none, .store 2 (.v 5) (.v 68), none, [0, 0]⟩])))
  (.ghost (.keep [1, 2, 3, 4, 5, 66]) (.block 2 (.seq (.reg [⟨some 69, .iaddrA 1 2 (.v 4) (.c (.int .i64 0)), none, []⟩,
    ⟨some 70, .load false 1 (.v 69), none, [0]⟩,
    ⟨some 71, .iaddrA 1 2 (.v 5) (.c (.int .i64 0)), none, []⟩,
    ⟨some 72, .load false 1 (.v 71), none, [2]⟩,
    ⟨some 73, .bin .geq (.v 70) (.v 72), none, [1, 3]⟩,
    ⟨some 74, .mov (.v 73), none, [4]⟩,
    ⟨some 75, .iaddrA 1 2 (.v 4) (.c (.int .i64 1)), some (74, false), [5]⟩,
    ⟨some 76, .load false 1 (.v 75), some (74, false), [6, 5]⟩,
    ⟨some 77, .iaddrA 1 2 (.v 5) (.c (.int .i64 1)), some (74, false), [5]⟩,
    ⟨some 78, .load false 1 (.v 77), some (74, false), [8, 5]⟩,
    ⟨some 79, .bin .gtr (.v 76) (.v 78), some (74, false), [7, 9, 5]⟩,
    ⟨some 80, .pick (.v 74) (.c (.bool true)) (.v 79), none, [5, 10]⟩])
  (.ghost (.keep [1, 2, 3, 66, 80]) (.cond (.v 80)
  (.seq (.reg [⟨none, .store 1 (.v 2) (.c (.int .i64 10)), none, []⟩])
  (.ghost (.keep [2]) .ret))
  .skip)))))))))
  (.ghost (.keep [1, 2, 3]) (.seq (.seq (.reg [⟨some 81, .faddr 4 (.v 1), none, []⟩,
    ⟨some 82, .load false 1 (.v 81), none, [0]⟩,
    ⟨some 83, .iaddr 2 (.v 82) (.c (.int .i64 0)), none, [1]⟩,
    ⟨some 84, .iaddrA 1 2 (.v 83) (.c (.int .i64 1)), none, [2]⟩,
    ⟨some 85, .load false 1 (.v 84), none, [3]⟩,
    ⟨some 86, .call 47 [.v 85], none, [4]⟩,
    ⟨some 87, .un .not (.v 86), none, [5]⟩,
    ⟨some 88, .mov (.v 87), none, [6, 5]⟩,
    ⟨some 89, .faddr 4 (.v 1), some (88, false), [7]⟩,
    ⟨some 90, .load false 1 (.v 89), some (88, false), [8, 7]⟩,
    ⟨some 91, .mov (.v 3), some (88, false), [7]⟩,
    ⟨some 92, .bin .sub (.v 91) (.c (.int .i64 1)), some (88, false), [10, 7]⟩,
    ⟨some 93, .iaddr 2 (.v 90) (.v 92), some (88, false), [9, 11, 7]⟩,
    ⟨some 94, .iaddrA 1 2 (.v 93) (.c (.int .i64 1)), some (88, false), [12, 7]⟩,
    ⟨some 95, .load false 1 (.v 94), some (88, false), [13, 7]⟩,
    ⟨some 96, .call 47 [.v 95], some (88, false), [14, 7, 7]⟩,
    ⟨some 97, .un .not (.v 96), some (88, false), [15, 7]⟩,
    ⟨some 98, .pick (.v 88) (.c (.bool true)) (.v 97), none, [7, 16]⟩])
  (.ghost (.keep [2, 98]) (.cond (.v 98)
  (.seq (.reg [⟨none, .store 1 (.v 2) (.c (.int .i64 10)), none, []⟩])
  (.ghost (.keep [2]) .ret))
  .skip)))
  (.ghost (.keep [2]) (.seq (.reg [⟨none, .store 1 (.v 2) (.c (.int .i64 0)), none, []⟩])
  (.ghost (.keep [2]) .ret)))))))))))))
theorem fn14 : factOf Tryd.prog 14 = some (ac14.strip, [.cell 2 false 1], 99) := by kernel_rfl
theorem ok14 : ac14.okAll = true := by kernel_rfl

/-- abugida/abugidaref09.Check -/
def ac15 : AC := (.ghost (.keep [0])
  (.seq (.reg [⟨some 1, .box (.v 0), none, []⟩,
    ⟨some 2, .mov (.c (.int .i64 0)), none, []⟩])
  (.ghost (.keep [1]) (.seq (.reg [⟨some 9, .faddr 0 (.v 1), none, []⟩,
    ⟨some 10, .load false 1 (.v 9), none, [0]⟩,
    ⟨some 11, .call 48 [.v 10], none, [1]⟩,
    ⟨some 3, .mov (.v 11), none, [2, 2, 0, 1, 2]⟩])
  (.ghost (.keep [1, 3]) (.seq (.seq (.reg [⟨some 12, .mov (.v 3), none, []⟩,
    ⟨some 13, .un .not (.v 12), none, [0]⟩])
  (.ghost (.keep [1, 13]) (.cond (.v 13)
  (.seq (.reg [⟨some 2, .mov (.c (.int .i64 36)), none, []⟩])
  (.ghost (.keep [2]) .ret))
  .skip)))
  (.ghost (.keep [1]) (.seq (.reg [⟨some 14, .faddr 4 (.v 1), none, []⟩,
    ⟨some 15, .load false 1 (.v 14), none, [0]⟩,
    ⟨some 16, .len false (.v 15), none, [1]⟩,
    ⟨some 4, .mov (.v 16), none, [2, 0, 1, 2]⟩])
  (.ghost (.keep [1, 4]) (.seq (.seq (.draw [⟨⟨some 17, .faddr 1 (.v 1), none, []⟩, [], [], [], [], 2⟩,
    ⟨⟨some 18, .load false 1 (.v 17), none, [0]⟩, [], [], [], [], 2⟩,
    ⟨⟨some 19, .bin .lss (.v 18) (.c (.int .i64 (-10000))), none, [1]⟩, [], [], [], [], 2⟩,
    ⟨⟨some 20, .mov (.v 19), none, [2]⟩, [], [], [], [], 2⟩,
    ⟨⟨some 21, .faddr 1 (.v 1), some (20, false), [3]⟩, [23, 24], [], [], [], 2⟩,
    ⟨⟨some 22, .load false 1 (.v 21), some (20, false), [4, 3]⟩, [23, 24], [], [], [], 2⟩,
    ⟨⟨some 23, .faddr 2 (.v 1), some (20, false), [3]⟩, [21, 22], [], [], [4, 5], 2⟩,
    ⟨⟨some 24, .load false 1 (.v 23), some (20, false), [6, 3]⟩, [21, 22], [], [], [4, 5], 2⟩,
    ⟨⟨some 25, .bin .gtr (.v 22) (.v 24), some (20, false), [5, 7, 3]⟩, [], [], [], [], 2⟩,
    ⟨⟨some 26, .pick (.v 20) (.c (.bool true)) (.v 25), none, [3, 8]⟩, [], [], [], [], 2⟩,
    ⟨⟨some 27, .mov (.v 26), none, [9, 3]⟩, [], [], [], [], 2⟩,
    ⟨⟨some 28, .faddr 2 (.v 1), some (27, false), [10]⟩, [30, 31], [], [], [], 2⟩,
    ⟨⟨some 29, .load false 1 (.v 28), some (27, false), [11, 10]⟩, [30, 31], [], [], [], 2⟩,
    ⟨⟨some 30, .faddr 3 (.v 1), some (27, false), [10]⟩, [28, 29], [], [], [11, 12], 2⟩,
    ⟨⟨some 31, .load false 1 (.v 30), some (27, false), [13, 10]⟩, [28, 29], [], [], [11, 12], 2⟩,
    ⟨⟨some 32, .bin .gtr (.v 29) (.v 31), some (27, false), [12, 14, 10]⟩, [], [], [], [], 2⟩,
    ⟨⟨some 33, .pick (.v 27) (.c (.bool true)) (.v 32), none, [10, 15]⟩, [], [], [], [], 2⟩,
    ⟨⟨some 34, .mov (.v 33), none, [16, 10]⟩, [], [], [], [], 2⟩,
    ⟨⟨some 35, .faddr 3 (.v 1), some (34, false), [17]⟩, [], [], [], [], 2⟩,
    ⟨⟨some 36, .load false 1 (.v 35), some (34, false), [18, 17]⟩, [], [], [], [], 2⟩,
    ⟨⟨some 37, .bin .gtr (.v 36) (.c (.int .i64 10000)), some (34, false), [19, 17]⟩, [], [], [], [], 2⟩,
    ⟨⟨some 38, .pick (.v 34) (.c (.bool true)) (.v 37), none, [17, 20]⟩, [], [], [], [], 2⟩,
    ⟨⟨some 39, .mov (.v 38), none, [21, 17]⟩, [], [], [], [], 2⟩,
    ⟨⟨some 40, .mov (.v 4), some (39, false), [22]⟩, [], [], [], [], 2⟩,
    ⟨⟨some 41, .bin .lss (.v 40) (.c (.int .i64 1)), some (39, false), [23, 22]⟩, [], [], [], [], 2⟩,
    ⟨⟨some 42, .pick (.v 39) (.c (.bool true)) (.v 41), none, [22, 24]⟩, [], [], [], [], 2⟩,
    ⟨⟨some 43, .mov (.v 42), none, [25, 22]⟩, [], [], [], [], 2⟩,
    ⟨⟨some 44, .mov (.v 4), some (43, false), [26]⟩, [], [], [], [], 2⟩,
    ⟨⟨some 45, .bin .gtr (.v 44) (.c (.int .i64 6)), some (43, false), [27, 26]⟩, [], [], [], [], 2⟩,
    ⟨⟨some 46, .pick (.v 43) (.c (.bool true)) (.v 45), none, [26, 28]⟩, [], [], [], [], 2⟩,
    ⟨⟨some 47, .mov (.v 46), none, [29, 26]⟩, [], [], [], [], 2⟩,
    ⟨⟨some 48, .faddr 4 (.v 1), some (47, false), [30]⟩, [53, 54], [], [], [], 2⟩,
    ⟨⟨some 49, .load false 1 (.v 48), some (47, false), [31, 30]⟩, [53, 54], [], [], [], 2⟩,
    ⟨⟨some 50, .iaddr 2 (.v 49) (.c (.int .i64 0)), some (47, false), [32, 30]⟩, [53, 54], [], [], [], 2⟩,
    ⟨⟨some 51, .iaddrA 1 2 (.v 50) (.c (.int .i64 0)), some (47, false), [33, 30]⟩, [53, 54], [], [], [], 2⟩,
    ⟨⟨some 52, .load false 1 (.v 51), some (47, false), [34, 30]⟩, [53, 54], [], [], [], 2⟩,
    ⟨⟨some 53, .faddr 1 (.v 1), some (47, false), [30]⟩, [48, 49, 50, 51, 52], [], [], [31, 32, 33, 34, 35], 2⟩,
    ⟨⟨some 54, .load false 1 (.v 53), some (47, false), [36, 30]⟩, [48, 49, 50, 51, 52], [], [], [31, 32, 33, 34, 35], 2⟩,
    ⟨⟨some 55, .bin .neq (.v 52) (.v 54), some (47, false), [35, 37, 30]⟩, [], [], [], [], 2⟩,
    ⟨⟨some 56, .pick (.v 47) (.c (.bool true)) (.v 55), none, [30, 38]⟩, [], [], [], [], 2⟩,
    ⟨⟨some 57, .mov (.v 56), none, [39, 30]⟩, [], [], [], [], 2⟩,
    ⟨⟨some 58, .faddr 4 (.v 1), some (57, false), [40]⟩, [60, 61, 65, 66], [], [], [], 2⟩,
    ⟨⟨some 59, .load false 1 (.v 58), some (57, false), [41, 40]⟩, [60, 61, 65, 66], [], [], [], 2⟩,
    ⟨⟨some 60, .mov (.v 4), some (57, false), [40]⟩, [58, 59, 65, 66], [], [], [41, 42], 2⟩,
    ⟨⟨some 61, .bin .sub (.v 60) (.c (.int .i64 1)), some (57, false), [43, 40]⟩, [58, 59, 65, 66], [], [], [41, 42], 2⟩,
    ⟨⟨some 62, .iaddr 2 (.v 59) (.v 61), some (57, false), [42, 44, 40]⟩, [65, 66], [], [], [], 2⟩,
    ⟨⟨some 63, .iaddrA 1 2 (.v 62) (.c (.int .i64 0)), some (57, false), [45, 40]⟩, [65, 66], [], [], [], 2⟩,
    ⟨⟨some 64, .load false 1 (.v 63), some (57, false), [46, 40]⟩, [65, 66], [], [], [], 2⟩,
    ⟨⟨some 65, .faddr 3 (.v 1), some (57, false), [40]⟩, [58, 59, 60, 61, 62, 63, 64], [], [], [41, 42, 43, 44, 45, 46, 47], 2⟩,
    ⟨⟨some 66, .load false 1 (.v 65), some (57, false), [48, 40]⟩, [58, 59, 60, 61, 62, 63, 64], [], [], [41, 42, 43, 44, 45, 46, 47], 2⟩,
    ⟨⟨some 67, .bin .neq (.v 64) (.v 66), some (57, false), [47, 49, 40]⟩, [], [], [], [], 2⟩,
    ⟨⟨some 68, .pick (.v 57) (.c (.bool true)) (.v 67), none, [40, 50]⟩, [], [], [], [], 2⟩])
  (.ghost (.keep [1, 4, 68]) (.cond (.v 68)
  (.seq (.reg [⟨some 2, .mov (.c (.int .i64 10)), none, []⟩])
  (.ghost (.keep [2]) .ret))
  .skip)))
  (.ghost (.keep [1, 4]) (.seq (.reg [⟨some 5, .mov (.c (.bool false)), none, []⟩])
  (.ghost (.keep [1, 4, 5]) (.seq (.seq (.reg [⟨some 6, .mov (.c (.int .i64 0)), none, []⟩])
  (.ghost (.keep [1, 4, 5, 6]) (.block 0 (.loop (.ghost (.keep [1, 4, 5, 6]) (.seq (.seq (.reg [⟨some 69, .mov (.v 6), none, []⟩,
    ⟨some 70, .mov (.v 4), none, []⟩,
    ⟨some 71, .bin .lss (.v 69) (.v 70), none, [0, 1]⟩])
  (.ghost (.keep [1, 4, 5, 6, 71]) (.cond (.v 71)
  .skip
  (.exit 0))))
  (.ghost (.keep [1, 4, 5, 6]) (.seq (.block 1 (.seq (.reg [⟨some 74, .faddr 4 (.v 1), none, []⟩,
    ⟨some 75, .load false 1 (.v 74), none, [0]⟩,
    ⟨some 76, .mov (.v 6), none, []⟩,
    ⟨some 77, .iaddr 2 (.v 75) (.v 76), none, [1, 2]⟩,
    ⟨some 78, .load true 2 (.v 77), none, [3]⟩,
    ⟨some 7, .alloc [.int .i64 0, .int .i64 0], none, []⟩,
    ⟨none, .store 2 (.v 7) (.v 78), none, [5, 4, 0, 1, 2, 3, 4, 5]⟩])
  (.ghost (.keep [1, 4, 5, 6, 7]) (.seq (.reg [⟨some 79, .iaddrA 1 2 (.v 7) (.c (.int .i64 1)), none, []⟩,
    ⟨some 80, .load false 1 (.v 79), none, [0]⟩,
    ⟨some 81, .call 19 [.v 80], none, [1]⟩,
    ⟨some 8, .mov (.v 81), none, [2, 2, 0, 1, 2]⟩])
  (.ghost (.keep [1, 4, 5, 6, 7, 8]) (.seq (.seq (.draw [⟨⟨some 82, .mov (.v 8), none, []⟩, [], [], [], [], 2⟩,
    ⟨⟨some 83, .un .not (.v 82), none, [0]⟩, [], [], [], [], 2⟩,
    ⟨⟨some 84, .mov (.v 83), none, [1]⟩, [], [], [], [], 2⟩,
    ⟨⟨some 85, .mov (.v 6), some (84, false), [2]⟩, [], [], [], [], 2⟩,
    ⟨⟨some 86, .bin .gtr (.v 85) (.c (.int .i64 0)), some (84, false), [3, 2]⟩, [], [], [], [], 2⟩,
    ⟨⟨some 87, .mov (.v 86), some (84, false), [4, 2, 2]⟩, [], [], [], [], 2⟩,
    ⟨⟨some 88, .faddr 4 (.v 1), some (87, true), [5]⟩, [90, 91, 95, 96], [], [], [], 2⟩,
    ⟨⟨some 89, .load false 1 (.v 88), some (87, true), [6, 5]⟩, [90, 91, 95, 96], [], [], [], 2⟩,
    ⟨⟨some 90, .mov (.v 6), some (87, true), [5]⟩, [88, 89, 95, 96], [], [], [6, 7], 2⟩,
    ⟨⟨some 91, .bin .sub (.v 90) (.c (.int .i64 1)), some (87, true), [8, 5]⟩, [88, 89, 95, 96], [], [], [6, 7], 2⟩,
    ⟨⟨some 92, .iaddr 2 (.v 89) (.v 91), some (87, true), [7, 9, 5]⟩, [95, 96], [], [], [], 2⟩,
    ⟨⟨some 93, .iaddrA 1 2 (.v 92) (.c (.int .i64 0)), some (87, true), [10, 5]⟩, [95, 96], [], [], [], 2⟩,
    ⟨⟨some 94, .load false 1 (.v 93), some (87, true), [11, 5]⟩, [95, 96], [], [], [], 2⟩,
    ⟨⟨some 95, .iaddrA 1 2 (.v 7) (.c (.int .i64 0)), some (87, true), [5]⟩, [88, 89, 90, 91, 92, 93, 94], [], [], [6, 7, 8, 9, 10, 11, 12], 2⟩,
    ⟨⟨some 96, .load false 1 (.v 95), some (87, true), [13, 5]⟩, [88, 89, 90, 91, 92, 93, 94], [], [], [6, 7, 8, 9, 10, 11, 12], 2⟩,
    ⟨⟨some 97, .bin .geq (.v 94) (.v 96), some (87, true), [12, 14, 5]⟩, [], [], [], [], 2⟩,
    ⟨⟨some 98, .mov (.v 97), some (87, true), [15, 5, 5]⟩, [], [], [], [], 2⟩,
    ⟨⟨some 99, .faddr 4 (.v 1), some (98, false), [16]⟩, [101, 102, 106, 107], [], [], [], 2⟩,
    ⟨⟨some 100, .load false 1 (.v 99), some (98, false), [17, 16]⟩, [101, 102, 106, 107], [], [], [], 2⟩,
    ⟨⟨some 101, .mov (.v 6), some (98, false), [16]⟩, [99, 100, 106, 107], [], [], [17, 18], 2⟩,
    ⟨⟨some 102, .bin .sub (.v 101) (.c (.int .i64 1)), some (98, false), [19, 16]⟩, [99, 100, 106, 107], [], [], [17, 18], 2⟩,
    ⟨⟨some 103, .iaddr 2 (.v 100) (.v 102), some (98, false), [18, 20, 16]⟩, [106, 107], [], [], [], 2⟩,
    ⟨⟨some 104, .iaddrA 1 2 (.v 103) (.c (.int .i64 1)), some (98, false), [21, 16]⟩, [106, 107], [], [], [], 2⟩,
    ⟨⟨some 105, .load false 1 (.v 104), some (98, false), [22, 16]⟩, [106, 107], [], [], [], 2⟩,
    ⟨⟨some 106, .iaddrA 1 2 (.v 7) (.c (.int .i64 1)), some (98, false), [16]⟩, [99, 100, 101, 102, 103, 104, 105], [], [], [17, 18, 19, 20, 21, 22, 23], 2⟩,
    ⟨⟨some 107, .load false 1 (.v 106), some (98, false), [24, 16]⟩, [99, 100, 101, 102, 103, 104, 105], [], [], [17, 18, 19, 20, 21, 22, 23], 2⟩,
    ⟨⟨some 108, .bin .gtr (.v 105) (.v 107), some (98, false), [23, 25, 16]⟩, [], [], [], [], 2⟩,
    ⟨⟨some 109, .pick (.v 98) (.c (.bool true)) (.v 108), some (87, true), [16, 26, 5]⟩, [], [], [], [], 2⟩,
    ⟨⟨some 110, .pick (.v 87) (.v 109) (.c (.bool false)), some (84, false), [5, 27, 2]⟩, [], [], [], [], 2⟩,
    ⟨⟨some 111, .pick (.v 84) (.c (.bool true)) (.v 110), none, [2, 28]⟩, [], [], [], [], 2⟩])
  (.ghost (.keep [1, 4, 5, 6, 7, 111]) (.cond (.v 111)
  (.seq (.reg [⟨some 2, .mov (.c (.int .i64 10)), none, []⟩])
  (.ghost (.keep [2]) .ret))
  .skip)))
  (.ghost (.keep [1, 4, 5, 6, 7]) (.reg [⟨some 112, .mov (.v 5), none, []⟩,
    ⟨some 113, .mov (.v 112), none, [0]⟩,
    ⟨some 114, .load true 2 (.v 7), some (113, false), [1]⟩,
    ⟨some 115, .faddr 2 (.v 1), some (113, false), [1]⟩,
    ⟨some 116, .load false 1 (.v 115), some (113, false), [3, 1]⟩,
    ⟨some 117, .build [.int .i64 0, .int .i64 0] [(0, 1, .v 116), (1, 1, .c (.int .i64 0))], some (113, false), [4, 1]⟩,
    ⟨some 118, .eqs false 2 [(0, 1), (1, 1)] (.v 114) (.v 117), some (113, false), [2, 5, 1]⟩,
    ⟨some 119, .pick (.v 113) (.c (.bool true)) (.v 118), none, [1, 6]⟩,
    ⟨some 5, .mov (.v 119), none, [7, 1, 0, 1, 2, 3, 4, 5, 6, 7]⟩]))))))))
  (.ghost (.keep [1, 4, 5, 6]) (.reg [⟨some 72, .mov (.v 6), none, []⟩,
    ⟨some 73, .bin .add (.v 72) (.c (.int .i64 1)), none, [0]⟩,
    ⟨some 6, .mov (.v 73), none, [1, 0, 1]⟩]))))))))))
  (.ghost (.keep [5]) (.seq (.seq (.reg [⟨some 120, .mov (.v 5), none, []⟩,
    ⟨some 121, .un .not (.v 120), none, [0]⟩])
  (.ghost (.keep [121]) (.cond (.v 121)
  (.seq (.reg [⟨some 2, .mov (.c (.int .i64 10)), none, []⟩])
  (.ghost (.keep [2]) .ret))
  .skip)))
  (.ghost (.keep []) (.seq (.reg [⟨some 2, .mov (.c (.int .i64 0)), none, []⟩])
  (.ghost (.keep [2]) .ret)))))))))))))))))))
theorem fn15 : factOf Tryd.prog 15 = some (ac15.strip, [.tmp 2], 122) := by kernel_rfl
theorem ok15 : ac15.okAll = true := by kernel_rfl

/-- abugida/axes.Normal -/
def ac16 : AC := (.ghost (.keep [0, 1])
  (.seq (.reg [⟨some 2, .box (.v 0), none, []⟩,
    ⟨some 4, .mov (.c (.int .i64 0)), none, []⟩])
  (.ghost (.keep [1, 2]) (.seq (.seq (.reg [⟨some 9, .load true 5 (.v 2), none, []⟩,
    ⟨some 10, .call 14 [.v 9], none, [0]⟩,
    ⟨some 11, .bin .neq (.v 10) (.c (.int .i64 0)), none, [1]⟩])
  (.ghost (.keep [1, 2, 11]) (.cond (.v 11)
  (.seq (.reg [⟨some 4, .mov (.c (.int .i64 0)), none, []⟩])
  (.ghost (.keep [4]) .ret))
  .skip)))
  (.ghost (.keep [1, 2]) (.seq (.reg [⟨some 12, .mov (.v 1), none, []⟩,
    ⟨some 13, .faddr 1 (.v 2), none, []⟩,
    ⟨some 14, .load false 1 (.v 13), none, [1]⟩,
    ⟨some 15, .faddr 3 (.v 2), none, []⟩,
    ⟨some 16, .load false 1 (.v 15), none, [3]⟩,
    ⟨some 17, .call 49 [.v 12, .v 14, .v 16], none, [0, 2, 4]⟩,
    ⟨some 5, .alloc [.int .i64 0], none, []⟩,
    ⟨none, .store 1 (.v 5) (.v 17), none, [6, 5, 5, 0, 1, 2, 3, 4, 5, 6]⟩])
  (.ghost (.keep [2, 5]) (.seq (.reg [⟨some 18, .faddr 4 (.v 2), none, []⟩,
    ⟨some 19, .load false 1 (.v 18), none, [0]⟩,
    ⟨some 20, .len false (.v 19), none, [1]⟩,
    ⟨some 21, .mkfn (.func 51) [] [.v 2, .v 5], none, []⟩,
    ⟨some 22, .call 50 [.v 20, .v 21], none, [2, 3]⟩,
    ⟨some 6, .mov (.v 22), none, [4, 4, 0, 1, 2, 3, 4]⟩])
  (.ghost (.keep [2, 5, 6]) (.seq (.seq (.draw [⟨⟨some 23, .faddr 4 (.v 2), none, []⟩, [25, 29], [], [], [], 2⟩,
    ⟨⟨some 24, .load false 1 (.v 23), none, [0]⟩, [25, 29], [], [], [], 2⟩,
    ⟨⟨some 25, .mov (.v 6), none, []⟩, [23, 24, 29], [], [], [0, 1], 2⟩,
    ⟨⟨some 26, .iaddr 2 (.v 24) (.v 25), none, [1, 2]⟩, [29], [], [], [], 2⟩,
    ⟨⟨some 27, .iaddrA 1 2 (.v 26) (.c (.int .i64 0)), none, [3]⟩, [29], [], [], [], 2⟩,
    ⟨⟨some 28, .load false 1 (.v 27), none, [4]⟩, [29], [], [], [], 2⟩,
    ⟨⟨some 29, .load false 1 (.v 5), none, []⟩, [23, 24, 25, 26, 27, 28], [], [], [0, 1, 2, 3, 4, 5], 2⟩,
    ⟨⟨some 30, .bin .eql (.v 28) (.v 29), none, [5, 6]⟩, [], [], [], [], 2⟩])
  (.ghost (.keep [2, 5, 6, 30]) (.cond (.v 30)
  (.seq (.reg [⟨some 31, .faddr 4 (.v 2), none, []⟩,
    ⟨some 32, .load false 1 (.v 31), none, [0]⟩,
    ⟨some 33, .mov (.v 6), none, []⟩,
    ⟨some 34, .iaddr 2 (.v 32) (.v 33), none, [1, 2]⟩,
    ⟨some 35, .iaddrA 1 2 (.v 34) (.c (.int .i64 1)), none, [3]⟩,
    ⟨some 36, .load false 1 (.v 35), none, [4]⟩,
    ⟨some 4, .mov (.v 36), none, [5, 0, 1, 2, 3, 4, 5]⟩])
  (.ghost (.keep [4]) .ret))
  .skip)))
  (.ghost (.keep [2, 5, 6]) (.seq (.draw [⟨⟨some 38, .load false 1 (.v 5), none, []⟩, [39, 40, 41, 42, 43, 44, 45, 46, 47, 48, 49], [], [], [], 2⟩,
    ⟨⟨some 39, .faddr 4 (.v 2), none, []⟩, [38, 41, 42, 45, 46, 47, 48, 49], [], [], [0], 2⟩,
    ⟨⟨some 40, .load false 1 (.v 39), none, [1]⟩, [38, 41, 42, 45, 46, 47, 48, 49], [], [], [0], 2⟩,
    ⟨⟨some 41, .mov (.v 6), none, []⟩, [38, 39, 40, 45, 46, 47, 48, 49], [], [], [0, 1, 2], 2⟩,
    ⟨⟨some 42, .bin .sub (.v 41) (.c (.int .i64 1)), none, [3]⟩, [38, 39, 40, 45, 46, 47, 48, 49], [], [], [0, 1, 2], 2⟩,
    ⟨⟨some 43, .iaddr 2 (.v 40) (.v 42), none, [2, 4]⟩, [38, 45, 46, 47, 48, 49], [], [], [0], 2⟩,
    ⟨⟨some 44, .load true 2 (.v 43), none, [5]⟩, [38, 45, 46, 47, 48, 49], [], [], [0], 2⟩,
    ⟨⟨some 45, .faddr 4 (.v 2), none, []⟩, [38, 39, 40, 41, 42, 43, 44, 47], [], [], [0, 1, 2, 3, 4, 5, 6], 2⟩,
    ⟨⟨some 46, .load false 1 (.v 45), none, [7]⟩, [38, 39, 40, 41, 42, 43, 44, 47], [], [], [0, 1, 2, 3, 4, 5, 6], 2⟩,
    ⟨⟨some 47, .mov (.v 6), none, []⟩, [38, 39, 40, 41, 42, 43, 44, 45, 46], [], [], [0, 1, 2, 3, 4, 5, 6, 7, 8], 2⟩,
    ⟨⟨some 48, .iaddr 2 (.v 46) (.v 47), none, [8, 9]⟩, [38, 39, 40, 41, 42, 43, 44], [], [], [0, 1, 2, 3, 4, 5, 6], 2⟩,
    ⟨⟨some 49, .load true 2 (.v 48), none, [10]⟩, [38, 39, 40, 41, 42, 43, 44], [], [], [0, 1, 2, 3, 4, 5, 6], 2⟩,
    ⟨⟨some 50, .call 18 [.v 38, .v 44, .v 49], none, [0, 6, 11]⟩, [], [], [50], [], 1⟩,
    ⟨⟨some 37, .mov (.v 50), none, [12]⟩, [], [], [], [], 2⟩,
    ⟨⟨some 51, .ext (.v 37) 0, none, [13]⟩, [52], [], [], [], 2⟩,
    ⟨⟨some 52, .ext (.v 37) 1, none, [13]⟩, [7, 51], [], [], [14], 2⟩,
    ⟨⟨some 7, .mov (.v 51), none, [14, 12, 0, 1, 2, 3, 4, 5, 6, 7, 8, 9, 10, 11, 12, 13, 14]⟩, [52], [], [], [15], 2⟩,
    ⟨⟨some 8, .mov (.v 52), none, [15, 16, 0, 1, 2, 3, 4, 5, 6, 7, 8, 9, 10, 11, 12, 13, 14, 15, 16]⟩, [], [], [], [], 2⟩])
  (.ghost (.keep [7]) (.seq (.reg [⟨some 53, .mov (.v 7), none, []⟩,
    ⟨some 4, .mov (.v 53), none, [0, 0]⟩])
  (.ghost (.keep [4]) .ret)))))))))))))))
theorem fn16 : factOf Tryd.prog 16 = some (ac16.strip, [.tmp 4], 54) := by kernel_rfl
theorem ok16 : ac16.okAll = true := by kernel_rfl

/-- abugida/abugidaref09.Normal -/
def ac17 : AC := (.ghost (.keep [0, 1])
  (.seq (.reg [⟨some 2, .box (.v 0), none, []⟩,
    ⟨some 4, .mov (.c (.int .i64 0)), none, []⟩])
  (.ghost (.keep [1, 2]) (.seq (.seq (.reg [⟨some 9, .load true 5 (.v 2), none, []⟩,
    ⟨some 10, .call 15 [.v 9], none, [0]⟩,
    ⟨some 11, .bin .neq (.v 10) (.c (.int .i64 0)), none, [1]⟩])
  (.ghost (.keep [1, 2, 11]) (.cond (.v 11)
  (.seq (.reg [⟨some 4, .mov (.c (.int .i64 0)), none, []⟩])
  (.ghost (.keep [4]) .ret))
  .skip)))
  (.ghost (.keep [1, 2]) (.seq (.reg [⟨some 12, .faddr 1 (.v 2), none, []⟩,
    ⟨some 13, .load false 1 (.v 12), none, [0]⟩,
    ⟨some 14, .mov (.v 1), none, []⟩,
    ⟨some 15, .faddr 3 (.v 2), none, []⟩,
    ⟨some 16, .load false 1 (.v 15), none, [3]⟩,
    ⟨some 17, .mm false (.v 14) (.v 16), none, [2, 4]⟩,
    ⟨some 18, .mm true (.v 13) (.v 17), none, [1, 5]⟩,
    ⟨some 5, .mov (.v 18), none, [6, 0, 1, 2, 3, 4, 5, 6]⟩])
  (.ghost (.keep [2, 5]) (.seq (.seq (.reg [⟨some 6, .mov (.c (.int .i64 0)), none, []⟩])
  (.ghost (.keep [2, 5, 6]) (.block 0 (.loop (.ghost (.keep [2, 5, 6]) (.seq (.seq (.reg [⟨some 19, .mov (.v 6), none, []⟩,
    ⟨some 20, .faddr 4 (.v 2), none, []⟩,
    ⟨some 21, .load false 1 (.v 20), none, [1]⟩,
    ⟨some 22, .len false (.v 21), none, [2]⟩,
    ⟨some 23, .bin .lss (.v 19) (.v 22), none, [0, 3]⟩])
  (.ghost (.keep [2, 5, 6, 23]) (.cond (.v 23)
  .skip
  (.exit 0))))
  (.ghost (.keep [2, 5, 6]) (.seq (.block 1 (.seq (.seq (.reg [⟨some 26, .faddr 4 (.v 2), none, []⟩,
    ⟨some 27, .load false 1 (.v 26), none, [0]⟩,
    ⟨some 28, .mov (.v 6), none, []⟩,
    ⟨some 29, .iaddr 2 (.v 27) (.v 28), none, [1, 2]⟩,
    ⟨some 30, .iaddrA 1 2 (.v 29) (.c (.int .i64 0)), none, [3]⟩,
    ⟨some 31, .load false 1 (.v 30), none, [4]⟩,
    ⟨some 32, .mov (.v 5), none, []⟩,
    ⟨some 33, .bin .eql (.v 31) (.v 32), none, [5, 6]⟩])
  (.ghost (.keep [2, 5, 6, 33]) (.cond (.v 33)
  (.seq (.reg [⟨some 34, .faddr 4 (.v 2), none, []⟩,
    ⟨some 35, .load false 1 (.v 34), none, [0]⟩,
    ⟨some 36, .mov (.v 6), none, []⟩,
    ⟨some 37, .iaddr 2 (.v 35) (.v 36), none, [1, 2]⟩,
    ⟨some 38, .iaddrA 1 2 (.v 37) (.c (.int .i64 1)), none, [3]⟩,
    ⟨some 39, .load false 1 (.v 38), none, [4]⟩,
    ⟨some 4, .mov (.v 39), none, [5, 0, 1, 2, 3, 4, 5]⟩])
  (.ghost (.keep [4]) .ret))
  .skip)))
  (.ghost (.keep [2, 5, 6]) (.seq (.reg [⟨some 40, .faddr 4 (.v 2), none, []⟩,
    ⟨some 41, .load false 1 (.v 40), none, [0]⟩,
    ⟨some 42, .mov (.v 6), none, []⟩,
    ⟨some 43, .iaddr 2 (.v 41) (.v 42), none, [1, 2]⟩,
    ⟨some 44, .iaddrA 1 2 (.v 43) (.c (.int .i64 0)), none, [3]⟩,
    ⟨some 45, .load false 1 (.v 44), none, [4]⟩,
    ⟨some 46, .mov (.v 5), none, []⟩,
    ⟨some 47, .bin .lss (.v 45) (.v 46), none, [5, 6]⟩,
    ⟨some 48, .mov (.v 47), none, [7]⟩,
    ⟨some 49, .mov (.v 5), some (48, true), [8]⟩,
    ⟨some 50, .faddr 4 (.v 2), some (48, true), [8]⟩,
    ⟨some 51, .load false 1 (.v 50), some (48, true), [10, 8]⟩,
    ⟨some 52, .mov (.v 6), some (48, true), [8]⟩,
    ⟨some 53, .bin .add (.v 52) (.c (.int .i64 1)), some (48, true), [12, 8]⟩,
    ⟨some 54, .iaddr 2 (.v 51) (.v 53), some (48, true), [11, 13, 8]⟩,
    ⟨some 55, .iaddrA 1 2 (.v 54) (.c (.int .i64 0)), some (48, true), [14, 8]⟩,
    ⟨some 56, .load false 1 (.v 55), some (48, true), [15, 8]⟩,
    ⟨some 57, .bin .lss (.v 49) (.v 56), some (48, true), [9, 16, 8]⟩,
    ⟨some 58, .pick (.v 48) (.v 57) (.c (.bool false)), none, [8, 17]⟩])
  (.ghost (.keep [2, 5, 6, 58]) (.cond (.v 58)
  (.seq (.draw [⟨⟨some 60, .mov (.v 5), none, []⟩, [61, 62, 63, 64, 65, 66, 67, 68, 69, 70, 71], [], [], [], 2⟩,
    ⟨⟨some 61, .faddr 4 (.v 2), none, []⟩, [60, 63, 66, 67, 68, 69, 70, 71], [], [], [0], 2⟩,
    ⟨⟨some 62, .load false 1 (.v 61), none, [1]⟩, [60, 63, 66, 67, 68, 69, 70, 71], [], [], [0], 2⟩,
    ⟨⟨some 63, .mov (.v 6), none, []⟩, [60, 61, 62, 66, 67, 68, 69, 70, 71], [], [], [0, 1, 2], 2⟩,
    ⟨⟨some 64, .iaddr 2 (.v 62) (.v 63), none, [2, 3]⟩, [60, 66, 67, 68, 69, 70, 71], [], [], [0], 2⟩,
    ⟨⟨some 65, .load true 2 (.v 64), none, [4]⟩, [60, 66, 67, 68, 69, 70, 71], [], [], [0], 2⟩,
    ⟨⟨some 66, .faddr 4 (.v 2), none, []⟩, [60, 61, 62, 63, 64, 65, 68, 69], [], [], [0, 1, 2, 3, 4, 5], 2⟩,
    ⟨⟨some 67, .load false 1 (.v 66), none, [6]⟩, [60, 61, 62, 63, 64, 65, 68, 69], [], [], [0, 1, 2, 3, 4, 5], 2⟩,
    ⟨⟨some 68, .mov (.v 6), none, []⟩, [60, 61, 62, 63, 64, 65, 66, 67], [], [], [0, 1, 2, 3, 4, 5, 6, 7], 2⟩,
    ⟨⟨some 69, .bin .add (.v 68) (.c (.int .i64 1)), none, [8]⟩, [60, 61, 62, 63, 64, 65, 66, 67], [], [], [0, 1, 2, 3, 4, 5, 6, 7], 2⟩,
    ⟨⟨some 70, .iaddr 2 (.v 67) (.v 69), none, [7, 9]⟩, [60, 61, 62, 63, 64, 65], [], [], [0, 1, 2, 3, 4, 5], 2⟩,
    ⟨⟨some 71, .load true 2 (.v 70), none, [10]⟩, [60, 61, 62, 63, 64, 65], [], [], [0, 1, 2, 3, 4, 5], 2⟩,
    ⟨⟨some 72, .call 52 [.v 60, .v 65, .v 71], none, [0, 5, 11]⟩, [], [], [72], [], 1⟩,
    ⟨⟨some 59, .mov (.v 72), none, [12]⟩, [], [], [], [], 2⟩,
    ⟨⟨some 73, .ext (.v 59) 0, none, [13]⟩, [74], [], [], [], 2⟩,
    ⟨⟨some 74, .ext (.v 59) 1, none, [13]⟩, [7, 73], [], [], [14], 2⟩,
    ⟨⟨some 7, .mov (.v 73), none, [14, 12, 0, 1, 2, 3, 4, 5, 6, 7, 8, 9, 10, 11, 12, 13, 14]⟩, [74], [], [], [15], 2⟩,
    ⟨⟨some 8, .mov (.v 74), none, [15, 16, 0, 1, 2, 3, 4, 5, 6, 7, 8, 9, 10, 11, 12, 13, 14, 15, 16]⟩, [], [], [], [], 2⟩])
  (.ghost (.keep [7]) (.seq (.reg [⟨some 75, .mov (.v 7), none, []⟩,
    ⟨some 4, .mov (.v 75), none, [0, 0]⟩])
  (.ghost (.keep [4]) .ret))))
  .skip))))))
  (.ghost (.keep [2, 5, 6]) (.reg [⟨some 24, .mov (.v 6), none, []⟩,
    ⟨some 25, .bin .add (.v 24) (.c (.int .i64 1)), none, [0]⟩,
    ⟨some 6, .mov (.v 25), none, [1, 0, 1]⟩]))))))))))
  (.ghost (.keep []) (.seq (.reg [⟨some 4, .mov (.c (.int .i64 0)), none, []⟩])
  (.ghost (.keep [4]) .ret)))))))))))
theorem fn17 : factOf Tryd.prog 17 = some (ac17.strip, [.tmp 4], 76) := by kernel_rfl
theorem ok17 : ac17.okAll = true := by kernel_rfl

/-- abugida/abugidaref09.MadeRegion -/
def ac21 : AC := (.ghost (.keep [0, 1])
  (.seq (.reg [⟨some 4, .alloc [.nsl], none, []⟩])
  (.ghost (.keep [0, 1, 4]) (.seq (.reg [⟨some 7, .build [.nsl] [], none, []⟩,
    ⟨some 5, .alloc [.nsl], none, []⟩,
    ⟨none, .store 1 (.v 5) (.v 7), none, [1, 0, 0, 1]⟩])
  (.ghost (.keep [0, 1, 4, 5]) (.seq (.seq (.reg [⟨some 6, .mov (.c (.int .i64 0)), none, []⟩])
  (.ghost (.keep [0, 1, 4, 5, 6]) (.block 0 (.loop (.ghost (.keep [0, 1, 4, 5, 6]) (.seq (.seq (.reg [⟨some 8, .mov (.v 6), none, []⟩,
    ⟨some 9, .mov (.v 1), none, []⟩,
    ⟨some 10, .bin .lss (.v 8) (.v 9), none, [0, 1]⟩])
  (.ghost (.keep [0, 1, 4, 5, 6, 10]) (.cond (.v 10)
  .skip
  (.exit 0))))
  (.ghost (.keep [0, 1, 4, 5, 6]) (.seq (.block 1 (.draw [⟨⟨some 13, .faddr 0 (.v 5), none, []⟩, [15, 16, 17, 18, 19, 20, 21, 22, 23, 24, 25, 26, 27, 28, 29, 30], [18, 23, 28, 29, 30], [], [], 2⟩,
    ⟨⟨some 14, .load false 1 (.v 13), none, [0]⟩, [15, 16, 17, 18, 19, 20, 21, 22, 23, 24, 25, 26, 27, 28, 29, 30], [18, 23, 28, 29, 30], [], [], 0⟩,
    ⟨⟨some 15, .mov (.v 0), none, []⟩, [13, 14, 16, 17, 19, 20, 21, 22, 24, 25, 26, 27], [], [], [0, 1], 2⟩,
    ⟨⟨some 16, .mov (.v 6), none, []⟩, [13, 14, 15, 19, 20, 21, 22, 24, 25, 26, 27], [], [], [0, 1, 2], 2⟩,
    ⟨⟨some 17, .bin .mul (.c (.int .i64 3)) (.v 16), none, [3]⟩, [13, 14, 15, 19, 20, 21, 22, 24, 25, 26, 27], [], [], [0, 1, 2], 2⟩,
    ⟨⟨some 18, .call 43 [.v 15, .v 17], none, [2, 4]⟩, [13, 14, 19, 20, 21, 22, 24, 25, 26, 27], [], [18], [0, 1], 1⟩,
    ⟨⟨some 19, .mov (.v 0), none, []⟩, [13, 14, 15, 16, 17, 18, 20, 21, 22, 24, 25, 26, 27], [18], [], [0, 1, 2, 3, 4, 5], 2⟩,
    ⟨⟨some 20, .mov (.v 6), none, []⟩, [13, 14, 15, 16, 17, 18, 19, 24, 25, 26, 27], [18], [], [0, 1, 2, 3, 4, 5, 6], 2⟩,
    ⟨⟨some 21, .bin .mul (.c (.int .i64 3)) (.v 20), none, [7]⟩, [13, 14, 15, 16, 17, 18, 19, 24, 25, 26, 27], [18], [], [0, 1, 2, 3, 4, 5, 6], 2⟩,
    ⟨⟨some 22, .bin .add (.v 21) (.c (.int .i64 1)), none, [8]⟩, [13, 14, 15, 16, 17, 18, 19, 24, 25, 26, 27], [18], [], [0, 1, 2, 3, 4, 5, 6], 2⟩,
    ⟨⟨some 23, .call 43 [.v 19, .v 22], none, [6, 9, 5]⟩, [13, 14, 24, 25, 26, 27], [], [23], [0, 1], 1⟩,
    ⟨⟨some 24, .mov (.v 0), none, []⟩, [13, 14, 15, 16, 17, 18, 19, 20, 21, 22, 23, 25, 26, 27], [18, 23], [], [0, 1, 2, 3, 4, 5, 6, 7, 8, 9, 10], 2⟩,
    ⟨⟨some 25, .mov (.v 6), none, []⟩, [13, 14, 15, 16, 17, 18, 19, 20, 21, 22, 23, 24], [18, 23], [], [0, 1, 2, 3, 4, 5, 6, 7, 8, 9, 10, 11], 2⟩,
    ⟨⟨some 26, .bin .mul (.c (.int .i64 3)) (.v 25), none, [12]⟩, [13, 14, 15, 16, 17, 18, 19, 20, 21, 22, 23, 24], [18, 23], [], [0, 1, 2, 3, 4, 5, 6, 7, 8, 9, 10, 11], 2⟩,
    ⟨⟨some 27, .bin .add (.v 26) (.c (.int .i64 2)), none, [13]⟩, [13, 14, 15, 16, 17, 18, 19, 20, 21, 22, 23, 24], [18, 23], [], [0, 1, 2, 3, 4, 5, 6, 7, 8, 9, 10, 11], 2⟩,
    ⟨⟨some 28, .call 43 [.v 24, .v 27], none, [11, 14, 10]⟩, [13, 14], [], [28], [0, 1], 1⟩,
    ⟨⟨some 29, .call 55 [.v 18, .v 23, .v 28], none, [5, 10, 15, 15]⟩, [13, 14], [], [29], [0, 1], 1⟩,
    ⟨⟨some 30, .bslice 71 3 1 [.int .i64 0, .int .i64 0, .int .i64 0] [(0, 3, .v 29)], none, [16]⟩, [13, 14], [], [30], [0, 1], 1⟩,
    ⟨⟨some 31, .app 71 3 24 (.v 14) (.v 30), none, [1, 17, 16]⟩, [], [], [18, 23, 28, 29, 30, 31], [], 1⟩,
    ⟨⟨some 32, .faddr 0 (.v 5), none, [0, 1, 2, 3, 4, 5, 6, 7, 8, 9, 10, 11, 12, 13, 14, 15, 16, 17, 18]⟩, [], [], [], [], 2⟩,
    ⟨⟨none, .store 1 (.v 32) (.v 31), none, [19, 18, 18, 0, 1, 2, 3, 4, 5, 6, 7, 8, 9, 10, 11, 12, 13, 14, 15, 16, 17, 18]⟩, [], [], [5], [], 1⟩]))
  (.ghost (.keep [0, 1, 4, 5, 6]) (.reg [⟨some 11, .mov (.v 6), none, []⟩,
    ⟨some 12, .bin .add (.v 11) (.c (.int .i64 1)), none, [0]⟩,
    ⟨some 6, .mov (.v 12), none, [1, 0, 1]⟩]))))))))))
  (.ghost (.keep [4, 5]) (.seq (.reg [⟨some 33, .load true 1 (.v 5), none, []⟩,
    ⟨none, .store 1 (.v 4) (.v 33), none, [0, 0]⟩])
  (.ghost (.keep [4]) .ret)))))))))
theorem fn21 : factOf Tryd.prog 21 = some (ac21.strip, [.cell 4 true 1], 34) := by kernel_rfl
theorem ok21 : ac21.okAll = true := by kernel_rfl

/-- (abugida/abugidalaw09.Case).regions -/
def ac27 : AC := (.ghost (.keep [0])
  (.seq (.reg [⟨some 1, .box (.v 0), none, []⟩,
    ⟨some 2, .mov (.c .nsl), none, []⟩])
  (.ghost (.keep [1]) (.seq (.reg [⟨some 3, .mov (.c .nsl), none, []⟩])
  (.ghost (.own 3 26 42 1) (.ghost (.keep [1, 3]) (.seq (.seq (.reg [⟨some 4, .mov (.c (.int .i64 0)), none, []⟩])
  (.ghost (.keep [1, 3, 4]) (.block 0 (.loop (.ghost (.keep [1, 3, 4]) (.seq (.seq (.reg [⟨some 5, .mov (.v 4), none, []⟩,
    ⟨some 6, .faddr 0 (.v 1), none, []⟩,
    ⟨some 7, .load false 1 (.v 6), none, [1]⟩,
    ⟨some 8, .len false (.v 7), none, [2]⟩,
    ⟨some 9, .bin .lss (.v 5) (.v 8), none, [0, 3]⟩,
    ⟨some 10, .mov (.v 9), none, [4]⟩,
    ⟨some 11, .mov (.v 4), some (10, true), [5]⟩,
    ⟨some 12, .bin .lss (.v 11) (.c (.int .i64 4)), some (10, true), [6, 5]⟩,
    ⟨some 13, .pick (.v 10) (.v 12) (.c (.bool false)), none, [5, 7]⟩])
  (.ghost (.keep [1, 3, 4, 13]) (.cond (.v 13)
  .skip
  (.exit 0))))
  (.ghost (.keep [1, 3, 4]) (.seq (.block 1 (.draw [⟨⟨some 16, .mov (.v 3), none, []⟩, [17, 18, 19, 20, 21, 22, 23, 24, 25], [23, 24, 25], [], [], 2⟩,
    ⟨⟨some 17, .faddr 0 (.v 1), none, []⟩, [16, 19, 22, 23], [23], [], [0], 2⟩,
    ⟨⟨some 18, .load false 1 (.v 17), none, [1]⟩, [16, 19, 22, 23], [23], [], [0], 0⟩,
    ⟨⟨some 19, .mov (.v 4), none, []⟩, [16, 17, 18, 22, 23], [23], [], [0, 1, 2], 2⟩,
    ⟨⟨some 20, .iaddr 1 (.v 18) (.v 19), none, [2, 3]⟩, [16, 22, 23], [23], [], [0], 2⟩,
    ⟨⟨some 21, .load false 1 (.v 20), none, [4]⟩, [16, 22, 23], [23], [], [0], 0⟩,
    ⟨⟨some 22, .load true 5 (.v 1), none, []⟩, [16, 17, 18, 19, 20, 21], [], [], [0, 1, 2, 3, 4, 5], 2⟩,
    ⟨⟨some 23, .call 28 [.v 22], none, [6]⟩, [16, 17, 18, 19, 20, 21], [], [23], [0, 1, 2, 3, 4, 5], 1⟩,
    ⟨⟨some 24, .call 21 [.v 21, .v 23], none, [5, 7, 7]⟩, [16], [], [24], [0], 1⟩,
    ⟨⟨some 25, .bslice 42 1 1 [.nsl] [(0, 1, .v 24)], none, [8]⟩, [16], [], [25], [0], 1⟩,
    ⟨⟨some 26, .app 42 1 24 (.v 16) (.v 25), none, [0, 9, 8]⟩, [], [], [26], [], 1⟩,
    ⟨⟨some 3, .mov (.v 26), none, [10, 10, 0, 1, 2, 3, 4, 5, 6, 7, 8, 9, 10]⟩, [], [], [], [], 2⟩]))
  (.ghost (.keep [1, 3, 4]) (.reg [⟨some 14, .mov (.v 4), none, []⟩,
    ⟨some 15, .bin .add (.v 14) (.c (.int .i64 1)), none, [0]⟩,
    ⟨some 4, .mov (.v 15), none, [1, 0, 1]⟩]))))))))))
  (.ghost (.keep [3]) (.seq (.reg [⟨some 27, .mov (.v 3), none, []⟩,
    ⟨some 2, .mov (.v 27), none, [0, 0]⟩])
  (.ghost (.keep [2]) .ret))))))))))
theorem fn27 : factOf Tryd.prog 27 = some (ac27.strip, [.tmp 2], 28) := by kernel_rfl
theorem ok27 : ac27.okAll = true := by kernel_rfl

/-- (abugida/abugidalaw09.Case).axesOf -/
def ac28 : AC := (.ghost (.keep [0])
  (.seq (.reg [⟨some 1, .box (.v 0), none, []⟩,
    ⟨some 2, .mov (.c (.int .i64 0)), none, []⟩])
  (.ghost (.keep [1]) (.seq (.reg [⟨some 3, .faddr 4 (.v 1), none, []⟩,
    ⟨some 4, .load false 1 (.v 3), none, [0]⟩,
    ⟨some 5, .conv .i64 (.v 4), none, [1]⟩,
    ⟨some 6, .bin .rem (.v 5) (.c (.int .i64 4)), none, [2]⟩,
    ⟨some 2, .mov (.v 6), none, [3, 0, 1, 2, 3]⟩])
  (.ghost (.keep [2]) .ret)))))
theorem fn28 : factOf Tryd.prog 28 = some (ac28.strip, [.tmp 2], 7) := by kernel_rfl
theorem ok28 : ac28.okAll = true := by kernel_rfl

/-- abugida/abugidaref09.MadeRanges -/
def ac31 : AC := (.ghost (.keep [0, 1])
  (.seq (.reg [⟨some 4, .mov (.c .nsl), none, []⟩])
  (.ghost (.keep [0, 1]) (.seq (.reg [⟨some 5, .mov (.c .nsl), none, []⟩])
  (.ghost (.own 5 34 30 2) (.ghost (.keep [0, 1, 5]) (.seq (.seq (.reg [⟨some 6, .mov (.c (.int .i64 0)), none, []⟩])
  (.ghost (.keep [0, 1, 5, 6]) (.block 0 (.loop (.ghost (.keep [0, 1, 5, 6]) (.seq (.seq (.reg [⟨some 9, .mov (.v 6), none, []⟩,
    ⟨some 10, .mov (.v 1), none, []⟩,
    ⟨some 11, .bin .lss (.v 9) (.v 10), none, [0, 1]⟩])
  (.ghost (.keep [0, 1, 5, 6, 11]) (.cond (.v 11)
  .skip
  (.exit 0))))
  (.ghost (.keep [0, 1, 5, 6]) (.seq (.block 1 (.seq (.reg [⟨some 14, .mov (.v 0), none, []⟩,
    ⟨some 15, .mov (.v 6), none, []⟩,
    ⟨some 16, .bin .mul (.c (.int .i64 2)) (.v 15), none, [1]⟩,
    ⟨some 17, .call 43 [.v 14, .v 16], none, [0, 2]⟩,
    ⟨some 18, .bin .rem (.v 17) (.c (.int .i64 129)), none, [3]⟩,
    ⟨some 19, .bin .sub (.v 18) (.c (.int .i64 64)), none, [4]⟩,
    ⟨some 7, .mov (.v 19), none, [5, 3, 0, 1, 2, 3, 4, 5]⟩])
  (.ghost (.keep [0, 1, 5, 6, 7]) (.seq (.reg [⟨some 20, .mov (.v 7), none, []⟩,
    ⟨some 21, .mov (.v 0), none, []⟩,
    ⟨some 22, .mov (.v 6), none, []⟩,
    ⟨some 23, .bin .mul (.c (.int .i64 2)) (.v 22), none, [2]⟩,
    ⟨some 24, .bin .add (.v 23) (.c (.int .i64 1)), none, [3]⟩,
    ⟨some 25, .call 43 [.v 21, .v 24], none, [1, 4]⟩,
    ⟨some 26, .bin .rem (.v 25) (.c (.int .i64 65)), none, [5]⟩,
    ⟨some 27, .bin .add (.v 20) (.v 26), none, [0, 6]⟩,
    ⟨some 28, .mm false (.c (.int .i64 64)) (.v 27), none, [7]⟩,
    ⟨some 8, .mov (.v 28), none, [8, 5, 0, 1, 2, 3, 4, 5, 6, 7, 8]⟩])
  (.ghost (.keep [0, 1, 5, 6, 7, 8]) (.reg [⟨some 29, .mov (.v 5), none, []⟩,
    ⟨some 30, .mov (.v 7), none, []⟩,
    ⟨some 31, .mov (.v 8), none, []⟩,
    ⟨some 32, .build [.int .i64 0, .int .i64 0] [(0, 1, .v 30), (1, 1, .v 31)], none, [1, 2]⟩,
    ⟨some 33, .bslice 30 2 1 [.int .i64 0, .int .i64 0] [(0, 2, .v 32)], none, [3]⟩,
    ⟨some 34, .app 30 2 16 (.v 29) (.v 33), none, [0, 4]⟩,
    ⟨some 5, .mov (.v 34), none, [5, 5, 0, 1, 2, 3, 4, 5]⟩]))))))
  (.ghost (.keep [0, 1, 5, 6]) (.reg [⟨some 12, .mov (.v 6), none, []⟩,
    ⟨some 13, .bin .add (.v 12) (.c (.int .i64 1)), none, [0]⟩,
    ⟨some 6, .mov (.v 13), none, [1, 0, 1]⟩]))))))))))
  (.ghost (.keep [5]) (.seq (.reg [⟨some 35, .mov (.v 5), none, []⟩,
    ⟨some 4, .mov (.v 35), none, [0, 0]⟩])
  (.ghost (.keep [4]) .ret))))))))))
theorem fn31 : factOf Tryd.prog 31 = some (ac31.strip, [.tmp 4], 36) := by kernel_rfl
theorem ok31 : ac31.okAll = true := by kernel_rfl

/-- abugida/axes.Ranges -/
def ac32 : AC := (.ghost (.keep [0, 1])
  (.seq (.reg [⟨some 4, .mov (.c (.bool false)), none, []⟩])
  (.ghost (.keep [0, 1]) (.seq (.reg [⟨some 5, .mov (.c (.clo (.func 69) [] [])), none, []⟩])
  (.ghost (.keep [0, 1, 5]) (.seq (.reg [⟨some 6, .mov (.v 1), none, []⟩,
    ⟨some 7, .bin .geq (.v 6) (.c (.int .i64 0)), none, [0]⟩,
    ⟨some 8, .mov (.v 7), none, [1]⟩,
    ⟨some 9, .mov (.v 1), some (8, true), [2]⟩,
    ⟨some 10, .bin .leq (.v 9) (.c (.int .i64 3)), some (8, true), [3, 2]⟩,
    ⟨some 11, .pick (.v 8) (.v 10) (.c (.bool false)), none, [2, 4]⟩,
    ⟨some 12, .mov (.v 11), none, [5, 2]⟩,
    ⟨some 13, .mov (.v 0), some (12, true), [6]⟩,
    ⟨some 14, .len false (.v 13), some (12, true), [7, 6]⟩,
    ⟨some 15, .mov (.v 1), some (12, true), [6]⟩,
    ⟨some 16, .bin .eql (.v 14) (.v 15), some (12, true), [8, 9, 6]⟩,
    ⟨some 17, .pick (.v 12) (.v 16) (.c (.bool false)), none, [6, 10]⟩,
    ⟨some 18, .mov (.v 17), none, [11, 6]⟩,
    ⟨some 19, .mov (.v 0), some (18, true), [12]⟩,
    ⟨some 20, .mov (.v 5), some (18, true), [12]⟩,
    ⟨some 21, .call 70 [.v 19, .v 20], some (18, true), [13, 14, 12, 12]⟩,
    ⟨some 22, .un .not (.v 21), some (18, true), [15, 12]⟩,
    ⟨some 23, .pick (.v 18) (.v 22) (.c (.bool false)), none, [12, 16]⟩,
    ⟨some 4, .mov (.v 23), none, [17, 15, 0, 1, 2, 3, 4, 5, 6, 7, 8, 9, 10, 11, 12, 13, 14, 15, 16, 17]⟩])
  (.ghost (.keep [4]) .ret)))))))
theorem fn32 : factOf Tryd.prog 32 = some (ac32.strip, [.tmp 4], 24) := by kernel_rfl
theorem ok32 : ac32.okAll = true := by kernel_rfl

/-- abugida/abugidaref09.Ranges -/
def ac33 : AC := (.ghost (.keep [0, 1])
  (.seq (.reg [⟨some 4, .mov (.c (.bool false)), none, []⟩])
  (.ghost (.keep [0, 1]) (.seq (.seq (.reg [⟨some 8, .mov (.v 1), none, []⟩,
    ⟨some 9, .bin .lss (.v 8) (.c (.int .i64 0)), none, [0]⟩,
    ⟨some 10, .mov (.v 9), none, [1]⟩,
    ⟨some 11, .mov (.v 1), some (10, false), [2]⟩,
    ⟨some 12, .bin .gtr (.v 11) (.c (.int .i64 3)), some (10, false), [3, 2]⟩,
    ⟨some 13, .pick (.v 10) (.c (.bool true)) (.v 12), none, [2, 4]⟩,
    ⟨some 14, .mov (.v 13), none, [5, 2]⟩,
    ⟨some 15, .mov (.v 0), some (14, false), [6]⟩,
    ⟨some 16, .len false (.v 15), some (14, false), [7, 6]⟩,
    ⟨some 17, .mov (.v 1), some (14, false), [6]⟩,
    ⟨some 18, .bin .neq (.v 16) (.v 17), some (14, false), [8, 9, 6]⟩,
    ⟨some 19, .pick (.v 14) (.c (.bool true)) (.v 18), none, [6, 10]⟩])
  (.ghost (.keep [0, 1, 19]) (.cond (.v 19)
  (.seq (.reg [⟨some 4, .mov (.c (.bool false)), none, []⟩])
  (.ghost (.keep [4]) .ret))
  .skip)))
  (.ghost (.keep [0, 1]) (.seq (.seq (.reg [⟨some 5, .mov (.c (.int .i64 0)), none, []⟩])
  (.ghost (.keep [0, 1, 5]) (.block 0 (.loop (.ghost (.keep [0, 1, 5]) (.seq (.seq (.reg [⟨some 20, .mov (.v 5), none, []⟩,
    ⟨some 21, .mov (.v 1), none, []⟩,
    ⟨some 22, .bin .lss (.v 20) (.v 21), none, [0, 1]⟩])
  (.ghost (.keep [0, 1, 5, 22]) (.cond (.v 22)
  .skip
  (.exit 0))))
  (.ghost (.keep [0, 1, 5]) (.seq (.block 1 (.seq (.reg [⟨some 25, .mov (.v 0), none, []⟩,
    ⟨some 26, .mov (.v 5), none, []⟩,
    ⟨some 27, .iaddr 2 (.v 25) (.v 26), none, [0, 1]⟩,
    ⟨some 28, .iaddrA 1 2 (.v 27) (.c (.int .i64 0)), none, [2]⟩,
    ⟨some 29, .load false 1 (.v 28), none, [3]⟩,
    ⟨some 30, .call 19 [.v 29], none, [4]⟩,
    ⟨some 6, .mov (.v 30), none, [5, 5, 0, 1, 2, 3, 4, 5]⟩])
  (.ghost (.keep [0, 1, 5, 6]) (.seq (.reg [⟨some 31, .mov (.v 0), none, []⟩,
    ⟨some 32, .mov (.v 5), none, []⟩,
    ⟨some 33, .iaddr 2 (.v 31) (.v 32), none, [0, 1]⟩,
    ⟨some 34, .iaddrA 1 2 (.v 33) (.c (.int .i64 1)), none, [2]⟩,
    ⟨some 35, .load false 1 (.v 34), none, [3]⟩,
    ⟨some 36, .call 19 [.v 35], none, [4]⟩,
    ⟨some 7, .mov (.v 36), none, [5, 5, 0, 1, 2, 3, 4, 5]⟩])
  (.ghost (.keep [0, 1, 5, 6, 7]) (.seq (.draw [⟨⟨some 37, .mov (.v 6), none, []⟩, [], [], [], [], 2⟩,
    ⟨⟨some 38, .un .not (.v 37), none, [0]⟩, [], [], [], [], 2⟩,
    ⟨⟨some 39, .mov (.v 38), none, [1]⟩, [], [], [], [], 2⟩,
    ⟨⟨some 40, .mov (.v 7), some (39, false), [2]⟩, [], [], [], [], 2⟩,
    ⟨⟨some 41, .un .not (.v 40), some (39, false), [3, 2]⟩, [], [], [], [], 2⟩,
    ⟨⟨some 42, .pick (.v 39) (.c (.bool true)) (.v 41), none, [2, 4]⟩, [], [], [], [], 2⟩,
    ⟨⟨some 43, .mov (.v 42), none, [5, 2]⟩, [], [], [], [], 2⟩,
    ⟨⟨some 44, .mov (.v 0), some (43, false), [6]⟩, [45, 49, 50, 51, 52, 53], [], [], [], 2⟩,
    ⟨⟨some 45, .mov (.v 5), some (43, false), [6]⟩, [44, 49, 50, 51, 52, 53], [], [], [7], 2⟩,
    ⟨⟨some 46, .iaddr 2 (.v 44) (.v 45), some (43, false), [7, 8, 6]⟩, [49, 50, 51, 52, 53], [], [], [], 2⟩,
    ⟨⟨some 47, .iaddrA 1 2 (.v 46) (.c (.int .i64 0)), some (43, false), [9, 6]⟩, [49, 50, 51, 52, 53], [], [], [], 2⟩,
    ⟨⟨some 48, .load false 1 (.v 47), some (43, false), [10, 6]⟩, [49, 50, 51, 52, 53], [], [], [], 2⟩,
    ⟨⟨some 49, .mov (.v 0), some (43, false), [6]⟩, [44, 45, 46, 47, 48, 50], [], [], [7, 8, 9, 10, 11], 2⟩,
    ⟨⟨some 50, .mov (.v 5), some (43, false), [6]⟩, [44, 45, 46, 47, 48, 49], [], [], [7, 8, 9, 10, 11, 12], 2⟩,
    ⟨⟨some 51, .iaddr 2 (.v 49) (.v 50), some (43, false), [12, 13, 6]⟩, [44, 45, 46, 47, 48], [], [], [7, 8, 9, 10, 11], 2⟩,
    ⟨⟨some 52, .iaddrA 1 2 (.v 51) (.c (.int .i64 1)), some (43, false), [14, 6]⟩, [44, 45, 46, 47, 48], [], [], [7, 8, 9, 10, 11], 2⟩,
    ⟨⟨some 53, .load false 1 (.v 52), some (43, false), [15, 6]⟩, [44, 45, 46, 47, 48], [], [], [7, 8, 9, 10, 11], 2⟩,
    ⟨⟨some 54, .bin .gtr (.v 48) (.v 53), some (43, false), [11, 16, 6]⟩, [], [], [], [], 2⟩,
    ⟨⟨some 55, .pick (.v 43) (.c (.bool true)) (.v 54), none, [6, 17]⟩, [], [], [], [], 2⟩])
  (.ghost (.keep [0, 1, 5, 55]) (.cond (.v 55)
  (.seq (.reg [⟨some 4, .mov (.c (.bool false)), none, []⟩])
  (.ghost (.keep [4]) .ret))
  .skip))))))))
  (.ghost (.keep [0, 1, 5]) (.reg [⟨some 23, .mov (.v 5), none, []⟩,
    ⟨some 24, .bin .add (.v 23) (.c (.int .i64 1)), none, [0]⟩,
    ⟨some 5, .mov (.v 24), none, [1, 0, 1]⟩]))))))))))
  (.ghost (.keep []) (.seq (.reg [⟨some 4, .mov (.c (.bool true)), none, []⟩])
  (.ghost (.keep [4]) .ret)))))))))
theorem fn33 : factOf Tryd.prog 33 = some (ac33.strip, [.tmp 4], 56) := by kernel_rfl
theorem ok33 : ac33.okAll = true := by kernel_rfl

/-- abugida/abugidalaw09.one -/
def ac40 : AC := (.ghost (.keep [0, 1, 2])
  (.seq (.reg [⟨some 6, .alloc [.nsl], none, []⟩])
  (.ghost (.keep [0, 1, 2, 6]) (.seq (.reg [⟨some 7, .mov (.v 0), none, []⟩,
    ⟨some 8, .mov (.v 1), none, []⟩,
    ⟨some 9, .mov (.v 2), none, []⟩,
    ⟨some 10, .build [.int .i64 0, .int .i64 0, .int .i64 0] [(0, 1, .v 7), (1, 1, .v 8), (2, 1, .v 9)], none, [0, 1, 2]⟩,
    ⟨some 11, .bslice 71 3 1 [.int .i64 0, .int .i64 0, .int .i64 0] [(0, 3, .v 10)], none, [3]⟩,
    ⟨some 12, .build [.nsl] [(0, 1, .v 11)], none, [4]⟩,
    ⟨none, .store 1 (.v 6) (.v 12), none, [5, 0, 1, 2, 3, 4, 5]⟩])
  (.ghost (.keep [6]) .ret)))))
theorem fn40 : factOf Tryd.prog 40 = some (ac40.strip, [.cell 6 true 1], 13) := by kernel_rfl
theorem ok40 : ac40.okAll = true := by kernel_rfl

/-- abugida/abugidalaw09.scalar -/
def ac42 : AC := (.ghost (.keep [0, 1, 2, 3])
  (.seq (.reg [⟨some 4, .box (.v 0), none, []⟩,
    ⟨some 8, .mov (.c (.bool false)), none, []⟩])
  (.ghost (.keep [1, 2, 3, 4]) (.seq (.reg [⟨some 9, .load true 1 (.v 4), none, []⟩,
    ⟨some 10, .mov (.v 3), none, []⟩,
    ⟨some 11, .call 25 [.v 9, .v 10], none, [0, 1]⟩,
    ⟨some 12, .mov (.v 1), none, []⟩,
    ⟨some 13, .mov (.v 2), none, []⟩,
    ⟨some 14, .build [.int .i64 0, .int .i64 0] [(0, 1, .v 12), (1, 1, .v 13)], none, [3, 4]⟩,
    ⟨some 15, .eqs false 2 [(0, 1), (1, 1)] (.v 11) (.v 14), none, [2, 5]⟩,
    ⟨some 8, .mov (.v 15), none, [6, 2, 0, 1, 2, 3, 4, 5, 6]⟩])
  (.ghost (.keep [8]) .ret)))))
theorem fn42 : factOf Tryd.prog 42 = some (ac42.strip, [.tmp 8], 16) := by kernel_rfl
theorem ok42 : ac42.okAll = true := by kernel_rfl

end Go.Abs.A09
namespace Go.Abs.A09
open Go Go.Abs Go.Proofs
set_option maxRecDepth 100000
set_option linter.unusedVariables false
set_option linter.unusedSimpArgs false
attribute [local simp ↓] awp_skip awp_seq awp_cond awp_block awp_exit awp_ret awp_reg awp_draw awp_ghost awp_loop awp_rfun awpR_nil awpR_cons awpX_nil awpX_0 awpX_1 awpX_2 awpI_eq awpI_t awpI_f awpStep_eq
attribute [local simp] condL_true condL_false condL_dec evDel evV evN evS evA initFr Ghost.app Fr.var Fr.blk Fr.ff FF.val Abs.look Fr.app Fr.erase Fr.noSlot AV.noSlot AV.noSlotL Blk.noSlot Fr.spoken AV.fz AV.fzL Blk.fz binV binI shI binS unV fillA FF.parts FF.vals headO intO boundO lenV scalarEq leavesEq AV.aggc AV.cells FF.read FF.rows AV.one PV.one chunk freshB newS pickV retK evRs evRl evR resOf mkTup mkAgg allP cloOf okP_nil okX_p okX okP addN Del.noSlot Del.owners Rnd reify_p normM insM Fr.back Fr.backV Fr.setPs normV insV
def SM (n : Int) : Prop := -1048576 ≤ n ∧ n ≤ 1048576
instance {n : Int} : Decidable (SM n) := inferInstanceAs (Decidable (_ ∧ _))
def RS (n d : Int) : Prop := 1 ≤ d ∧ d ≤ 262144 ∧ 0 ≤ n ∧ n ≤ d ∧ gcdI n d = 1
noncomputable instance {n d : Int} : Decidable (RS n d) := inferInstanceAs (Decidable (_ ∧ _))
theorem RSn {n d : Int} (h : ¬ (1 ≤ d ∧ d ≤ 262144 ∧ 0 ≤ n ∧ n ≤ d)) : ¬ RS n d := fun h' => h ⟨h'.1, h'.2.1, h'.2.2.1, h'.2.2.2.1⟩
theorem b87 {n d : Int} (hn : R n) (hd : R d) : Best Tryd.prog 87 [.agg [.int .i64 n, .int .i64 d]] (.p (.bool (decide (RS n d)))) := by
  refine best mixed fn87 ok87 (by simp) ?_
  by_cases h1 : 1 ≤ d
  · by_cases h2 : d ≤ 262144
    · by_cases h3 : 0 ≤ n
      · by_cases h4 : n ≤ d
        · simp -dsimp [ac87, h1, h2, h3, h4]
          refine call_p (b88 (a := n) hd) rfl (by simp) ?_
          have : RS n d ↔ gcdI n d = 1 := ⟨fun h => h.2.2.2.2, fun h => ⟨h1, h2, h3, h4, h⟩⟩
          by_cases h5 : gcdI n d = 1 <;> simp -dsimp [h5, this]
        · have := RSn (n := n) (d := d) (by omega)
          simp -dsimp [ac87, h1, h2, h3, h4, this]
      · have := RSn (n := n) (d := d) (by omega)
        simp -dsimp [ac87, h1, h2, h3, this]
    · have := RSn (n := n) (d := d) (by omega)
      simp -dsimp [ac87, h1, h2, this]
  · have := RSn (n := n) (d := d) (by omega)
    simp -dsimp [ac87, h1, this]
theorem b73 {n d : Int} (hn : R n) (hd : R d) : Best Tryd.prog 73 [.agg [.int .i64 n, .int .i64 d]] (.p (.bool (decide (RS n d)))) := by
  refine best mixed fn73 ok73 (by simp) ?_
  by_cases h1 : 1 ≤ d
  · by_cases h2 : d ≤ 262144
    · by_cases h3 : 0 ≤ n
      · by_cases h4 : n ≤ d
        · simp -dsimp [ac73, h1, h2, h3, h4]
          refine call_p (b92 (a := n) hd) rfl (by simp) ?_
          have : RS n d ↔ gcdI n d = 1 := ⟨fun h => h.2.2.2.2, fun h => ⟨h1, h2, h3, h4, h⟩⟩
          by_cases h5 : gcdI n d = 1 <;> simp -dsimp [h5, this]
        · have := RSn (n := n) (d := d) (by omega)
          simp -dsimp [ac73, h1, h2, h3, h4, this]
      · have := RSn (n := n) (d := d) (by omega)
        simp -dsimp [ac73, h1, h2, h3, this]
    · have := RSn (n := n) (d := d) (by omega)
      simp -dsimp [ac73, h1, h2, this]
  · have := RSn (n := n) (d := d) (by omega)
    simp -dsimp [ac73, h1, this]
theorem b81 {n d : Int} (hn : R n) (hn2 : n ≤ 4611686018427387904) (hd : R d) : Best Tryd.prog 81 [.agg [.clo (.func 80) [] []], .int .i64 n, .int .i64 d] (.p (.tup [.int .i64 (if d < 1 then 0 else roundS n d), .bool (decide (1 ≤ d))])) := by
  refine best mixed fn81 ok81 (by simp) ?_
  by_cases h1 : d < 1
  · have h3 : ¬ 1 ≤ d := by omega
    simp -dsimp [ac81, h1, h3]
  · have g1 := tdiv_floor (n := n) (d := d) (by omega)
    have g2 := tmod_floor (n := n) (d := d) (by omega)
    have g3 := R_ediv hn (d := d) (by omega)
    have g4 := ediv_le (n := n) (d := d) hn2 (by omega) (by omega)
    have g5 := R_tdiv hn (d := d) (by omega)
    have hd0 : d ≠ 0 := by omega
    have h3 : 1 ≤ d := by omega
    have e2 := Int.emod_nonneg n hd0
    have e3 := Int.emod_lt_of_pos n (by omega : 0 < d)
    have w1 : R (n % d) := ⟨by omega, by have := hd.2; omega⟩
    have w2 : R (d - n % d) := ⟨by omega, by have := hd.2; omega⟩
    have w3 : R (n / d + 1) := ⟨by have := g3.1; omega, by omega⟩
    have hc := b80 w2
    have key : roundS n d = if n % d ≥ d - n % d then n / d + 1 else n / d := rfl
    have e5 : ¬ n % d < 0 := by omega
    by_cases h2 : n.tmod d < 0 <;> simp only [h2, if_true, if_false] at g1 g2
    · simp -dsimp [ac81, h1, h2, hd0, wr g5, g1, g2, wr g3, wr w1]
      refine call_p hc rfl (by simp) ?_
      by_cases h4 : n % d ≥ d - n % d <;> simp -dsimp [h4, key, wr w3, h1, h3]
    · simp -dsimp [ac81, h1, h2, hd0, wr g5, g1, g2, wr g3, e5]
      refine call_p hc rfl (by simp) ?_
      by_cases h4 : n % d ≥ d - n % d <;> simp -dsimp [h4, key, wr w3, h1, h3]
theorem b54 {n d : Int} (hn : R n) (hn2 : n ≤ 4611686018427387904) (hd : R d) : Best Tryd.prog 54 [.int .i64 n, .int .i64 d] (.p (.tup [.int .i64 (if d < 1 then 0 else roundS n d), .bool (decide (1 ≤ d))])) := by
  refine best mixed fn54 ok54 (by simp) ?_
  simp -dsimp [ac54]
  refine call_p (b81 hn hn2 hd) rfl (by simp) ?_
  simp -dsimp
theorem b39 {n m : Int} (hn : R n) (hm : 1 ≤ m) (hm2 : m ≤ 4611686018427387904) : Best Tryd.prog 39 [.int .i64 n, .int .i64 m] (.p (.int .i64 (n % m))) := by
  refine best mixed fn39 ok39 (by simp) ?_
  have hb := tmod_bd (n := n) (d := m) (by omega)
  have g2 := tmod_floor (n := n) (d := m) (by omega)
  have h0 : m ≠ 0 := by omega
  have w : R (n.tmod m + m) := ⟨by omega, by omega⟩
  have e2 := Int.emod_nonneg n h0
  have e3 := Int.emod_lt_of_pos n (by omega : 0 < m)
  have : (n.tmod m + m).tmod m = n % m := by
    rw [Int.tmod_eq_emod_of_nonneg (by omega)]
    by_cases h2 : n.tmod m < 0 <;> simp only [h2, if_true, if_false] at g2
    · rw [g2]; exact Int.emod_emod_of_dvd n (Int.dvd_refl m)
    · rw [g2, Int.add_emod_right]; exact Int.emod_emod_of_dvd n (Int.dvd_refl m)
  simp -dsimp [ac39, h0, wr w, this]
end Go.Abs.A09
namespace Go.Abs.A09
open Go Go.Abs Go.Proofs
set_option maxRecDepth 100000
set_option linter.unusedVariables false
set_option linter.unusedSimpArgs false
attribute [local simp ↓] awp_skip awp_seq awp_cond awp_block awp_exit awp_ret awp_reg awp_draw awp_ghost awp_loop awp_rfun awpR_nil awpR_cons awpX_nil awpX_0 awpX_1 awpX_2 awpI_eq awpI_t awpI_f awpStep_eq
attribute [local simp] condL_true condL_false condL_dec evDel evV evN evS evA initFr Ghost.app Fr.var Fr.blk Fr.ff FF.val Abs.look Fr.app Fr.erase Fr.noSlot AV.noSlot AV.noSlotL Blk.noSlot Fr.spoken AV.fz AV.fzL Blk.fz binV binI shI binS unV fillA FF.parts FF.vals headO intO boundO lenV scalarEq leavesEq AV.aggc AV.cells FF.read FF.rows AV.one PV.one chunk freshB newS pickV retK evRs evRl evR resOf mkTup mkAgg allP cloOf okP_nil okX_p okX okP addN Del.noSlot Del.owners Rnd reify_p normM insM Fr.back Fr.backV Fr.setPs normV insV
def intRow (n : Int) : List PV := [.int .i64 n]
theorem b53 (ns : List Int) (hl : ns.length ≤ 9223372036854775807) : Best Tryd.prog 53 [.sl 1 (ns.map intRow)] (.p (.bool (decide (∀ n ∈ ns, SM n)))) := by
  refine best mixed fn53 ok53 (by simp) ?_
  simp -dsimp [ac53]
  refine loopC ns.length (fun k => ⟨[(5, .p (.sl 1 (ns.map intRow))), (6, .p (.int .i64 ns.length)), (7, .p (.int .i64 k))], []⟩) (fun k => ∀ n ∈ ns.take k, SM n) (fun k hk hall => ?_) (by simp) (by simp)
  by_cases h : k < ns.length
  · have hx : ns[k]? = some ns[k] := by simp [h]
    have hm : ns[k] ∈ ns := by simp
    obtain ⟨x, ex⟩ : ∃ x, ns[k] = x := ⟨_, rfl⟩
    rw [ex] at hx hm
    have w : R ((k : Int) + 1) := ⟨by omega, by omega⟩
    have no : ¬ SM x → ¬ ∀ n ∈ ns, SM n := fun h1 h2 => h1 (h2 x hm)
    have yes : SM x → ∀ n ∈ ns.take (k + 1), SM n := fun h1 n hn => by
      rw [List.take_add_one, hx] at hn
      simp at hn
      rcases hn with hn | rfl
      · exact hall n hn
      · exact h1
    by_cases h1 : x < -1048576
    · have := no (by unfold SM; omega)
      simp -dsimp [h, ex, intRow, h1, this]
    · by_cases h2 : 1048576 < x
      · have := no (by unfold SM; omega)
        simp -dsimp [h, ex, intRow, h1, h2, this]
      · have := yes (by unfold SM; omega)
        simp -dsimp [h, ex, intRow, h1, h2, wr w]; exact this
  · have : k = ns.length := by omega
    subst this
    rw [List.take_length] at hall
    simp -dsimp; exact hall
theorem mulb {a n : Int} (ha : SM a) (h0 : 0 ≤ n) (h1 : n ≤ 262144) : -17592186044416 ≤ 64 * a * n ∧ 64 * a * n ≤ 17592186044416 := by
  obtain ⟨a1, a2⟩ := ha
  have e : 64 * a * n = 64 * (a * n) := Int.mul_assoc ..
  have l1 : (-1048576) * n ≤ a * n := Int.mul_le_mul_of_nonneg_right a1 h0
  have l2 : a * n ≤ 1048576 * n := Int.mul_le_mul_of_nonneg_right a2 h0
  omega
noncomputable def partS (a n d : Int) : Int × Bool := if SM a ∧ RS n d then (roundS (64 * a * n) d, true) else (0, false)
theorem b66 {a n d : Int} (hn : R n) (hd : R d) : Best Tryd.prog 66 [.int .i64 a, .agg [.int .i64 n, .int .i64 d]] (.p (.tup [.int .i64 (partS a n d).1, .bool (partS a n d).2])) := by
  refine best mixed fn66 ok66 (by simp) ?_
  simp -dsimp [ac66]
  refine call_f (b53 [a] (by simp)) (by simp [FF.reifyL, FF.reify, FF.rows, Fr.ff, Fr.blk, Fr.app, look, chunk, intRow, List.range]) rfl (by simp) ?_
  by_cases h1 : SM a
  · have h1' : ∀ n ∈ [a], SM n := by simpa using h1
    simp -dsimp [h1']
    refine call_p (b73 hn hd) rfl (by simp) ?_
    by_cases h2 : RS n d
    · have hb := mulb h1 h2.2.2.1 (by have := h2.2.1; have := h2.2.2.2.1; omega)
      have w1 : R (64 * a) := ⟨by have := h1.1; omega, by have := h1.2; omega⟩
      have w2 : R (64 * a * n) := ⟨by omega, by omega⟩
      simp -dsimp [h2, wr w1, wr w2]
      refine call_p (b54 w2 (by omega) hd) rfl (by simp) ?_
      have d1 : ¬ d < 1 := by have := h2.1; omega
      have d2 : 1 ≤ d := h2.1
      simp -dsimp [partS, h1, h2, d1, d2]
    · simp -dsimp [partS, h1, h2]
  · have h1' : ¬ ∀ n ∈ [a], SM n := by simpa using h1
    simp -dsimp [h1', partS, h1]
theorem b68 {a n d : Int} (hn : R n) (hd : R d) : Best Tryd.prog 68 [.int .i64 a, .agg [.int .i64 n, .int .i64 d]] (.p (.tup [.int .i64 (partS a n d).1, .bool (partS a n d).2])) := by
  refine best mixed fn68 ok68 (by simp) ?_
  simp -dsimp [ac68]
  refine call_p (b67 a) rfl (by simp) ?_
  have e : (decide (-1048576 ≤ a) && decide (a ≤ 1048576)) = decide (SM a) := by rw [← Bool.decide_and]; rfl
  rw [e]
  by_cases h1 : SM a
  · simp -dsimp [h1]
    refine call_p (b87 hn hd) rfl (by simp) ?_
    by_cases h2 : RS n d
    · have hb := mulb h1 h2.2.2.1 (by have := h2.2.1; have := h2.2.2.2.1; omega)
      have w1 : R (64 * a) := ⟨by have := h1.1; omega, by have := h1.2; omega⟩
      have w2 : R (64 * a * n) := ⟨by omega, by omega⟩
      simp -dsimp [h2, wr w1, wr w2]
      refine call_p (b79 w2 (by omega) hd) rfl (by simp) ?_
      have d1 : ¬ d < 1 := by have := h2.1; omega
      have d2 : 1 ≤ d := h2.1
      simp -dsimp [partS, h1, h2, d1, d2]
    · simp -dsimp [partS, h1, h2]
  · simp -dsimp [partS, h1]
end Go.Abs.A09
namespace Go.Abs.A09
open Go Go.Abs Go.Proofs
set_option maxRecDepth 100000
set_option linter.unusedVariables false
set_option linter.unusedSimpArgs false
attribute [local simp ↓] awp_skip awp_seq awp_cond awp_block awp_exit awp_ret awp_reg awp_draw awp_ghost awp_loop awp_rfun awpR_nil awpR_cons awpX_nil awpX_0 awpX_1 awpX_2 awpI_eq awpI_t awpI_f awpStep_eq
attribute [local simp] condL_true condL_false condL_dec evDel evV evN evS evA initFr Ghost.app Fr.var Fr.blk Fr.ff FF.val Abs.look Fr.app Fr.erase Fr.noSlot AV.noSlot AV.noSlotL Blk.noSlot Fr.spoken AV.fz AV.fzL Blk.fz binV binI shI binS unV fillA FF.parts FF.vals headO intO boundO lenV scalarEq leavesEq AV.aggc AV.cells FF.read FF.rows AV.one PV.one chunk freshB newS pickV retK evRs evRl evR resOf mkTup mkAgg allP cloOf okP_nil okX_p okX okP addN Del.noSlot Del.owners Rnd reify_p normM insM Fr.back Fr.backV Fr.setPs normV insV
def CO (n : Int) : Prop := -64 ≤ n ∧ n ≤ 64
instance {n : Int} : Decidable (CO n) := inferInstanceAs (Decidable (_ ∧ _))
structure T3 where
  f : Int
  p : Int
  t : Int
def tRow (x : T3) : List PV := [.int .i64 x.f, .int .i64 x.p, .int .i64 x.t]
def TE (x : T3) : Prop := -64 ≤ x.f ∧ x.f ≤ x.p ∧ x.p ≤ x.t ∧ x.t ≤ 64 ∧ (x.p = 0 ∨ 0 ≤ x.f ∨ x.t ≤ 0)
instance {x : T3} : Decidable (TE x) := inferInstanceAs (Decidable (_ ∧ _ ∧ _ ∧ _ ∧ (_ ∨ _ ∨ _)))
theorem b47' (n : Int) : Best Tryd.prog 47 [.int .i64 n] (.p (.bool (decide (CO n)))) := by
  have e : (decide (-64 ≤ n) && decide (n ≤ 64)) = decide (CO n) := by rw [← Bool.decide_and]; rfl
  rw [← e]; exact b47 n
theorem b19' (n : Int) : Best Tryd.prog 19 [.int .i64 n] (.p (.bool (decide (CO n)))) := by
  have e : (decide (-64 ≤ n) && decide (n ≤ 64)) = decide (CO n) := by rw [← Bool.decide_and]; rfl
  rw [← e]; exact b19 n
theorem TEn {x : T3} (h : ¬ (-64 ≤ x.f ∧ x.f ≤ x.p ∧ x.p ≤ x.t ∧ x.t ≤ 64 ∧ (x.p = 0 ∨ 0 ≤ x.f ∨ x.t ≤ 0))) : ¬ TE x := h
theorem TEy {x : T3} (h : -64 ≤ x.f ∧ x.f ≤ x.p ∧ x.p ≤ x.t ∧ x.t ≤ 64 ∧ (x.p = 0 ∨ 0 ≤ x.f ∨ x.t ≤ 0)) : TE x := h
theorem b57 (x : T3) : Best Tryd.prog 57 [.agg (tRow x)] (.p (.bool (decide (TE x)))) := by
  obtain ⟨f, p, t⟩ := x
  refine best mixed fn57 ok57 (by simp) ?_
  simp -dsimp [ac57, tRow]
  refine call_p (b47' f) rfl (by simp) ?_
  by_cases h1 : CO f
  rotate_left
  · have := TEn (x := ⟨f, p, t⟩) (by unfold CO at h1; dsimp only; omega)
    simp -dsimp [h1, this]
  by_cases h2 : f ≤ p
  rotate_left
  · have := TEn (x := ⟨f, p, t⟩) (by dsimp only; omega)
    simp -dsimp [h1, h2, this]
  by_cases h3 : p ≤ t
  rotate_left
  · have := TEn (x := ⟨f, p, t⟩) (by dsimp only; omega)
    simp -dsimp [h1, h2, h3, this]
  simp -dsimp [h1, h2, h3]
  refine call_p (b47' t) rfl (by simp) ?_
  by_cases h4 : CO t
  rotate_left
  · have := TEn (x := ⟨f, p, t⟩) (by unfold CO at *; dsimp only; omega)
    simp -dsimp [h4, this]
  by_cases h5 : p = 0
  · have := TEy (x := ⟨f, p, t⟩) (by unfold CO at *; dsimp only; omega)
    simp -dsimp [h4, h5]; simpa [h5] using this
  by_cases h6 : 0 ≤ f
  · have := TEy (x := ⟨f, p, t⟩) (by unfold CO at *; dsimp only; omega)
    simp -dsimp [h4, h5, h6, this]
  by_cases h7 : t ≤ 0
  · have := TEy (x := ⟨f, p, t⟩) (by unfold CO at *; dsimp only; omega)
    simp -dsimp [h4, h5, h6, h7, this]
  · have := TEn (x := ⟨f, p, t⟩) (by dsimp only; omega)
    simp -dsimp [h4, h5, h6, h7, this]
theorem b59 (x : T3) : Best Tryd.prog 59 [.agg (tRow x)] (.p (.bool (decide (TE x)))) := by
  obtain ⟨f, p, t⟩ := x
  refine best mixed fn59 ok59 (by simp) ?_
  by_cases h1 : -64 ≤ f
  rotate_left
  · have := TEn (x := ⟨f, p, t⟩) (by dsimp only; omega)
    simp -dsimp [ac59, tRow, h1, this]
  by_cases h2 : f ≤ p
  rotate_left
  · have := TEn (x := ⟨f, p, t⟩) (by dsimp only; omega)
    simp -dsimp [ac59, tRow, h1, h2, this]
  by_cases h3 : p ≤ t
  rotate_left
  · have := TEn (x := ⟨f, p, t⟩) (by dsimp only; omega)
    simp -dsimp [ac59, tRow, h1, h2, h3, this]
  by_cases h4 : t ≤ 64
  rotate_left
  · have := TEn (x := ⟨f, p, t⟩) (by dsimp only; omega)
    simp -dsimp [ac59, tRow, h1, h2, h3, h4, this]
  by_cases h5 : p = 0
  · have := TEy (x := ⟨f, p, t⟩) (by dsimp only; omega)
    subst h5
    simp -dsimp [ac59, tRow, h1, h2, h3, h4, this]
  by_cases h6 : 0 ≤ f
  · have := TEy (x := ⟨f, p, t⟩) (by dsimp only; omega)
    simp -dsimp [ac59, tRow, h1, h2, h3, h4, h5, h6, this]
  by_cases h7 : t ≤ 0
  · have := TEy (x := ⟨f, p, t⟩) (by dsimp only; omega)
    simp -dsimp [ac59, tRow, h1, h2, h3, h4, h5, h6, h7, this]
  · have := TEn (x := ⟨f, p, t⟩) (by dsimp only; omega)
    simp -dsimp [ac59, tRow, h1, h2, h3, h4, h5, h6, h7, this]
theorem b56 (x : T3) : Best Tryd.prog 56 [.agg (tRow x)] (.p (.bool (!decide (TE x)))) := by
  refine best mixed fn56 ok56 (by simp) ?_
  have h := b57 x
  generalize decide (TE x) = b at *
  obtain ⟨f, p, t⟩ := x
  simp -dsimp [ac56, tRow] at h ⊢
  refine call_p h rfl (by simp) ?_
  simp -dsimp
theorem b84 (n : Int) : Best Tryd.prog 84 [.int .i64 n] (.p (.bool (!decide (CO n)))) := by
  refine best mixed fn84 ok84 (by simp) ?_
  simp -dsimp [ac84]
  refine call_p (b47' n) rfl (by simp) ?_
  simp -dsimp
end Go.Abs.A09
