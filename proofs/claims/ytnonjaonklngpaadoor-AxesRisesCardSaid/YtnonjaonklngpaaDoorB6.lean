/- Proved: the law AxesRises returns true for every input, and its arguments read behind the call as they did; no condition beyond the given card. -/
import Derived.Test.YtnonjaonklngpaaDoorB5
import Derived.Test.YtnonjaonklngpaaDoorProg
import Derived.OpenShut
import Derived.Deep.Slices
import Derived.WideShapes
import Derived.Carry
import Derived.DataElems
import Derived.Test.YtnonjaonklngpaaDoorRows
import Derived.ChangeSame
import Derived.ChangeVars
import Derived.JoinedOf
import Derived.RowKit
import Derived.RowKitTokens
import Derived.LaidLaws
import Derived.LaidHandle
import Derived.Stop.Joined
import Derived.Lib.LaidIn
import Derived.Lib.LaidU8T
import Derived.ProofKit
import Derived.SizedLaws
import Derived.Test.YtnonjaonklngpaaDoorCards
import Derived.Test.YtnonjaonklngpaaDoorTie
import Derived.SevenTiedAt
namespace Go.Abs.A09
open Go Go.Abs Go.Proofs
set_option maxRecDepth 100000
set_option linter.unusedVariables false
/-- abugida/abugidalaw09.sanity -/
def ac11 : AC := (.ghost (.keep [])
  (.seq (.reg [⟨some 0, .mov (.c (.bool false)), none, []⟩])
  (.ghost (.keep []) (.seq (.reg [⟨some 9, .build [.int .i64 0, .int .i64 0] [(0, 1, .c (.int .i64 100)), (1, 1, .c (.int .i64 (-64)))], none, []⟩,
    ⟨some 10, .build [.int .i64 0, .int .i64 0] [(0, 1, .c (.int .i64 400)), (1, 1, .c (.int .i64 0))], none, []⟩,
    ⟨some 11, .build [.int .i64 0, .int .i64 0] [(0, 1, .c (.int .i64 700)), (1, 1, .c (.int .i64 16))], none, []⟩,
    ⟨some 12, .build [.int .i64 0, .int .i64 0] [(0, 1, .c (.int .i64 900)), (1, 1, .c (.int .i64 64))], none, []⟩,
    ⟨some 13, .bslice 30 2 4 [.int .i64 0, .int .i64 0, .int .i64 0, .int .i64 0, .int .i64 0, .int .i64 0, .int .i64 0, .int .i64 0] [(0, 2, .v 9), (2, 2, .v 10), (4, 2, .v 11), (6, 2, .v 12)], none, [0, 1, 2, 3]⟩,
    ⟨some 14, .build [.str ⟨#[]⟩, .int .i64 0, .int .i64 0, .int .i64 0, .nsl] [(0, 1, .c (.str ⟨#[119, 103, 104, 116]⟩)), (1, 1, .c (.int .i64 100)), (2, 1, .c (.int .i64 400)), (3, 1, .c (.int .i64 900)), (4, 1, .v 13)], none, [4]⟩,
    ⟨some 1, .alloc [.str ⟨#[]⟩, .int .i64 0, .int .i64 0, .int .i64 0, .nsl], none, []⟩,
    ⟨none, .store 5 (.v 1) (.v 14), none, [6, 5, 0, 1, 2, 3, 4, 5, 6]⟩])
  (.ghost (.keep [1]) (.seq (.reg [⟨some 15, .call 40 [.c (.int .i64 0), .c (.int .i64 32), .c (.int .i64 64)], none, []⟩,
    ⟨some 2, .alloc [.nsl], none, []⟩,
    ⟨none, .store 1 (.v 2) (.v 15), none, [1, 0, 0, 0, 1]⟩])
  (.ghost (.keep [1, 2]) (.seq (.reg [⟨some 16, .load true 5 (.v 1), none, []⟩,
    ⟨some 17, .build [.int .i64 0, .int .i64 0] [(0, 1, .c (.int .i64 100)), (1, 1, .c (.int .i64 (-64)))], none, []⟩,
    ⟨some 18, .build [.int .i64 0, .int .i64 0] [(0, 1, .c (.int .i64 250)), (1, 1, .c (.int .i64 (-32)))], none, []⟩,
    ⟨some 19, .build [.int .i64 0, .int .i64 0] [(0, 1, .c (.int .i64 400)), (1, 1, .c (.int .i64 0))], none, []⟩,
    ⟨some 20, .build [.int .i64 0, .int .i64 0] [(0, 1, .c (.int .i64 550)), (1, 1, .c (.int .i64 8))], none, []⟩,
    ⟨some 21, .build [.int .i64 0, .int .i64 0] [(0, 1, .c (.int .i64 800)), (1, 1, .c (.int .i64 40))], none, []⟩,
    ⟨some 22, .build [.int .i64 0, .int .i64 0] [(0, 1, .c (.int .i64 2000)), (1, 1, .c (.int .i64 64))], none, []⟩,
    ⟨some 23, .build [.int .i64 0, .int .i64 0] [(0, 1, .c (.int .i64 101)), (1, 1, .c (.int .i64 (-64)))], none, []⟩,
    ⟨some 24, .bslice 30 2 7 [.int .i64 0, .int .i64 0, .int .i64 0, .int .i64 0, .int .i64 0, .int .i64 0, .int .i64 0, .int .i64 0, .int .i64 0, .int .i64 0, .int .i64 0, .int .i64 0, .int .i64 0, .int .i64 0] [(0, 2, .v 17), (2, 2, .v 18), (4, 2, .v 19), (6, 2, .v 20), (8, 2, .v 21), (10, 2, .v 22), (12, 2, .v 23)], none, [1, 2, 3, 4, 5, 6, 7]⟩,
    ⟨some 25, .call 41 [.v 16, .v 24], none, [0, 8]⟩,
    ⟨some 3, .mov (.v 25), none, [9, 9, 0, 1, 2, 3, 4, 5, 6, 7, 8, 9]⟩])
  (.ghost (.keep [2, 3]) (.seq (.reg [⟨some 26, .build [.int .i64 0, .int .i64 0, .int .i64 0] [(0, 1, .c (.int .i64 0)), (1, 1, .c (.int .i64 32)), (2, 1, .c (.int .i64 64))], none, []⟩,
    ⟨some 27, .build [.int .i64 0, .int .i64 0, .int .i64 0] [(0, 1, .c (.int .i64 (-64))), (1, 1, .c (.int .i64 0)), (2, 1, .c (.int .i64 9))], none, []⟩,
    ⟨some 28, .build [.int .i64 0, .int .i64 0, .int .i64 0] [(0, 1, .c (.int .i64 (-30))), (1, 1, .c (.int .i64 (-30))), (2, 1, .c (.int .i64 (-10)))], none, []⟩,
    ⟨some 29, .bslice 71 3 3 [.int .i64 0, .int .i64 0, .int .i64 0, .int .i64 0, .int .i64 0, .int .i64 0, .int .i64 0, .int .i64 0, .int .i64 0] [(0, 3, .v 26), (3, 3, .v 27), (6, 3, .v 28)], none, [0, 1, 2]⟩,
    ⟨some 30, .build [.nsl] [(0, 1, .v 29)], none, [3]⟩,
    ⟨some 4, .alloc [.nsl], none, []⟩,
    ⟨none, .store 1 (.v 4) (.v 30), none, [5, 4, 0, 1, 2, 3, 4, 5]⟩])
  (.ghost (.keep [2, 3, 4]) (.seq (.reg [⟨some 31, .load true 1 (.v 2), none, []⟩,
    ⟨some 32, .bslice 3 1 1 [.int .i64 0] [(0, 1, .c (.int .i64 16))], none, []⟩,
    ⟨some 33, .call 42 [.v 31, .c (.int .i64 1), .c (.int .i64 2), .v 32], none, [0, 1]⟩,
    ⟨some 34, .mov (.v 33), none, [2, 2]⟩,
    ⟨some 35, .load true 1 (.v 2), some (34, true), [3]⟩,
    ⟨some 36, .bslice 3 1 1 [.int .i64 0] [(0, 1, .c (.int .i64 32))], some (34, true), [3]⟩,
    ⟨some 37, .call 42 [.v 35, .c (.int .i64 1), .c (.int .i64 1), .v 36], some (34, true), [4, 5, 3, 3]⟩,
    ⟨some 38, .pick (.v 34) (.v 37) (.c (.bool false)), none, [3, 6]⟩,
    ⟨some 39, .mov (.v 38), none, [7, 6]⟩,
    ⟨some 40, .load true 1 (.v 2), some (39, true), [8]⟩,
    ⟨some 41, .bslice 3 1 1 [.int .i64 0] [(0, 1, .c (.int .i64 48))], some (39, true), [8]⟩,
    ⟨some 42, .call 42 [.v 40, .c (.int .i64 1), .c (.int .i64 2), .v 41], some (39, true), [9, 10, 8, 8]⟩,
    ⟨some 43, .pick (.v 39) (.v 42) (.c (.bool false)), none, [8, 11]⟩,
    ⟨some 44, .mov (.v 43), none, [12, 11]⟩,
    ⟨some 45, .load true 1 (.v 2), some (44, true), [13]⟩,
    ⟨some 46, .bslice 3 1 1 [.int .i64 0] [(0, 1, .c (.int .i64 64))], some (44, true), [13]⟩,
    ⟨some 47, .call 42 [.v 45, .c (.int .i64 0), .c (.int .i64 1), .v 46], some (44, true), [14, 15, 13, 13]⟩,
    ⟨some 48, .pick (.v 44) (.v 47) (.c (.bool false)), none, [13, 16]⟩,
    ⟨some 49, .mov (.v 48), none, [17, 16]⟩,
    ⟨some 50, .load true 1 (.v 2), some (49, true), [18]⟩,
    ⟨some 51, .bslice 3 1 1 [.int .i64 0] [(0, 1, .c (.int .i64 0))], some (49, true), [18]⟩,
    ⟨some 52, .call 42 [.v 50, .c (.int .i64 0), .c (.int .i64 1), .v 51], some (49, true), [19, 20, 18, 18]⟩,
    ⟨some 53, .pick (.v 49) (.v 52) (.c (.bool false)), none, [18, 21]⟩,
    ⟨some 54, .mov (.v 53), none, [22, 21]⟩,
    ⟨some 55, .load true 1 (.v 2), some (54, true), [23]⟩,
    ⟨some 56, .bslice 3 1 1 [.int .i64 0] [(0, 1, .c (.int .i64 20))], some (54, true), [23]⟩,
    ⟨some 57, .call 42 [.v 55, .c (.int .i64 5), .c (.int .i64 8), .v 56], some (54, true), [24, 25, 23, 23]⟩,
    ⟨some 58, .pick (.v 54) (.v 57) (.c (.bool false)), none, [23, 26]⟩,
    ⟨some 59, .mov (.v 58), none, [27, 26]⟩,
    ⟨some 60, .load true 1 (.v 4), some (59, true), [28]⟩,
    ⟨some 61, .bslice 3 1 3 [.int .i64 0, .int .i64 0, .int .i64 0] [(0, 1, .c (.int .i64 8)), (1, 1, .c (.int .i64 50)), (2, 1, .c (.int .i64 (-20)))], some (59, true), [28]⟩,
    ⟨some 62, .call 42 [.v 60, .c (.int .i64 1), .c (.int .i64 8), .v 61], some (59, true), [29, 30, 28, 28]⟩,
    ⟨some 63, .pick (.v 59) (.v 62) (.c (.bool false)), none, [28, 31]⟩,
    ⟨some 5, .mov (.v 63), none, [32, 31, 0, 1, 2, 3, 4, 5, 6, 7, 8, 9, 10, 11, 12, 13, 14, 15, 16, 17, 18, 19, 20, 21, 22, 23, 24, 25, 26, 27, 28, 29, 30, 31, 32]⟩])
  (.ghost (.keep [2, 3, 5]) (.seq (.reg [⟨some 65, .build [.int .i64 0, .int .i64 0] [(0, 1, .c (.int .i64 0)), (1, 1, .c (.int .i64 4))], none, []⟩,
    ⟨some 66, .build [.int .i64 0, .int .i64 0] [(0, 1, .c (.int .i64 0)), (1, 1, .c (.int .i64 (-3)))], none, []⟩,
    ⟨some 67, .bslice 60 2 2 [.int .i64 0, .int .i64 0, .int .i64 0, .int .i64 0] [(0, 2, .v 65), (2, 2, .v 66)], none, [0, 1]⟩,
    ⟨some 68, .load true 1 (.v 2), none, []⟩,
    ⟨some 69, .bslice 42 1 1 [.nsl] [(0, 1, .v 68)], none, [3]⟩,
    ⟨some 70, .bslice 3 1 1 [.int .i64 0] [(0, 1, .c (.int .i64 16))], none, []⟩,
    ⟨some 71, .call 29 [.c (.int .i64 10), .v 67, .v 69, .v 70], none, [2, 4, 5]⟩,
    ⟨some 64, .mov (.v 71), none, [6]⟩,
    ⟨some 72, .ext (.v 64) 0, none, [7]⟩,
    ⟨some 73, .ext (.v 64) 1, none, [7]⟩,
    ⟨some 6, .mov (.v 72), none, [8, 6, 0, 1, 2, 3, 4, 5, 6, 7, 8]⟩,
    ⟨some 7, .mov (.v 73), none, [9, 10, 0, 1, 2, 3, 4, 5, 6, 7, 8, 9, 10]⟩])
  (.ghost (.keep [2, 3, 5, 6, 7]) (.seq (.reg [⟨some 74, .mov (.v 7), none, []⟩,
    ⟨some 75, .mov (.v 74), none, [0]⟩,
    ⟨some 76, .mov (.v 6), some (75, true), [1]⟩,
    ⟨some 77, .bin .eql (.v 76) (.c (.int .i64 672)), some (75, true), [2, 1]⟩,
    ⟨some 78, .pick (.v 75) (.v 77) (.c (.bool false)), none, [1, 3]⟩,
    ⟨some 79, .mov (.v 78), none, [4, 1]⟩,
    ⟨some 80, .load true 1 (.v 2), some (79, true), [5]⟩,
    ⟨some 81, .build [.int .i64 0, .int .i64 0] [(0, 1, .c (.int .i64 (-64))), (1, 1, .c (.int .i64 0))], some (79, true), [5]⟩,
    ⟨some 82, .bslice 30 2 1 [.int .i64 0, .int .i64 0] [(0, 2, .v 81)], some (79, true), [7, 5]⟩,
    ⟨some 83, .call 36 [.v 80, .v 82], some (79, true), [6, 8, 5, 5]⟩,
    ⟨some 84, .un .not (.v 83), some (79, true), [9, 5]⟩,
    ⟨some 85, .pick (.v 79) (.v 84) (.c (.bool false)), none, [5, 10]⟩,
    ⟨some 86, .mov (.v 85), none, [11, 9]⟩,
    ⟨some 87, .load true 1 (.v 2), some (86, true), [12]⟩,
    ⟨some 88, .build [.int .i64 0, .int .i64 0] [(0, 1, .c (.int .i64 0)), (1, 1, .c (.int .i64 1))], some (86, true), [12]⟩,
    ⟨some 89, .bslice 30 2 1 [.int .i64 0, .int .i64 0] [(0, 2, .v 88)], some (86, true), [14, 12]⟩,
    ⟨some 90, .call 36 [.v 87, .v 89], some (86, true), [13, 15, 12, 12]⟩,
    ⟨some 91, .pick (.v 86) (.v 90) (.c (.bool false)), none, [12, 16]⟩,
    ⟨some 92, .mov (.v 91), none, [17, 16]⟩,
    ⟨some 93, .load true 1 (.v 2), some (92, true), [18]⟩,
    ⟨some 94, .build [.int .i64 0, .int .i64 0] [(0, 1, .c (.int .i64 64)), (1, 1, .c (.int .i64 64))], some (92, true), [18]⟩,
    ⟨some 95, .bslice 30 2 1 [.int .i64 0, .int .i64 0] [(0, 2, .v 94)], some (92, true), [20, 18]⟩,
    ⟨some 96, .call 36 [.v 93, .v 95], some (92, true), [19, 21, 18, 18]⟩,
    ⟨some 97, .un .not (.v 96), some (92, true), [22, 18]⟩,
    ⟨some 98, .pick (.v 92) (.v 97) (.c (.bool false)), none, [18, 23]⟩,
    ⟨some 8, .mov (.v 98), none, [24, 22, 0, 1, 2, 3, 4, 5, 6, 7, 8, 9, 10, 11, 12, 13, 14, 15, 16, 17, 18, 19, 20, 21, 22, 23, 24]⟩])
  (.ghost (.keep [3, 5, 8]) (.seq (.reg [⟨some 99, .mov (.v 3), none, []⟩,
    ⟨some 100, .mov (.v 99), none, [0]⟩,
    ⟨some 101, .mov (.v 5), some (100, true), [1]⟩,
    ⟨some 102, .pick (.v 100) (.v 101) (.c (.bool false)), none, [1, 2]⟩,
    ⟨some 103, .mov (.v 102), none, [3, 1]⟩,
    ⟨some 104, .mov (.v 8), some (103, true), [4]⟩,
    ⟨some 105, .pick (.v 103) (.v 104) (.c (.bool false)), none, [4, 5]⟩,
    ⟨some 106, .mov (.v 105), none, [6, 4]⟩,
    ⟨some 107, .call 40 [.c (.int .i64 (-1)), .c (.int .i64 1), .c (.int .i64 5)], some (106, true), [7, 7]⟩,
    ⟨some 108, .call 23 [.v 107, .c (.int .i64 1)], some (106, true), [8, 8, 7]⟩,
    ⟨some 109, .un .not (.v 108), some (106, true), [9, 7]⟩,
    ⟨some 110, .pick (.v 106) (.v 109) (.c (.bool false)), none, [7, 10]⟩,
    ⟨some 111, .mov (.v 110), none, [11, 9]⟩,
    ⟨some 112, .call 40 [.c (.int .i64 5), .c (.int .i64 5), .c (.int .i64 5)], some (111, true), [12, 12]⟩,
    ⟨some 113, .call 23 [.v 112, .c (.int .i64 1)], some (111, true), [13, 13, 12]⟩,
    ⟨some 114, .pick (.v 111) (.v 113) (.c (.bool false)), none, [12, 14]⟩,
    ⟨some 115, .mov (.v 114), none, [15, 14]⟩,
    ⟨some 116, .bslice 3 1 1 [.int .i64 0] [(0, 1, .c (.int .i64 3))], some (115, true), [16]⟩,
    ⟨some 117, .build [.int .i64 0, .int .i64 0] [(0, 1, .c (.int .i64 3)), (1, 1, .c (.int .i64 4))], some (115, true), [16]⟩,
    ⟨some 118, .bslice 30 2 1 [.int .i64 0, .int .i64 0] [(0, 2, .v 117)], some (115, true), [18, 16]⟩,
    ⟨some 119, .call 34 [.v 116, .v 118], some (115, true), [17, 19, 16, 16]⟩,
    ⟨some 120, .pick (.v 115) (.v 119) (.c (.bool false)), none, [16, 20]⟩,
    ⟨some 121, .mov (.v 120), none, [21, 20]⟩,
    ⟨some 122, .call 32 [.c .nsl, .c (.int .i64 0)], some (121, true), [22, 22]⟩,
    ⟨some 123, .pick (.v 121) (.v 122) (.c (.bool false)), none, [22, 23]⟩,
    ⟨some 0, .mov (.v 123), none, [24, 23, 0, 1, 2, 3, 4, 5, 6, 7, 8, 9, 10, 11, 12, 13, 14, 15, 16, 17, 18, 19, 20, 21, 22, 23, 24]⟩])
  (.ghost (.keep [0]) .ret)))))))))))))))))))
theorem fn11 : factOf Tryd.prog 11 = some (ac11.strip, [.tmp 0], 124) := by kernel_rfl
theorem ok11 : ac11.okAll = true := by kernel_rfl

end Go.Abs.A09
namespace Go.Abs.A09
open Go Go.Abs Go.Proofs
set_option maxRecDepth 100000
set_option linter.unusedVariables false
set_option linter.unusedSimpArgs false
attribute [local simp ↓] awp_skip awp_seq awp_cond awp_block awp_exit awp_ret awp_reg awp_draw awp_ghost awp_loop awp_rfun awpR_nil awpR_cons awpX_nil awpX_0 awpX_1 awpX_2 awpI_eq awpI_t awpI_f awpStep_eq
attribute [local simp] condL_true condL_false condL_dec evDel evV evN evS evA initFr Ghost.app Fr.var Fr.blk Fr.ff FF.val Abs.look Fr.app Fr.erase Fr.noSlot AV.noSlot AV.noSlotL Blk.noSlot Fr.spoken AV.fz AV.fzL Blk.fz binV binI shI binS unV fillA FF.parts FF.vals headO intO boundO lenV scalarEq leavesEq AV.aggc AV.cells FF.read FF.rows AV.one PV.one chunk freshB newS pickV retK evRs evRl evR resOf mkTup mkAgg allP cloOf okP_nil okX_p okX okP addN Del.noSlot Del.owners Rnd reify_p normM insM Fr.back Fr.backV Fr.setPs normV insV
attribute [local simp] FF.reify FF.reifyL PV.flat
theorem b40 (f p t : Int) : Best Tryd.prog 40 [.int .i64 f, .int .i64 p, .int .i64 t] (.p (.agg [.sl 3 [[.int .i64 f, .int .i64 p, .int .i64 t]]])) := by
  refine best mixed fn40 ok40 (by simp) ?_
  simp -dsimp [ac40, List.range, List.range.loop]
theorem b42 (r : List T3) (num den : Int) (l : List Int) (hr : r.length ≤ 9223372036854775807) : Best Tryd.prog 42 [.agg [.sl 3 (r.map tRow)], .int .i64 num, .int .i64 den, .sl 1 (l.map intRow)] (.p (.bool (decide ((scaS r l).1 = num) && decide ((scaS r l).2 = den)))) := by
  refine best mixed fn42 ok42 (by simp) ?_
  simp -dsimp [ac42]
  refine call_p (b25 r l hr) rfl (by simp) ?_
  simp -dsimp
theorem b41 (a : Ax) (l : List (Int × Int)) (hl : a.m.length ≤ 9223372036854775807) (hl2 : l.length ≤ 9223372036854775807) (h0 : chkS a = 0) (h1 : ∀ x ∈ l, normS a x.1 = x.2) : Best Tryd.prog 41 [.agg (axC a), .sl 2 (l.map pRow)] (.p (.bool true)) := by
  refine best mixed fn41 ok41 (by simp) ?_
  have h14 := b14 a hl
  have h16 := fun v => b16 a v hl
  rw [h0] at h14
  generalize normS a = no at *
  obtain ⟨nm, lo, df, hi, m⟩ := a
  clear h0
  simp -dsimp [ac41, axC] at h14 h16 ⊢
  refine loopC l.length (fun k => ⟨[(2, .ptr (2, 0) 5 0 0), (7, .p (.sl 2 (l.map pRow))), (8, .p (.int .i64 l.length)), (9, .p (.int .i64 k))], [((2, 0), .box [.p (.str (ba nm)), .p (.int .i64 lo), .p (.int .i64 df), .p (.int .i64 hi), .p (.sl 2 (m.map pRow))])]⟩) (fun _ => True) (fun k hk _ => ?_) trivial (by simp)
  by_cases h : k < l.length
  · obtain ⟨⟨x, y⟩, ex⟩ : ∃ x, l[k] = x := ⟨_, rfl⟩
    have hx : l[k]? = some (x, y) := by rw [List.getElem?_eq_getElem h, ex]
    have w : R ((k : Int) + 1) := ⟨by omega, by omega⟩
    have e := h1 _ (List.mem_of_getElem? hx)
    dsimp only at e
    simp -dsimp [h, ex, pRow]
    refine call_p (h16 x) rfl (by simp) ?_
    simp -dsimp [e, wr w, h]
  · have : k = l.length := by omega
    subst this
    simp -dsimp
    refine call_p h14 rfl (by simp) ?_
    simp -dsimp
/-! ### the examples -/
def a0 : Ax := ⟨[119, 103, 104, 116], 100, 400, 900, [(100, -64), (400, 0), (700, 16), (900, 64)]⟩
theorem a0_ok : AXP a0 := by
  refine ⟨by decide, by decide, by decide, by decide, by decide, by decide, by decide, by decide, by decide, by decide, by decide⟩
theorem a0_chk : chkS a0 = 0 := chk_ok (by decide) a0_ok
theorem a0_norm : ∀ x ∈ [((100 : Int), (-64 : Int)), (250, -32), (400, 0), (550, 8), (800, 40), (2000, 64), (101, -64)], normS a0 x.1 = x.2 := by
  intro x hx
  unfold normS
  rw [if_pos a0_chk]
  revert x
  decide +kernel
theorem gcd_l (m n : Nat) {a b : Int} (ha : a = m) (hb : b = n) : gcdI a b = (Nat.gcd m n : Nat) := by subst ha hb; exact gcdI_nat n m
theorem sc1 : scaS [⟨0, 32, 64⟩] [16] = (1, 2) := by
  simp [scaS, mulS, timesS, strS, rawS, gcdI, RI, CL, TE, CO, RS]
theorem sc2 : scaS [⟨0, 32, 64⟩] [32] = (1, 1) := by
  simp [scaS, mulS, timesS, strS, rawS, gcdI, RI, CL, TE, CO, RS]
theorem sc3 : scaS [⟨0, 32, 64⟩] [48] = (1, 2) := by
  simp [scaS, mulS, timesS, strS, rawS, gcdI, RI, CL, TE, CO, RS]
theorem sc4 : scaS [⟨0, 32, 64⟩] [64] = (0, 1) := by
  simp [scaS, mulS, timesS, strS, rawS, gcdI, RI, CL, TE, CO, RS]
theorem sc5 : scaS [⟨0, 32, 64⟩] [0] = (0, 1) := by
  simp [scaS, mulS, timesS, strS, rawS, gcdI, RI, CL, TE, CO, RS]
theorem sc6 : scaS [⟨0, 32, 64⟩] [20] = (5, 8) := by
  simp [scaS, mulS, timesS, strS, rawS, gcdI, RI, CL, TE, CO, RS]
theorem sc7 : scaS [⟨0, 32, 64⟩, ⟨-64, 0, 9⟩, ⟨-30, -30, -10⟩] [8, 50, -20] = (1, 8) := by
  simp [scaS, mulS, timesS, strS, rawS, gcdI, RI, CL, TE, CO, RS]
theorem rs12 : RS 1 2 := ⟨by decide, by decide, by decide, by decide, by simp [gcdI]⟩
theorem pa1 {y : Int} (h : SM y) : partS y 1 2 = (roundS (64 * y * 1) 2, true) := if_pos ⟨h, rs12⟩
theorem gr1 {y : Int} (h : SM y) : growS [[⟨0, 32, 64⟩]] [16] (0, y) = some (roundS (64 * y * 1) 2) := by
  have e : ([[⟨0, 32, 64⟩]] : List (List T3)).getD ((0 : Int), y).1.toNat [] = [⟨0, 32, 64⟩] := rfl
  unfold growS
  rw [e, sc1, pa1 h]
  rw [if_pos ⟨by dsimp only; omega, by simp, by decide, rfl⟩]
theorem su1 : sumS 10 [(0, 4), (0, -3)] [[⟨0, 32, 64⟩]] [16] = (672, true) := by
  have e : sumL [[⟨0, 32, 64⟩]] [16] (64 * 10) [(0, 4), (0, -3)] = some 672 := by
    unfold sumL
    simp only [List.foldl_cons, List.foldl_nil, Option.bind_some, gr1 (show SM 4 by decide), gr1 (show SM (-3) by decide), Option.map_some]
    decide
  unfold sumS
  rw [if_pos ⟨by decide, by decide, by decide⟩, e]
theorem b32n : Best Tryd.prog 32 [.nsl, .int .i64 0] (.p (.bool true)) := by
  have := b32 [] 0 (by simp)
  rw [decide_eq_true (by decide : RG [] 0)] at this
  exact Best.args (fun S xs h => Ps.cons_imp (fun v hv => hv.nsl_sl 2) (fun _ h => h) h) this
theorem b42t (r : List T3) (num den : Int) (l : List Int) (hr : r.length ≤ 9223372036854775807) (h : scaS r l = (num, den)) : Best Tryd.prog 42 [.agg [.sl 3 (r.map tRow)], .int .i64 num, .int .i64 den, .sl 1 (l.map intRow)] (.p (.bool true)) := by
  have := b42 r num den l hr
  rw [h] at this; simpa using this
set_option maxHeartbeats 4000000 in
theorem b11 : Best Tryd.prog 11 [] (.p (.bool true)) := by
  refine best mixed fn11 ok11 (by simp) ?_
  have h41 := b41 a0 [((100 : Int), (-64 : Int)), (250, -32), (400, 0), (550, 8), (800, 40), (2000, 64), (101, -64)] (by decide) (by decide) a0_chk a0_norm
  simp -dsimp [ac11, List.range, List.range.loop]
  refine call_p (b40 0 32 64) rfl (by simp) ?_
  simp -dsimp [List.range, List.range.loop]
  refine call_f h41 (by simp [axC, a0, pRow, ba]) rfl (by simp) ?_
  simp -dsimp [List.range, List.range.loop]
  refine call_f (b42t [⟨0, 32, 64⟩] 1 2 [16] (by simp) sc1) (by simp [tRow, intRow]) rfl (by simp) ?_
  simp -dsimp [List.range, List.range.loop]
  refine call_f (b42t [⟨0, 32, 64⟩] 1 1 [32] (by simp) sc2) (by simp [tRow, intRow]) rfl (by simp) ?_
  simp -dsimp [List.range, List.range.loop]
  refine call_f (b42t [⟨0, 32, 64⟩] 1 2 [48] (by simp) sc3) (by simp [tRow, intRow]) rfl (by simp) ?_
  simp -dsimp [List.range, List.range.loop]
  refine call_f (b42t [⟨0, 32, 64⟩] 0 1 [64] (by simp) sc4) (by simp [tRow, intRow]) rfl (by simp) ?_
  simp -dsimp [List.range, List.range.loop]
  refine call_f (b42t [⟨0, 32, 64⟩] 0 1 [0] (by simp) sc5) (by simp [tRow, intRow]) rfl (by simp) ?_
  simp -dsimp [List.range, List.range.loop]
  refine call_f (b42t [⟨0, 32, 64⟩] 5 8 [20] (by simp) sc6) (by simp [tRow, intRow]) rfl (by simp) ?_
  simp -dsimp [List.range, List.range.loop]
  refine call_f (b42t [⟨0, 32, 64⟩, ⟨-64, 0, 9⟩, ⟨-30, -30, -10⟩] 1 8 [8, 50, -20] (by simp) sc7) (by simp [tRow, intRow]) rfl (by simp) ?_
  simp -dsimp [List.range, List.range.loop]
  have h29 := b29 (base := 10) (l := [((0 : Int), (4 : Int)), (0, -3)]) (rs := [[⟨0, 32, 64⟩]]) (a := [16]) (by simp [R]) (by simp) (by simp) (by simp)
  rw [su1] at h29
  refine call_f h29 (by simp [tRow, intRow, pRow, regRow]) rfl (by simp) ?_
  simp -dsimp [List.range, List.range.loop]
  have h36 := fun x y => b36 [⟨0, 32, 64⟩] [((x : Int), (y : Int))] (by simp) (by simp)
  have t1 := h36 (-64) 0
  rw [decide_eq_false (by decide : ¬ TO [⟨0, 32, 64⟩] [(-64, 0)])] at t1
  have t2 := h36 0 1
  rw [decide_eq_true (by decide : TO [⟨0, 32, 64⟩] [(0, 1)])] at t2
  have t3 := h36 64 64
  rw [decide_eq_false (by decide : ¬ TO [⟨0, 32, 64⟩] [(64, 64)])] at t3
  refine call_f t1 (by simp [tRow, pRow]) rfl (by simp) ?_
  simp -dsimp [List.range, List.range.loop]
  refine call_f t2 (by simp [tRow, pRow]) rfl (by simp) ?_
  simp -dsimp [List.range, List.range.loop]
  refine call_f t3 (by simp [tRow, pRow]) rfl (by simp) ?_
  simp -dsimp [List.range, List.range.loop]
  refine call_p (b40 (-1) 1 5) rfl (by simp) ?_
  simp -dsimp [List.range, List.range.loop]
  have r1 := b23 [⟨-1, 1, 5⟩] 1 (by simp)
  rw [decide_eq_false (by decide : ¬ RI [⟨-1, 1, 5⟩] 1)] at r1
  refine call_p r1 rfl (by simp) ?_
  simp -dsimp [List.range, List.range.loop]
  refine call_p (b40 5 5 5) rfl (by simp) ?_
  simp -dsimp [List.range, List.range.loop]
  have r2 := b23 [⟨5, 5, 5⟩] 1 (by simp)
  rw [decide_eq_true (by decide : RI [⟨5, 5, 5⟩] 1)] at r2
  refine call_p r2 rfl (by simp) ?_
  simp -dsimp [List.range, List.range.loop]
  have r3 := b34 [3] [(3, 4)] (by simp) (by simp)
  rw [decide_eq_true (by decide : WI [3] [(3, 4)])] at r3
  refine call_f r3 (by simp [intRow, pRow]) rfl (by simp) ?_
  simp -dsimp [List.range, List.range.loop]
  refine call_p b32n rfl (by simp) ?_
  simp -dsimp
end Go.Abs.A09
namespace Go.Abs.A09
open Go Go.Abs Go.Proofs
set_option maxRecDepth 100000
set_option linter.unusedVariables false
set_option linter.unusedSimpArgs false
attribute [local simp ↓] awp_skip awp_seq awp_cond awp_block awp_exit awp_ret awp_reg awp_draw awp_ghost awp_loop awp_rfun awpR_nil awpR_cons awpX_nil awpX_0 awpX_1 awpX_2 awpI_eq awpI_t awpI_f awpStep_eq
attribute [local simp] condL_true condL_false condL_dec evDel evV evN evS evA initFr Ghost.app Fr.var Fr.blk Fr.ff FF.val Abs.look Fr.app Fr.erase Fr.noSlot AV.noSlot AV.noSlotL Blk.noSlot Fr.spoken AV.fz AV.fzL Blk.fz binV binI shI binS unV fillA FF.parts FF.vals headO intO boundO lenV scalarEq leavesEq AV.aggc AV.cells FF.read FF.rows AV.one PV.one chunk freshB newS pickV retK evRs evRl evR resOf mkTup mkAgg allP cloOf okP_nil okX_p okX okP addN Del.noSlot Del.owners Rnd reify_p normM insM Fr.back Fr.backV Fr.setPs normV insV
attribute [local simp] FF.reify FF.reifyL PV.flat
def andS (x : Int) : Int := ((BitVec.ofInt 64 x &&& BitVec.ofInt 64 65535).toNat : Nat)
theorem andS_bd (x : Int) : 0 ≤ andS x ∧ andS x ≤ 65535 := by
  unfold andS
  refine ⟨by omega, ?_⟩
  have : (BitVec.ofInt 64 x &&& BitVec.ofInt 64 65535).toNat ≤ 65535 := by
    rw [BitVec.toNat_and]
    exact Nat.le_trans Nat.and_le_right (by decide)
  omega
def numS (l : List Int) (k : Nat) : Int := match l[k]? with
  | some x => andS x
  | none => 0
theorem numS_bd (l : List Int) (k : Nat) : 0 ≤ numS l k ∧ numS l k ≤ 65535 := by
  unfold numS
  cases l[k]? with
  | some x => exact andS_bd x
  | none => simp
theorem and_wrap (x : Int) : IntKind.i64.wrap ((BitVec.ofInt IntKind.i64.bits x &&& BitVec.ofInt IntKind.i64.bits 65535).toNat) = andS x := by
  have h := andS_bd x
  exact wr (n := andS x) ⟨by omega, by omega⟩
theorem b43 (l : List Int) (k : Nat) : Best Tryd.prog 43 [.sl 1 (l.map intRow), .int .i64 k] (.p (.int .i64 (numS l k))) := by
  refine best mixed fn43 ok43 (by simp) ?_
  by_cases h : k < l.length
  · obtain ⟨x, ex⟩ : ∃ x, l[k] = x := ⟨_, rfl⟩
    have hx : l[k]? = some x := by rw [List.getElem?_eq_getElem h, ex]
    have e : numS l k = andS x := by unfold numS; rw [hx]
    have ha := and_wrap x
    simp -dsimp [ac43, h, ex, intRow, e]
    exact ha
  · have e : numS l k = 0 := by unfold numS; rw [List.getElem?_eq_none (by omega)]
    simp -dsimp [ac43, h, e]
def peakS (a : Int) : Int := if a / 129 % 7 = 2 then 64 else if a / 129 % 7 = 3 then -64 else if a / 129 % 7 = 4 then 32 else if a / 129 % 7 = 5 then -16 else if a / 129 % 7 = 6 then a % 129 - 64 else 0
def mtS (a b c : Int) : T3 := if 0 < peakS a then ⟨min (b % 65) (peakS a), peakS a, max (c % 65) (peakS a)⟩ else if peakS a < 0 then ⟨min (-(b % 65)) (peakS a), peakS a, max (-(c % 65)) (peakS a)⟩ else ⟨-(b % 65), 0, c % 65⟩
theorem mt_def (a b c : Int) : mtS a b c = if 0 < peakS a then ⟨min (b % 65) (peakS a), peakS a, max (c % 65) (peakS a)⟩ else if peakS a < 0 then ⟨min (-(b % 65)) (peakS a), peakS a, max (-(c % 65)) (peakS a)⟩ else ⟨-(b % 65), 0, c % 65⟩ := rfl
theorem peak_bd {a : Int} (h : 0 ≤ a) : -64 ≤ peakS a ∧ peakS a ≤ 64 := by unfold peakS; omega
theorem mt_ok {a b c : Int} (ha : 0 ≤ a) : TE (mtS a b c) := by
  have h := peak_bd ha
  unfold mtS
  generalize peakS a = p at *
  split
  · unfold TE; dsimp only; omega
  · split
    · unfold TE; dsimp only; omega
    · unfold TE; dsimp only; omega
theorem b55 {a b c : Int} (ha : 0 ≤ a) (ha2 : a ≤ 65535) (hb : 0 ≤ b) (hb2 : b ≤ 65535) (hc : 0 ≤ c) (hc2 : c ≤ 65535) : Best Tryd.prog 55 [.int .i64 a, .int .i64 b, .int .i64 c] (.p (.agg (tRow (mtS a b c)))) := by
  refine best mixed fn55 ok55 (by simp) ?_
  have e1 : a.tmod 129 = a % 129 := Int.tmod_eq_emod_of_nonneg ha
  have e2 : a.tdiv 129 = a / 129 := Int.tdiv_eq_ediv_of_nonneg ha
  have e3 : (a / 129).tmod 7 = a / 129 % 7 := Int.tmod_eq_emod_of_nonneg (by omega)
  have e4 : b.tmod 65 = b % 65 := Int.tmod_eq_emod_of_nonneg hb
  have e5 : c.tmod 65 = c % 65 := Int.tmod_eq_emod_of_nonneg hc
  have w1 : R (a % 129 - 64) := ⟨by omega, by omega⟩
  have w2 : R (a / 129) := ⟨by omega, by omega⟩
  have w3 : R (0 - b % 65) := ⟨by omega, by omega⟩
  have w4 : R (0 - c % 65) := ⟨by omega, by omega⟩
  have z1 : 0 - b % 65 = -(b % 65) := by omega
  have z2 : 0 - c % 65 = -(c % 65) := by omega
  have w3' : IntKind.i64.wrap (-(b % 65)) = -(b % 65) := wr ⟨by omega, by omega⟩
  have w4' : IntKind.i64.wrap (-(c % 65)) = -(c % 65) := wr ⟨by omega, by omega⟩
  have hp : ∀ m : Nat, (m : Int) = a / 129 % 7 → ([[PV.int .i64 0], [PV.int .i64 0], [PV.int .i64 64], [PV.int .i64 (-64)], [PV.int .i64 32], [PV.int .i64 (-16)], [PV.int .i64 (a % 129 - 64)]] : List (List PV))[m]? = some [.int .i64 (peakS a)] := by
    intro m hm
    unfold peakS
    rw [← hm]
    match m with
    | 0 => rfl
    | 1 => rfl
    | 2 => rfl
    | 3 => rfl
    | 4 => rfl
    | 5 => rfl
    | 6 => rfl
    | k + 7 => omega
  obtain ⟨m, hm⟩ := Int.eq_ofNat_of_zero_le (show 0 ≤ a / 129 % 7 by omega)
  have hp := hp m hm.symm
  have hm7 : (m : Int) < 7 := by omega
  have hm7' : m < 7 := by omega
  have hml := mt_def a b c
  obtain ⟨hh, hp'⟩ := List.getElem?_eq_some_iff.1 hp
  generalize peakS a = p at *
  by_cases q1 : 0 < p
  · rw [if_pos q1] at hml
    simp -dsimp [ac55, List.range, List.range.loop, e1, e2, e3, e4, e5, wr w1, wr w2, hm, hm7, hm7', hp, hp', q1, tRow, hml]
  · rw [if_neg q1] at hml
    by_cases q2 : p < 0
    · rw [if_pos q2] at hml
      simp -dsimp [ac55, List.range, List.range.loop, e1, e2, e3, e4, e5, wr w1, wr w2, hm, hm7, hm7', hp, hp', q1, q2, tRow, hml, z1, z2, w3', w4']
    · rw [if_neg q2] at hml
      simp -dsimp [ac55, List.range, List.range.loop, e1, e2, e3, e4, e5, wr w1, wr w2, hm, hm7, hm7', hp, hp', q1, q2, tRow, hml, z1, z2, w3', w4']
end Go.Abs.A09
namespace Go.Abs.A09
open Go Go.Abs Go.Proofs
set_option maxRecDepth 100000
set_option linter.unusedVariables false
set_option linter.unusedSimpArgs false
attribute [local simp ↓] awp_skip awp_seq awp_cond awp_block awp_exit awp_ret awp_reg awp_draw awp_ghost awp_loop awp_rfun awpR_nil awpR_cons awpX_nil awpX_0 awpX_1 awpX_2 awpI_eq awpI_t awpI_f awpStep_eq
attribute [local simp] condL_true condL_false condL_dec evDel evV evN evS evA initFr Ghost.app Fr.var Fr.blk Fr.ff FF.val Abs.look Fr.app Fr.erase Fr.noSlot AV.noSlot AV.noSlotL Blk.noSlot Fr.spoken AV.fz AV.fzL Blk.fz binV binI shI binS unV fillA FF.parts FF.vals headO intO boundO lenV scalarEq leavesEq AV.aggc AV.cells FF.read FF.rows AV.one PV.one chunk freshB newS pickV retK evRs evRl evR resOf mkTup mkAgg allP cloOf okP_nil okX_p okX okP addN Del.noSlot Del.owners Rnd reify_p normM insM Fr.back Fr.backV Fr.setPs normV insV
def loS (l : List Int) (d : Int) : Nat → Int × Int × List (Int × Int)
  | 0 => (d, 0, [])
  | k + 1 => ((loS l d k).1 - 1 - (numS l (3 + k)).tmod 200, max (-64) ((loS l d k).2.1 - (numS l (5 + k)).tmod 65), ((loS l d k).1 - 1 - (numS l (3 + k)).tmod 200, max (-64) ((loS l d k).2.1 - (numS l (5 + k)).tmod 65)) :: (loS l d k).2.2)
def hiS (l : List Int) (d : Int) (m : List (Int × Int)) : Nat → Int × Int × List (Int × Int)
  | 0 => (d, 0, m)
  | k + 1 => ((hiS l d m k).1 + 1 + (numS l (7 + k)).tmod 200, min 64 ((hiS l d m k).2.1 + (numS l (9 + k)).tmod 65), (hiS l d m k).2.2 ++ [((hiS l d m k).1 + 1 + (numS l (7 + k)).tmod 200, min 64 ((hiS l d m k).2.1 + (numS l (9 + k)).tmod 65))])
def dS (l : List Int) : Int := (numS l 0).tmod 41 * 25 - 500
def lowS (l : List Int) : Nat := ((numS l 1).tmod 3).toNat
def highS (l : List Int) : Nat := ((numS l 2).tmod 3).toNat
def madeAx (l : List Int) (nm : List UInt8) : Ax :=
  ⟨nm, (loS l (dS l) (lowS l)).1, dS l, (hiS l (dS l) ((loS l (dS l) (lowS l)).2.2 ++ [(dS l, 0)]) (highS l)).1, (hiS l (dS l) ((loS l (dS l) (lowS l)).2.2 ++ [(dS l, 0)]) (highS l)).2.2⟩
theorem num_tm (l : List Int) (k : Nat) {m : Int} (hm : 1 ≤ m) : 0 ≤ (numS l k).tmod m ∧ (numS l k).tmod m < m := by
  have h := numS_bd l k
  rw [Int.tmod_eq_emod_of_nonneg h.1]
  exact ⟨Int.emod_nonneg _ (by omega), Int.emod_lt_of_pos _ (by omega)⟩
theorem dS_bd (l : List Int) : -500 ≤ dS l ∧ dS l ≤ 500 := by
  have := num_tm l 0 (m := 41) (by decide)
  unfold dS; omega
theorem lowS_bd (l : List Int) : lowS l ≤ 2 ∧ ((lowS l : Nat) : Int) = (numS l 1).tmod 3 := by
  have := num_tm l 1 (m := 3) (by decide)
  unfold lowS; omega
theorem highS_bd (l : List Int) : highS l ≤ 2 ∧ ((highS l : Nat) : Int) = (numS l 2).tmod 3 := by
  have := num_tm l 2 (m := 3) (by decide)
  unfold highS; omega
theorem madeAx_ok (l : List Int) (nm : List UInt8) : AXP (madeAx l nm) := by
  have hd := dS_bd l
  have a3 := num_tm l 3 (m := 200) (by decide)
  have a4 := num_tm l 4 (m := 200) (by decide)
  have a5 := num_tm l 5 (m := 65) (by decide)
  have a6 := num_tm l 6 (m := 65) (by decide)
  have a7 := num_tm l 7 (m := 200) (by decide)
  have a8 := num_tm l 8 (m := 200) (by decide)
  have a9 := num_tm l 9 (m := 65) (by decide)
  have a10 := num_tm l 10 (m := 65) (by decide)
  have hl := (lowS_bd l).1
  have hh := (highS_bd l).1
  unfold madeAx
  generalize dS l = d at *
  generalize lowS l = lo at *
  generalize highS l = hi at *
  rcases (show lo = 0 ∨ lo = 1 ∨ lo = 2 by omega) with rfl | rfl | rfl <;> rcases (show hi = 0 ∨ hi = 1 ∨ hi = 2 by omega) with rfl | rfl | rfl <;>
    (simp only [loS, hiS, Nat.add_zero, Nat.reduceAdd, List.nil_append, List.cons_append]
     generalize (numS l 3).tmod 200 = x3 at *
     generalize (numS l 4).tmod 200 = x4 at *
     generalize (numS l 5).tmod 65 = x5 at *
     generalize (numS l 6).tmod 65 = x6 at *
     generalize (numS l 7).tmod 200 = x7 at *
     generalize (numS l 8).tmod 200 = x8 at *
     generalize (numS l 9).tmod 65 = x9 at *
     generalize (numS l 10).tmod 65 = x10 at *
     constructor <;> simp [UP, CO] <;> omega)
end Go.Abs.A09
namespace Go.Abs.A09
open Go Go.Abs Go.Proofs
set_option maxRecDepth 100000
set_option linter.unusedVariables false
set_option linter.unusedSimpArgs false
attribute [local simp ↓] awp_skip awp_seq awp_cond awp_block awp_exit awp_ret awp_reg awp_draw awp_ghost awp_loop awp_rfun awpR_nil awpR_cons awpX_nil awpX_0 awpX_1 awpX_2 awpI_eq awpI_t awpI_f awpStep_eq
attribute [local simp] condL_true condL_false condL_dec evDel evV evN evS evA initFr Ghost.app Fr.var Fr.blk Fr.ff FF.val Abs.look Fr.app Fr.erase Fr.noSlot AV.noSlot AV.noSlotL Blk.noSlot Fr.spoken AV.fz AV.fzL Blk.fz binV binI shI binS unV fillA FF.parts FF.vals headO intO boundO lenV scalarEq leavesEq AV.aggc AV.cells FF.read FF.rows AV.one PV.one chunk freshB newS pickV retK evRs evRl evR resOf mkTup mkAgg allP cloOf okP_nil okX_p okX okP addN Del.noSlot Del.owners Rnd reify_p normM insM Fr.back Fr.backV Fr.setPs normV insV
attribute [local simp] FF.reify FF.reifyL PV.flat AV.fz AV.fzL Blk.fz AV.rn AV.rnL Blk.rn
theorem onePq (z : List (Int × Int)) : ((z.map pRow).all fun r => r.all PV.one) = true := by
  rw [List.all_eq_true]; intro x hx
  simp only [List.mem_map] at hx
  obtain ⟨t, _, rfl⟩ := hx
  rfl
theorem loS_len (l : List Int) (d : Int) : ∀ k, (loS l d k).2.2.length = k
  | 0 => rfl
  | k + 1 => by simp [loS, loS_len l d k]
theorem hiS_len (l : List Int) (d : Int) (m : List (Int × Int)) : ∀ k, (hiS l d m k).2.2.length = m.length + k
  | 0 => rfl
  | k + 1 => by simp [hiS, hiS_len l d m k]; omega
theorem loS_bd (l : List Int) (d : Int) (hd : -500 ≤ d ∧ d ≤ 500) : ∀ k : Nat, -500 - 200 * (k : Int) ≤ (loS l d k).1 ∧ (loS l d k).1 ≤ 500 ∧ -64 ≤ (loS l d k).2.1 ∧ (loS l d k).2.1 ≤ 0
  | 0 => by simp [loS]; omega
  | k + 1 => by
    have ih := loS_bd l d hd k
    have a := num_tm l (3 + k) (m := 200) (by decide)
    have b := num_tm l (5 + k) (m := 65) (by decide)
    simp only [loS]; omega
theorem hiS_bd (l : List Int) (d : Int) (m : List (Int × Int)) (hd : -500 ≤ d ∧ d ≤ 500) : ∀ k : Nat, (hiS l d m k).1 ≤ 500 + 200 * (k : Int) ∧ -500 ≤ (hiS l d m k).1 ∧ 0 ≤ (hiS l d m k).2.1 ∧ (hiS l d m k).2.1 ≤ 64
  | 0 => by simp [hiS]; omega
  | k + 1 => by
    have ih := hiS_bd l d m hd k
    have a := num_tm l (7 + k) (m := 200) (by decide)
    have b := num_tm l (9 + k) (m := 65) (by decide)
    simp only [hiS]; omega
theorem b13 (l : List Int) (nm : List UInt8) : Best Tryd.prog 13 [.sl 1 (l.map intRow), .str (ba nm)] (.p (.agg (axC (madeAx l nm)))) := by
  refine best mixed xn13 xk13 (by simp) ?_
  have p0 := b43 l 0
  have p1 := b43 l 1
  have p2 := b43 l 2
  have hd := dS_bd l
  have hl := lowS_bd l
  have hh := highS_bd l
  have t0 := num_tm l 0 (m := 41) (by decide)
  have w0 : R ((numS l 0).tmod 41 * 25) := ⟨by omega, by omega⟩
  have w1 : R ((numS l 0).tmod 41 * 25 - 500) := ⟨by omega, by omega⟩
  simp -dsimp [xc13]
  refine call_p p0 (by simp) (by simp) ?_
  simp -dsimp [wr w0, wr w1]
  rw [show (numS l 0).tmod 41 * 25 - 500 = dS l from rfl]
  refine call_p p1 (by simp) (by simp) ?_
  simp -dsimp
  refine call_p p2 (by simp) (by simp) ?_
  simp -dsimp [← hl.2, ← hh.2, xc13b]
  unfold madeAx
  generalize dS l = d at *
  generalize lowS l = lo at *
  generalize highS l = hi at *
  refine loopC lo (fun k => ⟨[(0, .p (.sl 1 (l.map intRow))), (4, .ptr (4, 0) 5 0 0), (5, .p (.int .i64 d)), (6, .ptr (6, 0) 5 0 0), (7, .p (.int .i64 lo)), (8, .p (.int .i64 hi)), (9, .ref (9, 0) 2 0 k), (10, .p (.int .i64 (loS l d k).2.1)), (11, .p (.int .i64 k))], [((4, 0), .box [.p (.str ⟨#[]⟩), .p (.int .i64 0), .p (.int .i64 0), .p (.int .i64 0), .p .nsl]), ((6, 0), .box [.p (.str (ba nm)), .p (.int .i64 (loS l d k).1), .p (.int .i64 d), .p (.int .i64 d), .p .nsl]), ((9, 0), .sl 30 2 ((loS l d k).2.2.map pRow))]⟩) (fun _ => True) (fun k hk _ => ?_) trivial (by simp [loS])
  · by_cases h : k < lo
    · have p3 := b43 l (3 + k)
      rw [show ((3 + k : Nat) : Int) = 3 + (k : Int) by omega] at p3
      have p5 := b43 l (5 + k)
      rw [show ((5 + k : Nat) : Int) = 5 + (k : Int) by omega] at p5
      have hb := loS_bd l d hd k
      have hln := loS_len l d k
      have n3 := num_tm l (3 + k) (m := 200) (by decide)
      have n5 := num_tm l (5 + k) (m := 65) (by decide)
      have hs : loS l d (k + 1) = ((loS l d k).1 - 1 - (numS l (3 + k)).tmod 200, max (-64) ((loS l d k).2.1 - (numS l (5 + k)).tmod 65), ((loS l d k).1 - 1 - (numS l (3 + k)).tmod 200, max (-64) ((loS l d k).2.1 - (numS l (5 + k)).tmod 65)) :: (loS l d k).2.2) := rfl
      rw [hs]
      generalize loS l d k = s at *
      obtain ⟨sa, sy, sl⟩ := s
      dsimp only at *
      have r1 : R (3 + (k : Int)) := ⟨by omega, by omega⟩
      have r2 : R (5 + (k : Int)) := ⟨by omega, by omega⟩
      have r3 : R (sa - 1) := ⟨by omega, by omega⟩
      have r4 : R (sa - 1 - (numS l (3 + k)).tmod 200) := ⟨by omega, by omega⟩
      have r5 : R (sy - (numS l (5 + k)).tmod 65) := ⟨by omega, by omega⟩
      have r6 : R ((k : Int) + 1) := ⟨by omega, by omega⟩
      have m1 : 1 + sl.length ≤ maxLen := by unfold maxLen; omega
      have m2 : (1 + sl.length) * 16 ≤ 140737488355328 := by omega
      have e1 := onePq sl
      have e2 : List.take k (sl.map pRow) = sl.map pRow := List.take_of_length_le (by simp; omega)
      subst hln
      simp -dsimp [xc13c, h, wr r1, wr r2, wr r3]
      refine call_p p3 (by simp) (by simp) ?_
      simp -dsimp [wr r4, wr r2]
      refine call_p p5 (by simp) (by simp) ?_
      simp -dsimp [wr r5, List.range, List.range.loop, e2, m1, m2, ↓e1, wr r6]
      exact ⟨by omega, rfl⟩
    · have : k = lo := by omega
      subst this
      have hb := loS_bd l d hd k
      have hln := loS_len l d k
      generalize loS l d k = s at *
      obtain ⟨sa, sy, sl⟩ := s
      dsimp only at *
      have m1 : sl.length + 1 ≤ maxLen := by unfold maxLen; omega
      have m2 : (sl.length + 1) * 16 ≤ 140737488355328 := by omega
      subst hln
      simp -dsimp [-List.all_eq_true, xc13c, h, xc13d, List.range, List.range.loop, m1, m2, xc13e]
      refine loopC hi (fun k => ⟨[(0, .p (.sl 1 (l.map intRow))), (4, .ptr (4, 0) 5 0 0), (6, .ptr (6, 0) 5 0 0), (8, .p (.int .i64 hi)), (10, .p (.int .i64 (hiS l d (sl ++ [(d, 0)]) k).2.1)), (12, .p (.int .i64 k))], [((4, 0), .box [.p (.str ⟨#[]⟩), .p (.int .i64 0), .p (.int .i64 0), .p (.int .i64 0), .p .nsl]), ((6, 0), .box [.p (.str (ba nm)), .p (.int .i64 sa), .p (.int .i64 d), .p (.int .i64 (hiS l d (sl ++ [(d, 0)]) k).1), .ref (9, 1) 2 0 (hiS l d (sl ++ [(d, 0)]) k).2.2.length]), ((9, 1), .sl 30 2 ((hiS l d (sl ++ [(d, 0)]) k).2.2.map pRow))]⟩) (fun _ => True) (fun k hk _ => ?_) trivial (by simp [hiS, pRow])
      by_cases h : k < hi
      · have p3 := b43 l (7 + k)
        rw [show ((7 + k : Nat) : Int) = 7 + (k : Int) by omega] at p3
        have p5 := b43 l (9 + k)
        rw [show ((9 + k : Nat) : Int) = 9 + (k : Int) by omega] at p5
        have hb := hiS_bd l d (sl ++ [(d, 0)]) hd k
        have hln := hiS_len l d (sl ++ [(d, 0)]) k
        rw [List.length_append, List.length_singleton] at hln
        have n3 := num_tm l (7 + k) (m := 200) (by decide)
        have n5 := num_tm l (9 + k) (m := 65) (by decide)
        have hs : hiS l d (sl ++ [(d, 0)]) (k + 1) = ((hiS l d (sl ++ [(d, 0)]) k).1 + 1 + (numS l (7 + k)).tmod 200, min 64 ((hiS l d (sl ++ [(d, 0)]) k).2.1 + (numS l (9 + k)).tmod 65), (hiS l d (sl ++ [(d, 0)]) k).2.2 ++ [((hiS l d (sl ++ [(d, 0)]) k).1 + 1 + (numS l (7 + k)).tmod 200, min 64 ((hiS l d (sl ++ [(d, 0)]) k).2.1 + (numS l (9 + k)).tmod 65))]) := rfl
        rw [hs]
        generalize hiS l d (sl ++ [(d, 0)]) k = s at *
        obtain ⟨ta, ty, tl⟩ := s
        dsimp only at *
        have r1 : R (7 + (k : Int)) := ⟨by omega, by omega⟩
        have r2 : R (9 + (k : Int)) := ⟨by omega, by omega⟩
        have r3 : R (ta + 1) := ⟨by omega, by omega⟩
        have r4 : R (ta + 1 + (numS l (7 + k)).tmod 200) := ⟨by omega, by omega⟩
        have r5 : R (ty + (numS l (9 + k)).tmod 65) := ⟨by omega, by omega⟩
        have r6 : R ((k : Int) + 1) := ⟨by omega, by omega⟩
        have m1 : tl.length + 1 ≤ maxLen := by unfold maxLen; omega
        have m2 : (tl.length + 1) * 16 ≤ 140737488355328 := by omega
        simp -dsimp [xc13f, h, wr r1, wr r2, wr r3]
        refine call_p p3 (by simp) (by simp) ?_
        simp -dsimp [wr r4, wr r2]
        refine call_p p5 (by simp) (by simp) ?_
        simp -dsimp [wr r5, List.range, List.range.loop, m1, m2, wr r6]
        rfl
      · have : k = hi := by omega
        subst this
        generalize hiS l d (sl ++ [(d, 0)]) k = s at *
        obtain ⟨ta, ty, tl⟩ := s
        have e2 : List.take tl.length (tl.map pRow) = tl.map pRow := List.take_of_length_le (by simp)
        simp -dsimp [xc13f, h, xc13g, e2, axC]
def shS (a : Ax) : Ax := ⟨a.nm.take 20, a.lo, a.df, a.hi, a.m.take 8⟩
theorem b12 (a : Ax) (hn : a.nm.length ≤ 9223372036854775807) (hm : a.m.length ≤ 9223372036854775807) : Best Tryd.prog 12 [.agg (axC a)] (.p (.agg (axC (shS a)))) := by
  refine best mixed fn12 ok12 (by simp) ?_
  obtain ⟨nm, lo, df, hi, m⟩ := a
  dsimp only at hn hm
  have c1 : min (nm.length : Int) 20 = ((min nm.length 20 : Nat) : Int) := by omega
  have c1' : min nm.length 20 ≤ nm.length := by omega
  have c2 : min (m.length : Int) 8 = ((min m.length 8 : Nat) : Int) := by omega
  have c2' : min m.length 8 ≤ m.length := by omega
  have c3 : (m.map pRow).take (min m.length 8) = (m.take 8).map pRow := by
    rw [List.map_take, List.take_eq_take_iff]; simp; omega
  have c4 : (ba nm).extract 0 (min nm.length 20) = ba (nm.take 20) := by
    rw [ba_extract, List.drop_zero]; congr 1
    rw [List.take_eq_take_iff]; omega
  have hl8 : (m.take 8).length ≤ 8 := by simp; omega
  have e3 : (ba (nm.take 20)).size = (nm.take 20).length := ba_size _
  unfold shS
  dsimp only
  generalize m.take 8 = m8 at *
  have c5 : m8.length ≤ maxLen := by unfold maxLen; omega
  have c6 : m8.length * 16 ≤ 140737488355328 := by omega
  have e1 := onePq m8
  have e2 : List.take m8.length (m8.map pRow) = m8.map pRow := List.take_of_length_le (by simp)
  simp -dsimp [-List.all_eq_true, ac12, axC, c1, c1', c2, c2', c3, c4, c5, c6, ↓e1, e2, ba_size, List.range, List.range.loop]
end Go.Abs.A09
namespace Go.Abs.A09
open Go Go.Abs Go.Proofs
set_option maxRecDepth 100000
set_option linter.unusedVariables false
set_option linter.unusedSimpArgs false
attribute [local simp ↓] awp_skip awp_seq awp_cond awp_block awp_exit awp_ret awp_reg awp_draw awp_ghost awp_loop awp_rfun awpR_nil awpR_cons awpX_nil awpX_0 awpX_1 awpX_2 awpI_eq awpI_t awpI_f awpStep_eq
attribute [local simp] condL_true condL_false condL_dec evDel evV evN evS evA initFr Ghost.app Fr.var Fr.blk Fr.ff FF.val Abs.look Fr.app Fr.erase Fr.noSlot AV.noSlot AV.noSlotL Blk.noSlot Fr.spoken AV.fz AV.fzL Blk.fz binV binI shI binS unV fillA FF.parts FF.vals headO intO boundO lenV scalarEq leavesEq AV.aggc AV.cells FF.read FF.rows AV.one PV.one chunk freshB newS pickV retK evRs evRl evR resOf mkTup mkAgg allP cloOf okP_nil okX_p okX okP addN Del.noSlot Del.owners Rnd reify_p normM insM Fr.back Fr.backV Fr.setPs normV insV
attribute [local simp ↓] and_wrap
attribute [local simp] FF.reify FF.reifyL PV.flat AV.fz AV.fzL Blk.fz
set_option maxHeartbeats 4000000 in
theorem b4 (l : List Int) (v0 v1 : Int) (h0 : R v0) (h1 : R v1) : Best Tryd.prog 4 [.sl 1 (l.map intRow), .agg [.int .i64 v0, .int .i64 v1]] (.p (.bool true)) := by
  refine best mixed xn4 xk4 (by simp) ?_
  have p13 := b13 l [120]
  rw [show ba [120] = ⟨#[120]⟩ from rfl] at p13
  have hA := madeAx_ok l [120]
  have hch : chkS (madeAx l [120]) = 0 := chk_ok (show nmB [120] = true by decide) hA
  generalize madeAx l [120] = a at *
  have p16 := fun v => b16 a v (by have := hA.n2; omega)
  have hN := fun v => norm_NX hch v
  have hlen := hA.n2
  have hlen1 := hA.n1
  have hb1 := hA.b1
  have hb2 := hA.b2
  have hb3 := hA.b3
  have hb4 := hA.b4
  have hpt := fun k (h : k < a.m.length) => NX_pt hA h
  have hbd := fun k (h : k < a.m.length) => ax_bd hA h
  have hco := fun k (h : k < a.m.length) => ax_co hA h
  have hln := fun k (h : k + 1 < a.m.length) x => ax_line hA (x := x) h
  have hlb := fun k (h : k + 1 < a.m.length) x => line_bd hA (x := x) h
  have hnl := fun k (h : k + 1 < a.m.length) x => NX_line hA (x := x) h
  have hmo := fun x y => NX_mono hA (x := x) (y := y)
  have hcx := fun x => NX_co hA (x := x)
  have hdf := NX_df hA
  have hcl := fun v => clp_bd hA v
  have hci := fun v => clp_in (a := a) (v := v)
  have hup := fun k (h : k < a.m.length) => ax_get (a := a) h
  simp only [hN] at p16
  have hcm : ∀ x y, x ≤ y → clp a x ≤ clp a y := fun x y h => by unfold clp; omega
  generalize hNX : NX a = nx at *
  generalize hcp : clp a = cp at *
  clear hNX hcp hN hch hA
  obtain ⟨nm, lo, df, hi, m⟩ := a
  simp -dsimp [axC] at p13 p16
  dsimp only at *
  simp -dsimp [xc4]
  refine call_p b11 rfl (by simp) ?_
  simp -dsimp
  refine call_p p13 (by simp) (by simp) ?_
  simp -dsimp
  refine loopC m.length (fun k => ⟨[(3, .ptr (3, 0) 2 0 0), (5, .p (.bool true)), (6, .ptr (6, 0) 5 0 0), (7, .p (.int .i64 k))], [((3, 0), .box [.p (.int .i64 v0), .p (.int .i64 v1)]), ((6, 0), .box [.p (.str (ba nm)), .p (.int .i64 lo), .p (.int .i64 df), .p (.int .i64 hi), .p (.sl 2 (m.map pRow))])]⟩) (fun _ => True) (fun k hk _ => ?_) trivial (by simp)
  by_cases h : k < m.length
  · obtain ⟨x, ex⟩ : ∃ x, m[k] = x := ⟨_, rfl⟩
    have hx := hup k h
    rw [List.getElem?_eq_getElem h, ex] at hx
    have wk : R ((k : Int) + 1) := ⟨by omega, by omega⟩
    have q := hpt k h
    have q2 := hbd k h
    rw [← Option.some.inj hx] at q q2
    have p := p16 x.1
    rw [hci _ q2.1 q2.2, q] at p
    simp -dsimp [xc4a, h, ex, pRow]
    refine call_p p (by simp) (by simp) ?_
    simp -dsimp [h, ex, pRow, wr wk]
  · simp -dsimp [xc4a, h, xc4b, xc4c]
    refine call_p (p16 (min v0 v1)) (by simp) (by simp) ?_
    simp -dsimp
    refine call_p (p16 (max v0 v1)) (by simp) (by simp) ?_
    have hxy := hmo (cp (min v0 v1)) (cp (max v0 v1)) (hcl _).1 (hcm _ _ (by omega)) (hcl _).2
    have cx := hcx _ (hcl (min v0 v1)).1 (hcl (min v0 v1)).2
    have cy := hcx _ (hcl (max v0 v1)).1 (hcl (max v0 v1)).2
    generalize nx (cp (min v0 v1)) = X at *
    generalize nx (cp (max v0 v1)) = Y at *
    have ha := andS_bd v0
    have r1 : R (hi - lo) := ⟨by omega, by omega⟩
    have r2 : R (hi - lo + 1) := ⟨by omega, by omega⟩
    have e0 : hi - lo + 1 ≠ 0 := by omega
    have he : 0 ≤ (andS v0).tmod (hi - lo + 1) ∧ (andS v0).tmod (hi - lo + 1) < hi - lo + 1 := by
      rw [Int.tmod_eq_emod_of_nonneg ha.1]
      exact ⟨Int.emod_nonneg _ e0, Int.emod_lt_of_pos _ (by omega)⟩
    have r3 : R (lo + (andS v0).tmod (hi - lo + 1)) := ⟨by omega, by omega⟩
    have r4 : R (lo + (andS v0).tmod (hi - lo + 1) + 1) := ⟨by omega, by omega⟩
    have hnear : lo ≤ lo + (andS v0).tmod (hi - lo + 1) ∧ lo + (andS v0).tmod (hi - lo + 1) ≤ hi := by omega
    simp -dsimp [xc4d, wr r1, wr r2, wr r3, e0]
    generalize lo + (andS v0).tmod (hi - lo + 1) = near at *
    refine loopC (m.length - 1) (fun k => ⟨[(5, .p (.bool true)), (6, .ptr (6, 0) 5 0 0), (10, .p (.int .i64 X)), (11, .p (.int .i64 Y)), (12, .p (.int .i64 near)), (13, .p (.int .i64 k))], [((6, 0), .box [.p (.str (ba nm)), .p (.int .i64 lo), .p (.int .i64 df), .p (.int .i64 hi), .p (.sl 2 (m.map pRow))])]⟩) (fun _ => True) (fun k hk _ => ?_) trivial (by simp)
    have wk : R ((k : Int) + 1) := ⟨by omega, by omega⟩
    by_cases h : k + 1 < m.length
    · have hk0 : k < m.length := by omega
      have hki : (k : Int) + 1 < m.length := by omega
      have hkn : k < m.length - 1 := by omega
      obtain ⟨x, ex⟩ : ∃ x, m[k] = x := ⟨_, rfl⟩
      obtain ⟨y, ey⟩ : ∃ y, m[k + 1] = y := ⟨_, rfl⟩
      have hx := hup k hk0
      have hy := hup (k + 1) h
      rw [List.getElem?_eq_getElem hk0, ex] at hx
      rw [List.getElem?_eq_getElem h, ey] at hy
      have l1 := hln k h near
      have l2 := hlb k h near
      have l3 := hnl k h near
      rw [← Option.some.inj hx, ← Option.some.inj hy] at l1 l2 l3
      have k0 : (0 : Int) ≤ (k : Int) + 1 := by omega
      have k1 : ((k : Int) + 1).toNat = k + 1 := by omega
      obtain ⟨x1, x2⟩ := x
      obtain ⟨y1, y2⟩ := y
      dsimp only at l1 l2 l3
      simp -dsimp [xc4e, wr wk, hki, h, hk0, ex, ey, pRow, k0, k1]
      by_cases q1 : x1 ≤ near
      rotate_left
      · simp -dsimp [q1, xc4f, hkn, wr wk]
      by_cases q2 : near ≤ y1
      rotate_left
      · simp -dsimp [q1, q2, xc4f, hkn, wr wk]
      have l1 := l1 q1 q2
      have l2 := l2 q1 q2
      have l3 := l3 q1 q2
      have p18 := b18 (x := near) (f0 := x1) (f1 := x2) (t0 := y1) (t1 := y2)
      have lt : (lineS near x1 x2 y1 y2).2 = true := by rw [l1]
      rw [lt] at p18
      have p := p16 near
      rw [hci near hnear.1 hnear.2, l3] at p
      generalize (lineS near x1 x2 y1 y2).1 = n at *
      have z1 : ¬ n < x2 := by omega
      have z2 : ¬ y2 < n := by omega
      simp -dsimp [q1, q2, xc4f, hk0, h, ex, ey, pRow, wr wk, k0, k1, hki]
      refine call_p p18 (by simp) (by simp) ?_
      simp -dsimp [xc4g]
      refine call_p p (by simp) (by simp) ?_
      simp -dsimp [hk0, h, ex, ey, pRow, wr wk, k0, k1, hki, z1, z2, hkn]
    · have hki : ¬ (k : Int) + 1 < m.length := by omega
      have n1 := hmo near (cp (near + 1)) hnear.1 (by have := hcm near (near + 1) (by omega); rw [hci near hnear.1 hnear.2] at this; exact this) (hcl _).2
      have pn := p16 near
      rw [hci near hnear.1 hnear.2] at pn
      have pn1 := p16 (near + 1)
      have pd := p16 df
      rw [hci df hb2 hb3, hdf] at pd
      have c1 := b19' X
      rw [decide_eq_true cx] at c1
      have c2 := b19' Y
      rw [decide_eq_true cy] at c2
      simp -dsimp [xc4e, wr wk, hki, xc4h, hxy]
      refine call_p c1 (by simp) (by simp) ?_
      simp -dsimp
      refine call_p c2 (by simp) (by simp) ?_
      simp -dsimp
      refine call_p pd (by simp) (by simp) ?_
      simp -dsimp
      refine call_p pn (by simp) (by simp) ?_
      simp -dsimp [wr r4]
      refine call_p pn1 (by simp) (by simp) ?_
      simp -dsimp [n1]
end Go.Abs.A09
namespace Go.Abs
open Go
set_option linter.unusedSimpArgs false
set_option linter.unusedVariables false
/-! ### from a datum of a row to values by content -/
/-- What reads as a t is some a: its cells are those that f says. -/
def Rd {α : Type} (P : Program) (w : World) (t : TypeId) (f : α → List PV) (ok : α → Prop) : Prop :=
  ∀ (H : Type) (en : TypeId × Value → H) (base : Nat) (sp : Nat → Bool) (hd : Bool) (fuel : Nat) (cs : List Value) (x : DataW H × List MemPlace), DataW.trod en P w base sp hd fuel t cs = some x → ∃ a, ok a ∧ Ps (full w) (f a) cs
variable {P : Program} {w : World} {t : TypeId}
theorem Ps.one {S : Snap} {p : PV} {v : Value} (h : PRel S p v) : Ps S [p] [v] := by
  refine ⟨rfl, fun j q u e1 e2 => ?_⟩
  match j with
  | 0 => simp at e1 e2; subst e1 e2; exact h
  | j + 1 => simp at e1
theorem Ps.nil {S : Snap} : Ps S [] [] := ⟨rfl, fun j q u e1 e2 => by simp at e1⟩
theorem Ps.append {S : Snap} {ps qs : List PV} {vs us : List Value} (h : Ps S ps vs) (k : Ps S qs us) : Ps S (ps ++ qs) (vs ++ us) := by
  refine ⟨by simp [h.1, k.1], fun j q u e1 e2 => ?_⟩
  by_cases hj : j < ps.length
  · rw [List.getElem?_append_left hj] at e1
    rw [List.getElem?_append_left (by rw [h.1]; exact hj)] at e2
    exact h.2 j q u e1 e2
  · rw [List.getElem?_append_right (by omega)] at e1
    rw [List.getElem?_append_right (by rw [h.1]; omega), h.1] at e2
    exact k.2 _ q u e1 e2
theorem Rd.int {k : IntKind} (ht : P.underlying t = some (.int k)) : Rd P w t (fun n : Int => [.int k n]) fun n => (Lit.int k n).wf = true := by
  intro H en base sp hd fuel cs x h
  cases fuel with
  | zero => simp [DataW.trod] at h
  | succ m =>
    unfold DataW.trod at h
    rw [ht] at h
    split at h <;> simp_all
    obtain ⟨⟨rfl, hw⟩, _⟩ := h
    exact ⟨_, hw, Ps.one (.int _ _)⟩
theorem Rd.str (ht : P.underlying t = some .string) : Rd P w t (fun s : ByteArray => [.str s]) fun s => s.size ≤ maxLen := by
  intro H en base sp hd fuel cs x h
  cases fuel with
  | zero => simp [DataW.trod] at h
  | succ m =>
    unfold DataW.trod at h
    rw [ht] at h
    split at h <;> simp_all
    exact ⟨_, h.1, Ps.one (.str _)⟩
theorem cells_get {base : Nat} {a : Addr} {n : Nat} {cs : List Value} (h : w.cells? base a n = some cs) : cs.length = n ∧ ∀ j v, cs[j]? = some v → w.cell? (a.add j) = some v := by
  unfold World.cells? at h
  split at h
  · obtain ⟨h1, h2⟩ := mapM_some h
    refine ⟨by simpa using h1, fun j v e => ?_⟩
    obtain ⟨i, e1, e2⟩ := h2 j v e
    have hj : j < n := by have := (List.getElem?_eq_some_iff.1 e).1; rw [h1] at this; simpa using this
    rw [List.getElem?_range hj] at e1
    simp at e1; subst e1; exact e2
  · simp at h
theorem Rd.slice {α : Type} {e : TypeId} {sz : Nat} {f : α → List PV} {ok : α → Prop} (ht : P.underlying t = some (.slice e)) (hc : P.cellsOf e = sz) (hr : Rd P w e f ok) (hf : ∀ a, (f a).length = sz) :
    Rd P w t (fun l : List α => [.sl sz (l.map f)]) fun l => (∀ a ∈ l, ok a) ∧ l.length ≤ maxLen := by
  intro H en base sp hd fuel cs x h
  rcases Deep.open_slice ht h with ⟨rfl, _⟩ | ⟨a, len, cap, m, n, D, Pl, rfl, hb, hl, hm, hmm, _, hel⟩
  · exact ⟨[], ⟨by simp, by simp⟩, Ps.one (.sl sz [] none 0 (fun _ _ => undef) (Nat.le_refl _) (by simp) (by simp) (by simp))⟩
  · have hlm : len ≤ m := by rw [hmm]; split <;> omega
    have key : ∀ k, k ≤ len → ∃ l : List α, l.length = k ∧ ∀ i b, l[i]? = some b → ok b ∧ ∃ cs', w.cells? base (a.add (i * sz)) sz = some cs' ∧ Ps (full w) (f b) cs' := by
      intro k
      induction k with
      | zero => intro _; exact ⟨[], rfl, fun i b e => by simp at e⟩
      | succ k ih =>
        intro hk
        obtain ⟨l, h1, h2⟩ := ih (by omega)
        obtain ⟨cs', g1, g2⟩ := hel k (by omega)
        obtain ⟨b, hb1, hb2⟩ := hr _ _ _ _ _ _ _ _ g2
        rw [hc] at g1
        refine ⟨l ++ [b], by simp [h1], fun i c e => ?_⟩
        by_cases hi : i < l.length
        · rw [List.getElem?_append_left hi] at e; exact h2 i c e
        · have : i = l.length := by have := (List.getElem?_eq_some_iff.1 e).1; simp at this; omega
          subst this
          simp at e; subst e
          rw [h1]; exact ⟨hb1, cs', g1, hb2⟩
    obtain ⟨l, hl1, hl2⟩ := key len (Nat.le_refl _)
    refine ⟨l, ⟨fun b hb => ?_, by omega⟩, Ps.one ?_⟩
    · obtain ⟨i, hi⟩ := List.getElem?_of_mem hb; exact (hl2 i b hi).1
    · have cell : ∀ (i : Nat) (row : List PV) (j : Nat) (p : PV), (l.map f)[i]? = some row → row[j]? = some p → ∃ v, w.cell? (a.add (i * sz + j)) = some v ∧ PRel (full w) p v := by
        intro i row j p e1 e2
        rw [List.getElem?_map, Option.map_eq_some_iff] at e1
        obtain ⟨b, e1, rfl⟩ := e1
        obtain ⟨_, cs', g1, g2⟩ := hl2 i b e1
        obtain ⟨k1, k2⟩ := cells_get g1
        have hj : j < cs'.length := by rw [k1, ← hf b]; exact (List.getElem?_eq_some_iff.1 e2).1
        refine ⟨cs'[j], ?_, g2.2 j p _ e2 (List.getElem?_eq_getElem hj)⟩
        rw [← Addr.add_add]
        exact k2 j _ (List.getElem?_eq_getElem hj)
      have hll : (l.map f).length = len := by simp [hl1]
      have := PRel.sl (S := full w) sz (l.map f) (some a) cap (fun i j => (w.cell? (a.add (i * sz + j))).getD undef) (by omega)
        (fun i row e1 => by
          rw [List.getElem?_map, Option.map_eq_some_iff] at e1
          obtain ⟨b, _, rfl⟩ := e1
          exact hf b)
        (fun i row j p e1 e2 => by
          obtain ⟨v, h1, _⟩ := cell i row j p e1 e2
          exact ⟨a, rfl, by simp [full, h1]⟩)
        (fun i row j p e1 e2 => by
          obtain ⟨v, h1, h2⟩ := cell i row j p e1 e2
          simp only [h1, Option.getD_some]; exact h2)
      rwa [hll] at this
/-- A struct: its cells are its fields' cells, one field behind the other. -/
theorem Rd.struct1 {α : Type} {fd : Field} {f : α → List PV} {ok : α → Prop} (ht : P.underlying t = some (.struct #[fd])) (ho : fd.offset = 0) (hs : P.cellsOf fd.type = P.cellsOf t) (hr : Rd P w fd.type f ok) : Rd P w t f ok := by
  intro H en base sp hd fuel cs x h
  obtain ⟨xs, n, _, rfl, hl, hlen, hfl⟩ := DataW.trod_struct ht h
  have h0 := hfl 0 fd rfl
  rw [ho, hs, List.drop_zero, ← hl, List.take_length] at h0
  obtain ⟨y, hy⟩ : ∃ y, xs[0]? = some y := by
    have : 0 < xs.length := by rw [hlen]; simp
    exact ⟨_, List.getElem?_eq_getElem this⟩
  rw [hy] at h0
  exact hr _ _ _ _ _ _ _ _ h0
/-- Several fields: the first one, and the rest read apart. -/
def RdF {α : Type} (P : Program) (w : World) (fs : List Field) (f : α → List PV) (ok : α → Prop) : Prop :=
  ∀ (H : Type) (en : TypeId × Value → H) (base : Nat) (sp : Nat → Bool) (hd : Bool) (n : Nat) (cs : List Value), (∀ fd ∈ fs, ∃ y, DataW.trod en P w base sp hd n fd.type ((cs.drop fd.offset).take (P.cellsOf fd.type)) = some y) → ∃ a, ok a ∧ Ps (full w) (f a) (fs.flatMap fun fd => (cs.drop fd.offset).take (P.cellsOf fd.type))
theorem RdF.nil : RdF P w [] (fun _ : Unit => []) fun _ => True := fun _ _ _ _ _ _ _ _ => ⟨(), trivial, Ps.nil⟩
theorem RdF.cons {α β : Type} {fd : Field} {fs : List Field} {f : α → List PV} {g : β → List PV} {ok : α → Prop} {ok' : β → Prop} (h : Rd P w fd.type f ok) (k : RdF P w fs g ok') : RdF P w (fd :: fs) (fun x : α × β => f x.1 ++ g x.2) fun x => ok x.1 ∧ ok' x.2 := by
  intro H en base sp hd n cs hx
  obtain ⟨y, hy⟩ := hx fd (by simp)
  obtain ⟨a, ha, ha2⟩ := h _ _ _ _ _ _ _ _ hy
  obtain ⟨b, hb, hb2⟩ := k H en base sp hd n cs fun fd' hm => hx fd' (by simp [hm])
  exact ⟨(a, b), ⟨ha, hb⟩, by simpa using ha2.append hb2⟩
/-- Do the fields lie one behind the other, and fill it? -/
def laidOut (P : Program) : List Field → Nat → Nat → Bool
  | [], o, n => o == n
  | fd :: fs, o, n => fd.offset == o && laidOut P fs (o + P.cellsOf fd.type) n
theorem laidOut_cells {cs : List Value} : ∀ {fs : List Field} {o : Nat}, laidOut P fs o cs.length = true → (fs.flatMap fun fd => (cs.drop fd.offset).take (P.cellsOf fd.type)) = cs.drop o
  | [], o, h => by simp [laidOut] at h; subst h; simp
  | fd :: fs, o, h => by
    simp only [laidOut, Bool.and_eq_true, beq_iff_eq] at h
    rw [List.flatMap_cons, laidOut_cells h.2, h.1, ← List.drop_drop, List.take_append_drop]
theorem Rd.struct {α : Type} {fs : List Field} {f : α → List PV} {ok : α → Prop} (ht : P.underlying t = some (.struct fs.toArray)) (ho : laidOut P fs 0 (P.cellsOf t) = true) (hr : RdF P w fs f ok) : Rd P w t f ok := by
  intro H en base sp hd fuel cs x h
  obtain ⟨xs, n, _, rfl, hl, hlen, hfl⟩ := DataW.trod_struct ht h
  obtain ⟨a, ha, ha2⟩ := hr H en base sp hd n cs (fun fd hm => by
    obtain ⟨i, hi⟩ := List.getElem?_of_mem hm
    have := hfl i fd (by simpa using hi)
    have hlt : i < xs.length := by rw [hlen]; simpa using (List.getElem?_eq_some_iff.1 hi).1
    rw [this, List.getElem?_eq_getElem hlt]
    exact ⟨_, rfl⟩)
  rw [← hl] at ho
  rw [laidOut_cells ho, List.drop_zero] at ha2
  exact ⟨a, ha, ha2⟩
/-- An array of three. -/
theorem Rd.arr3 {α : Type} {e : TypeId} {sz : Nat} {f : α → List PV} {ok : α → Prop} (ht : P.underlying t = some (.array 3 e)) (hc : P.cellsOf e = sz) (hs : P.cellsOf t = 3 * sz) (hr : Rd P w e f ok) : Rd P w t (fun x : α × α × α => f x.1 ++ (f x.2.1 ++ f x.2.2)) fun x => ok x.1 ∧ ok x.2.1 ∧ ok x.2.2 := by
  intro H en base sp hd fuel cs x h
  obtain ⟨xs, m, _, rfl, hl, hlen, hfl⟩ := DataW.trod_array ht h
  have get : ∀ i, i < 3 → ∃ a, ok a ∧ Ps (full w) (f a) ((cs.drop (i * sz)).take sz) := fun i hi => by
    have h0 := hfl i hi
    rw [hc, List.getElem?_eq_getElem (by omega)] at h0
    exact hr _ _ _ _ _ _ _ _ h0
  obtain ⟨a, ha, ha2⟩ := get 0 (by omega)
  obtain ⟨b, hb, hb2⟩ := get 1 (by omega)
  obtain ⟨c, hcc, hc2⟩ := get 2 (by omega)
  refine ⟨(a, b, c), ⟨ha, hb, hcc⟩, ?_⟩
  have := ha2.append (hb2.append hc2)
  have e : (cs.drop (0 * sz)).take sz ++ ((cs.drop (1 * sz)).take sz ++ (cs.drop (2 * sz)).take sz) = cs := by
    apply List.ext_getElem?
    intro i
    simp only [Nat.zero_mul, List.drop_zero, Nat.one_mul]
    have l0 : (cs.take sz).length = sz := by simp; omega
    have l1 : ((cs.drop sz).take sz).length = sz := by simp; omega
    by_cases h1 : i < sz
    · rw [List.getElem?_append_left (by omega), List.getElem?_take, if_pos h1]
    · rw [List.getElem?_append_right (by omega), l0]
      by_cases h2 : i - sz < sz
      · rw [List.getElem?_append_left (by omega), List.getElem?_take, if_pos h2, List.getElem?_drop]; congr 1; omega
      · rw [List.getElem?_append_right (by omega), l1, List.getElem?_take, List.getElem?_drop]
        by_cases h3 : i - sz - sz < sz
        · rw [if_pos h3]; congr 1; omega
        · rw [if_neg h3, List.getElem?_eq_none (by omega)]
  rwa [e] at this
/-! ### a call's arguments -/
open Go.WideShapes in
theorem Rd.argS {α : Type} {e : TypeId} {f : α → PV} {ok : α → Prop} {H : Type} {en : TypeId × Value → H} {base b0 : Nat} {sp : Nat → Bool} {hd : Bool} {r : Reach} {v : Value} {d : DataW H} {p : List MemPlace} (ht : P.underlying t = some (.slice e)) (h : Rd P w t (fun a => [f a]) ok) (ho : Value.okWide P w r b0 t v) (hv : DataW.Trod en P w base sp hd t v d p) : ∃ a, ok a ∧ PRel (full w) (f a) v := by
  obtain ⟨a, len, cap, rfl⟩ := okWide_slice ht ho
  obtain ⟨m, hm⟩ := hv
  obtain ⟨x, h1, h2⟩ := h _ _ _ _ _ _ _ _ hm
  exact ⟨x, h1, h2.2 0 _ _ rfl rfl⟩
open Go.WideShapes in
theorem Rd.argI {α : Type} {k : IntKind} {f : α → PV} {ok : α → Prop} {H : Type} {en : TypeId × Value → H} {base b0 : Nat} {sp : Nat → Bool} {hd : Bool} {r : Reach} {v : Value} {d : DataW H} {p : List MemPlace} (ht : P.underlying t = some (.int k)) (h : Rd P w t (fun a => [f a]) ok) (ho : Value.okWide P w r b0 t v) (hv : DataW.Trod en P w base sp hd t v d p) : ∃ a, ok a ∧ PRel (full w) (f a) v := by
  obtain ⟨n, rfl⟩ := okWide_int ht ho
  obtain ⟨m, hm⟩ := hv
  obtain ⟨x, h1, h2⟩ := h _ _ _ _ _ _ _ _ hm
  exact ⟨x, h1, h2.2 0 _ _ rfl rfl⟩
theorem agg_of {S : Snap} {ps : List PV} {cs : Array Value} (h : Ps S ps cs.toList) : PRel S (.agg ps) (.agg cs) := by
  have := PRel.agg (S := S) ps cs.toList h.1 h.2
  simpa using this
open Go.WideShapes in
theorem Rd.argT {α : Type} {fs : Array Field} {f : α → List PV} {ok : α → Prop} {H : Type} {en : TypeId × Value → H} {base b0 : Nat} {sp : Nat → Bool} {hd : Bool} {r : Reach} {v : Value} {d : DataW H} {p : List MemPlace} (ht : P.underlying t = some (.struct fs)) (h : Rd P w t f ok) (ho : Value.okWide P w r b0 t v) (hv : DataW.Trod en P w base sp hd t v d p) : ∃ a, ok a ∧ PRel (full w) (.agg (f a)) v := by
  obtain ⟨cs, rfl, _⟩ := okWide_struct ht ho
  obtain ⟨m, hm⟩ := hv
  obtain ⟨x, h1, h2⟩ := h _ _ _ _ _ _ _ _ hm
  exact ⟨x, h1, agg_of h2⟩
theorem Rd.argA {α : Type} {n : Nat} {e : TypeId} {f : α → List PV} {ok : α → Prop} {H : Type} {en : TypeId × Value → H} {base b0 : Nat} {sp : Nat → Bool} {hd : Bool} {r : Reach} {v : Value} {d : DataW H} {p : List MemPlace} (ht : P.underlying t = some (.array n e)) (h : Rd P w t f ok) (ho : Value.okWide P w r b0 t v) (hv : DataW.Trod en P w base sp hd t v d p) : ∃ a, ok a ∧ PRel (full w) (.agg (f a)) v := by
  unfold Value.okWide at ho
  rw [ht] at ho
  obtain ⟨cs, rfl, _⟩ := ho
  obtain ⟨m, hm⟩ := hv
  obtain ⟨x, h1, h2⟩ := h _ _ _ _ _ _ _ _ hm
  exact ⟨x, h1, agg_of h2⟩
theorem Ps.cons {S : Snap} {p : PV} {v : Value} {ps : List PV} {vs : List Value} (h : PRel S p v) (k : Ps S ps vs) : Ps S (p :: ps) (v :: vs) := (Ps.one h).append k
/-- An array of two. -/
theorem Rd.arr2 {α : Type} {e : TypeId} {sz : Nat} {f : α → List PV} {ok : α → Prop} (ht : P.underlying t = some (.array 2 e)) (hc : P.cellsOf e = sz) (hs : P.cellsOf t = 2 * sz) (hr : Rd P w e f ok) : Rd P w t (fun x : α × α => f x.1 ++ f x.2) fun x => ok x.1 ∧ ok x.2 := by
  intro H en base sp hd fuel cs x h
  obtain ⟨xs, m, _, rfl, hl, hlen, hfl⟩ := DataW.trod_array ht h
  have get : ∀ i, i < 2 → ∃ a, ok a ∧ Ps (full w) (f a) ((cs.drop (i * sz)).take sz) := fun i hi => by
    have h0 := hfl i hi
    rw [hc, List.getElem?_eq_getElem (by omega)] at h0
    exact hr _ _ _ _ _ _ _ _ h0
  obtain ⟨a, ha, ha2⟩ := get 0 (by omega)
  obtain ⟨b, hb, hb2⟩ := get 1 (by omega)
  refine ⟨(a, b), ⟨ha, hb⟩, ?_⟩
  have := ha2.append hb2
  have e : (cs.drop (0 * sz)).take sz ++ (cs.drop (1 * sz)).take sz = cs := by
    apply List.ext_getElem?
    intro i
    simp only [Nat.zero_mul, List.drop_zero, Nat.one_mul]
    have l0 : (cs.take sz).length = sz := by simp; omega
    by_cases h1 : i < sz
    · rw [List.getElem?_append_left (by omega), List.getElem?_take, if_pos h1]
    · rw [List.getElem?_append_right (by omega), l0]
      by_cases h2 : i - sz < sz
      · rw [List.getElem?_take, if_pos h2, List.getElem?_drop]; congr 1; omega
      · rw [List.getElem?_take, if_neg h2, List.getElem?_eq_none (by omega)]
  rwa [e] at this
end Go.Abs
namespace Go.Proofs.YtnonjaonklngpaaDoor
open Go Go.Abs Go.ChangeShapes Go.WideShapes Go.RowKit Go.Proofs
set_option maxRecDepth 100000
set_option linter.unusedVariables false

theorem own : ownKnob Tryd.prog.godebug = none := by kernel_rfl
theorem outB : laidOutB Tryd.prog = true := by kernel_rfl

/-- THE WITNESS's WORLD: the settled world, the two variables holding what their text lays. -/
noncomputable def laidWorld (os : Os) : World :=
  let w0 := World.holding Tryd.prog os ⟨#[], #[], []⟩
  let put (h : Array Obj) (g : Nat) (cs : Array Value) : Array Obj := h.modify g fun
    | .cells _ t frozen => .cells cs t frozen
    | o => o
  let h1 := put w0.heap 1 (Lib.firstTab.map fun z => Value.int .u8 z).toArray
  let h2 := put h1 2 ((List.range 16).flatMap fun i => [Value.int .u8 (Lib.accLo i), Value.int .u8 (Lib.accHi i)]).toArray
  { w0 with heap := h2 }
def laidL : List (String × DataW Unit) := [("unicode/utf8.acceptRanges", Rows.laid_unicode_utf8_acceptRanges), ("unicode/utf8.first", Rows.laid_unicode_utf8_first)]
theorem laid_met (os : Os) (args : Array Value) : laidMet Tryd.prog laidL ((laidWorld os).forCall (fun _ _ => 0) ⟨#[], args, []⟩).memory :=
  (LaidIn.of_run (l := laidL) [1, 2] 8 (by kernel_rfl) (by kernel_rfl) (by kernel_rfl) (by kernel_rfl)).met
theorem laid_metH (os : Os) (args : Array Value) : laidMetH Tryd.prog laidL ((laidWorld os).forCall (fun _ _ => 0) ⟨#[], args, []⟩).memory := by
  have e : (laidL.filter fun x => x.2.handleName?.isSome) = [] := by kernel_rfl
  unfold laidMetH
  rw [e]
  exact laid_met os args

/-- The arguments of a law that returns true: they read behind the call as they did. -/
theorem args_stay {H : Type} {enc : TypeId × Value → H} {W W' : World} (hb : Below W.heap.size W W') : ∀ {ts : List TypeId} {vs : List Value} {ds : List (DataW H)} {ps : List MemPlace},
    (∀ t ∈ ts, Tryd.prog.readableRec t = true ∧ t < Tryd.prog.types.size) → DataW.TrodAll enc Tryd.prog W 0 (fun _ => true) true ts vs ds ps → (∀ x ∈ ps, x.block < W.heap.size) → DataW.TrodAll enc Tryd.prog W' 0 (fun b => decide (b < W.heap.size)) true ts vs ds ps
  | [], vs, ds, ps, _, h, _ => by
    obtain ⟨rfl, rfl, rfl⟩ := trodAll_nil h
    exact trodAll_mk0
  | t :: ts, vs, ds, ps, ht, h, hlt => by
    obtain ⟨v, vs', d, ds', p, q, rfl, rfl, rfl, h1, h2⟩ := trodAll_cons h
    refine trodAll_cons_mk ?_ ?_
    · exact Below.trod outB (ht t (by simp)).1 (ht t (by simp)).2 h1 hb fun x hx => hlt x (by simp [hx])
    · exact args_stay hb (fun t' h' => ht t' (by simp [h'])) h2 fun x hx => hlt x (by simp [hx])
theorem keep_below {W W' : World} (h : Keep W W') : Below W.heap.size W W' := ⟨h.os, h.tape, h.output, h.size, h.heap⟩

/-- The step of a law's row: whatever reads as its parameters, the call returns true. -/
theorem law_step {H : Type} {enc : TypeId × Value → H} {fn : Func} {spec : ChangeSpec} {W : World} {args : Array Value} {ds gs : List (DataW H)} {before : List MemPlace} {f : FuncId} {ps : List PV}
    (hvars : spec.vars = []) (hfn : fn.resultTypes = #[4]) (hW : DataW.Whole enc Tryd.prog fn.params.toList spec.vars false W args.toList ds gs before)
    (hspec : spec.fn H (ds ++ []) = { results := [.lit (.bool true)], args := ds })
    (hread : ∀ t ∈ fn.params.toList, Tryd.prog.readableRec t = true ∧ t < Tryd.prog.types.size)
    (hb : Best Tryd.prog f ps (.p (.bool true))) (hps : Ps (full W) ps args.toList) :
    Calls Tryd.prog f args W fun e W' => ∃ v, e = .returned v ∧ spec.post enc Tryd.prog fn false true false false W args v W' := by
  have hc := hb.2 (full W) W args.toList (fun a v h => h) hps
  rw [Array.toArray_toList] at hc
  refine hc.mono ?_
  rintro e W' ⟨x, S', rfl, hk, _, _, _, hres⟩
  have hx : x = .bool true := by
    cases hres; rfl
  subst hx
  have hW' := hW
  obtain ⟨p, q, hA, hV, rfl, _, _⟩ := hW
  rw [hvars] at hV
  obtain ⟨rfl, rfl⟩ := trodVars_none hV
  have hbel := keep_below hk
  refine ⟨_, rfl, ds, [], _, [], p, [], hW', ?_, ?_, ?_, hbel.frame _, fun h => by cases h⟩
  · rw [hspec, hfn]
    exact trodAll_mk1 (shut_bool Tryd.underlying4 true)
  · rw [hspec]
    exact args_stay hbel hread hA fun y hy => hW'.lt y (by simp [hy])
  · rw [hspec, hvars]; rfl
end Go.Proofs.YtnonjaonklngpaaDoor
namespace Go.Abs.A09
open Go Go.Abs Go.Proofs
set_option maxRecDepth 100000
set_option linter.unusedVariables false
set_option linter.unusedSimpArgs false
attribute [local simp ↓] awp_skip awp_seq awp_cond awp_block awp_exit awp_ret awp_reg awp_draw awp_ghost awp_loop awp_rfun awpR_nil awpR_cons awpX_nil awpX_0 awpX_1 awpX_2 awpI_eq awpI_t awpI_f awpStep_eq
attribute [local simp] condL_true condL_false condL_dec evDel evV evN evS evA initFr Ghost.app Fr.var Fr.blk Fr.ff FF.val Abs.look Fr.app Fr.erase Fr.noSlot AV.noSlot AV.noSlotL Blk.noSlot Fr.spoken AV.fz AV.fzL Blk.fz binV binI shI binS unV fillA FF.parts FF.vals headO intO boundO lenV scalarEq leavesEq AV.aggc AV.cells FF.read FF.rows AV.one PV.one chunk freshB newS pickV retK evRs evRl evR resOf mkTup mkAgg allP cloOf okP_nil okX_p okX okP addN Del.noSlot Del.owners Rnd reify_p normM insM Fr.back Fr.backV Fr.setPs normV insV
attribute [local simp] FF.reify FF.reifyL PV.flat
def atS (l : List Int) (k : Nat) : Int := numS l k % 129 - 64
def madeAt (l : List Int) (n : Nat) : List Int := (List.range n).map (atS l)
def partAt (l : List Int) (n k : Nat) : List Int := (List.range n).map fun i => if i < k then atS l i else 0
theorem partAt_set {l : List Int} {n k : Nat} (h : k < n) : (partAt l n k).set k (atS l k) = partAt l n (k + 1) := by
  apply List.ext_getElem?
  intro i
  rw [List.getElem?_set]
  by_cases hi : k = i
  · subst hi; simp [partAt, h]
  · rw [if_neg hi]
    by_cases hn : i < n
    · simp only [partAt, List.getElem?_map, List.getElem?_range hn, Option.map_some]
      congr 1
      by_cases h1 : i < k
      · rw [if_pos h1, if_pos (by omega)]
      · rw [if_neg h1, if_neg (by omega)]
    · rw [List.getElem?_eq_none (by simp [partAt]; omega), List.getElem?_eq_none (by simp [partAt]; omega)]
theorem partAt_len {l : List Int} {n k : Nat} : (partAt l n k).length = n := by simp [partAt]
theorem atS_bd (l : List Int) (k : Nat) : -64 ≤ atS l k ∧ atS l k ≤ 64 := by unfold atS; omega
theorem b22 (l : List Int) (n : Nat) (hn : n < 1000000) : Best Tryd.prog 22 [.sl 1 (l.map intRow), .int .i64 n] (.p (.sl 1 ((madeAt l n).map intRow))) := by
  refine best mixed fn22 ok22 (by simp) ?_
  have c1 : (8 : Int) * n ≤ 281474976710656 := by omega
  have c2 : (n : Int) ≤ 9223372036854775807 := by omega
  have c3 : List.replicate n [PV.int .i64 0] = (partAt l n 0).map intRow := by
    simp [partAt, intRow, List.map_const', Function.comp_def]
  have c4 : (n : Int) * 8 ≤ 281474976710656 := by omega
  simp -dsimp [ac22, c1, c2, c3, c4]
  refine loopC n (fun k => ⟨[(0, .p (.sl 1 (l.map intRow))), (1, .p (.int .i64 n)), (5, .ref (8, 0) 1 0 n), (6, .p (.int .i64 k))], [((8, 0), .sl 3 1 ((partAt l n k).map intRow))]⟩) (fun _ => True) (fun k hk _ => ?_) trivial (by simp)
  by_cases h : k < n
  · have w : R ((k : Int) + 1) := ⟨by omega, by omega⟩
    have hb := numS_bd l k
    have e1 : (numS l k).tmod 129 = numS l k % 129 := Int.tmod_eq_emod_of_nonneg hb.1
    have w1 : R (numS l k % 129 - 64) := ⟨by omega, by omega⟩
    have ea : numS l k % 129 - 64 = atS l k := rfl
    have e2 : ∀ p : Int, (partAt l n k)[k]? = some ((partAt l n k)[k]'(by rw [partAt_len]; exact h)) := fun _ => List.getElem?_eq_getElem _
    have hset : ((partAt l n k).map intRow).set k (intRow (atS l k)) = (partAt l n (k + 1)).map intRow := by
      rw [← List.map_set, partAt_set h]
    simp -dsimp [h]
    refine call_p (b43 l k) rfl (by simp) ?_
    have hl : k < (partAt l n k).length := by rw [partAt_len]; exact h
    have ht : ∀ x, (intRow x).tail = [] := fun _ => rfl
    have w5 : R (atS l k) := by rw [← ea]; exact w1
    simp -dsimp [e1, wr w5, ea, h, hl, partAt_len, wr w, ht]
    exact hset
  · have : k = n := by omega
    subst this
    have : partAt l k k = madeAt l k := by
      unfold partAt madeAt
      apply List.map_congr_left
      intro i hi
      rw [if_pos (by simpa using hi)]
    have hlen : (madeAt l k).length = k := by simp [madeAt]
    simp -dsimp [this, hlen]
    exact List.take_of_length_le (by simp [hlen])

/-- A contract whose value is said less sharply. -/
theorem Best.res {P : Program} {f : FuncId} {ps : List PV} {v v' : PV} (h : ∀ S x, PRel S v x → PRel S v' x) (b : Best P f ps (.p v)) : Best P f ps (.p v') :=
  ⟨b.1, fun S w xs hS hx => (b.2 S w xs hS hx).mono fun e w' ⟨x, S', h1, h2, h3, h4, h5, h6⟩ => ⟨x, S', h1, h2, h3, h4, h5, h S' x h6⟩⟩
theorem agg_nsl {S : Snap} {x : Value} (n : Nat) (h : PRel S (.agg [.nsl]) x) : PRel S (.agg [.sl n []]) x := by
  cases h with
  | agg cells vs hl hh =>
    match vs, hl with
    | [v], _ =>
      refine .agg _ [v] rfl fun j p u e1 e2 => ?_
      match j with
      | 0 => simp at e1 e2; subst e1 e2; exact (hh 0 _ _ rfl rfl).nsl_sl n
      | j + 1 => simp at e1
def regT (l : List Int) (k : Nat) : T3 := mtS (numS l (3 * k)) (numS l (3 * k + 1)) (numS l (3 * k + 2))
def madeReg (l : List Int) (n : Nat) : List T3 := (List.range n).map (regT l)
theorem madeReg_succ (l : List Int) (n : Nat) : madeReg l (n + 1) = madeReg l n ++ [regT l n] := by simp [madeReg, List.range_succ]
theorem madeReg_ok (l : List Int) (n : Nat) : ∀ t ∈ madeReg l n, TE t := by
  intro t ht
  simp only [madeReg, List.mem_map] at ht
  obtain ⟨k, _, rfl⟩ := ht
  exact mt_ok (numS_bd l _).1
theorem madeReg_len (l : List Int) (n : Nat) : (madeReg l n).length = n := by simp [madeReg]
theorem b20 (r : List T3) : Best Tryd.prog 20 [.agg [.sl 3 (r.map tRow)]] (.p (.agg [.sl 3 ((r.take 5).map tRow)])) := by
  refine best mixed fn20 ok20 (by simp) ?_
  have c1 : min (r.length : Int) 5 = ((min r.length 5 : Nat) : Int) := by omega
  have c2 : ((min r.length 5 : Nat) : Int) ≤ r.length := by omega
  have c2' : min r.length 5 ≤ r.length := by omega
  have c3 : (r.map tRow).take (min r.length 5) = (r.take 5).map tRow := by
    rw [List.map_take, List.take_eq_take_iff]; simp; omega
  have c4 : ((r.take 5).map tRow).length ≤ 5 := by simp; omega
  have c5 : ((r.take 5).map tRow).length ≤ maxLen := by unfold maxLen; omega
  have c6 : (((r.take 5).map tRow).all fun r => r.all PV.one) = true := by
    rw [List.all_eq_true]; intro x hx
    simp only [List.mem_map] at hx
    obtain ⟨t, _, rfl⟩ := hx
    rfl
  generalize (r.take 5).map tRow = z at *
  have c7 : z.length * 24 ≤ 140737488355328 := by omega
  simp -dsimp [ac20, List.range, List.range.loop, c1, c2, c2', c3, c5, c7, ↓c6]
end Go.Abs.A09
namespace Go.Abs.A09
open Go Go.Abs Go.Proofs
set_option maxRecDepth 100000
set_option linter.unusedVariables false
set_option linter.unusedSimpArgs false
attribute [local simp ↓] awp_skip awp_seq awp_cond awp_block awp_exit awp_ret awp_reg awp_draw awp_ghost awp_loop awp_rfun awpR_nil awpR_cons awpX_nil awpX_0 awpX_1 awpX_2 awpI_eq awpI_t awpI_f awpStep_eq
attribute [local simp] condL_true condL_false condL_dec evDel evV evN evS evA initFr Ghost.app Fr.var Fr.blk Fr.ff FF.val Abs.look Fr.app Fr.erase Fr.noSlot AV.noSlot AV.noSlotL Blk.noSlot Fr.spoken AV.fz AV.fzL Blk.fz binV binI shI binS unV fillA FF.parts FF.vals headO intO boundO lenV scalarEq leavesEq AV.aggc AV.cells FF.read FF.rows AV.one PV.one chunk freshB newS pickV retK evRs evRl evR resOf mkTup mkAgg allP cloOf okP_nil okX_p okX okP addN Del.noSlot Del.owners Rnd reify_p normM insM Fr.back Fr.backV Fr.setPs normV insV
attribute [local simp] FF.reify FF.reifyL PV.flat
theorem oneT (z : List T3) : ((z.map tRow).all fun r => r.all PV.one) = true := by
  rw [List.all_eq_true]; intro x hx
  simp only [List.mem_map] at hx
  obtain ⟨t, _, rfl⟩ := hx
  rfl
theorem one1 (x : T3) : ([tRow x].all fun r => r.all PV.one) = true := oneT [x]
/-- The region, so far: its list in the box, and the block that it owns. -/
def regV : Nat → AV
  | 0 => .p .nsl
  | k + 1 => .ref (31, k) 3 0 (k + 1)
def regM (l : List Int) : Nat → List (Slot × Blk)
  | 0 => []
  | k + 1 => [((31, k), .sl 71 3 ((madeReg l (k + 1)).map tRow))]
theorem wl0 : IntKind.i64.wrap 0 = 0 := wr ⟨by omega, by omega⟩
theorem wl1 : IntKind.i64.wrap 1 = 1 := wr ⟨by omega, by omega⟩
theorem wl2 : IntKind.i64.wrap 2 = 2 := wr ⟨by omega, by omega⟩
theorem mtR (x : T3) : tRow x = [.int .i64 x.f, .int .i64 x.p, .int .i64 x.t] := rfl
theorem b21' (l : List Int) (n : Nat) (hn : n < 1000) : awp Tryd.prog ac21 (retK [.cell 4 true 1] (.p (.agg [if n = 0 then .nsl else .sl 3 ((madeReg l n).map tRow)]))) (initFr [.sl 1 (l.map intRow), .int .i64 n]) := by
  simp -dsimp [ac21]
  refine loopC n (fun k => ⟨[(0, .p (.sl 1 (l.map intRow))), (1, .p (.int .i64 n)), (4, .ptr (4, 0) 1 0 0), (5, .ptr (5, 0) 1 0 0), (6, .p (.int .i64 k))], ((4, 0), .box [.p .nsl]) :: ((5, 0), .box [regV k]) :: regM l k⟩) (fun _ => True) (fun k hk _ => ?_) trivial (by simp [regV, regM])
  by_cases h : k < n
  · have w : R ((k : Int) + 1) := ⟨by omega, by omega⟩
    have h1 := b43 l (3 * k)
    rw [show ((3 * k : Nat) : Int) = 3 * (k : Int) by omega] at h1
    have h2 := b43 l (3 * k + 1)
    rw [show ((3 * k + 1 : Nat) : Int) = 3 * (k : Int) + 1 by omega] at h2
    have h3 := b43 l (3 * k + 2)
    rw [show ((3 * k + 2 : Nat) : Int) = 3 * (k : Int) + 2 by omega] at h3
    have n1 := numS_bd l (3 * k)
    have n2 := numS_bd l (3 * k + 1)
    have n3 := numS_bd l (3 * k + 2)
    have h4 := b55 n1.1 n1.2 n2.1 n2.2 n3.1 n3.2
    rw [show mtS (numS l (3 * k)) (numS l (3 * k + 1)) (numS l (3 * k + 2)) = regT l k from rfl] at h4
    have w1 : R (3 * (k : Int)) := ⟨by omega, by omega⟩
    have w2 : R (3 * (k : Int) + 1) := ⟨by omega, by omega⟩
    have w3 : R (3 * (k : Int) + 2) := ⟨by omega, by omega⟩
    have hs := madeReg_succ l k
    have hl := madeReg_len l k
    have o1 := one1 (regT l k)
    generalize numS l (3 * k) = y1 at *
    generalize numS l (3 * k + 1) = y2 at *
    generalize numS l (3 * k + 2) = y3 at *
    generalize regT l k = x at *
    obtain ⟨x1, x2, x3⟩ := x
    cases k with
    | zero =>
      have hs' : madeReg l 1 = [⟨x1, x2, x3⟩] := by simpa [madeReg] using hs
      simp -dsimp [regV, regM, h, wl0, wl1, wl2]
      refine call_p h1 (by simp) (by simp) ?_
      simp -dsimp [wl0, wl1, wl2]
      refine call_p h2 (by simp [wl0, wl1, wl2]) (by simp) ?_
      simp -dsimp [wl0, wl1, wl2]
      refine call_p h3 (by simp [wl0, wl1, wl2]) (by simp) ?_
      simp -dsimp [wl0, wl1, wl2]
      refine call_p h4 (by simp) (by simp) ?_
      simp -dsimp [wl0, wl1, wl2, mtR, List.range, List.range.loop, maxLen, hs', h]
      exact ⟨rfl, by simp [regM, hs', mtR]⟩
    | succ k =>
      simp only [Int.natCast_add, Int.natCast_one] at w w1 w2 w3 h1 h2 h3
      have hl2 : ((madeReg l (k + 1)).map tRow).length = k + 1 := by simp [hl]
      have hmax : k + 1 + 1 ≤ maxLen := by unfold maxLen; omega
      have hby : (k + 1 + 1) * 24 ≤ 140737488355328 := by omega
      have hi : (k : Int) + 1 < n := by omega
      simp -dsimp [regV, regM, h, hi, wr w1]
      refine call_p h1 (by simp) (by simp) ?_
      simp -dsimp [wr w1, wr w2]
      refine call_p h2 (by simp) (by simp) ?_
      simp -dsimp [wr w1, wr w3]
      refine call_p h3 (by simp) (by simp) ?_
      simp -dsimp
      refine call_p h4 (by simp) (by simp) ?_
      simp -dsimp [mtR, List.range, List.range.loop, hl2, hmax, hby, hs, h]
      exact ⟨wr w, rfl, by simp only [regM, hs, List.map_append]; rfl⟩
  · have : k = n := by omega
    subst this
    have hl := madeReg_len l k
    cases k with
    | zero => simp -dsimp [regV, regM]
    | succ k =>
      have ht : List.take (k + 1) ((madeReg l (k + 1)).map tRow) = (madeReg l (k + 1)).map tRow := List.take_of_length_le (by simp [hl])
      have hi : ¬ (k : Int) + 1 < (k : Int) + 1 := by omega
      simp -dsimp [regV, regM, hi, hl, ht]
theorem b21 (l : List Int) (n : Nat) (hn : n < 1000) : Best Tryd.prog 21 [.sl 1 (l.map intRow), .int .i64 n] (.p (.agg [.sl 3 ((madeReg l n).map tRow)])) := by
  have h := best mixed fn21 ok21 (by simp) (b21' l n hn)
  by_cases h0 : n = 0
  · subst h0
    rw [if_pos rfl] at h
    exact Best.res (fun S x hx => agg_nsl 3 hx) h
  · rwa [if_neg h0] at h
end Go.Abs.A09
namespace Go.Abs.A09
open Go Go.Abs Go.Proofs
set_option maxRecDepth 100000
set_option linter.unusedVariables false
set_option linter.unusedSimpArgs false
attribute [local simp ↓] awp_skip awp_seq awp_cond awp_block awp_exit awp_ret awp_reg awp_draw awp_ghost awp_loop awp_rfun awpR_nil awpR_cons awpX_nil awpX_0 awpX_1 awpX_2 awpI_eq awpI_t awpI_f awpStep_eq
attribute [local simp] condL_true condL_false condL_dec evDel evV evN evS evA initFr Ghost.app Fr.var Fr.blk Fr.ff FF.val Abs.look Fr.app Fr.erase Fr.noSlot AV.noSlot AV.noSlotL Blk.noSlot Fr.spoken AV.fz AV.fzL Blk.fz binV binI shI binS unV fillA FF.parts FF.vals headO intO boundO lenV scalarEq leavesEq AV.aggc AV.cells FF.read FF.rows AV.one PV.one chunk freshB newS pickV retK evRs evRl evR resOf mkTup mkAgg allP cloOf okP_nil okX_p okX okP addN Del.noSlot Del.owners Rnd reify_p normM insM Fr.back Fr.backV Fr.setPs normV insV
attribute [local simp] FF.reify FF.reifyL PV.flat
def rgP (l : List Int) (k : Nat) : Int × Int := (numS l (2 * k) % 129 - 64, min 64 (numS l (2 * k) % 129 - 64 + numS l (2 * k + 1) % 65))
def madeRg (l : List Int) (n : Nat) : List (Int × Int) := (List.range n).map (rgP l)
theorem madeRg_succ (l : List Int) (n : Nat) : madeRg l (n + 1) = madeRg l n ++ [rgP l n] := by simp [madeRg, List.range_succ]
theorem madeRg_len (l : List Int) (n : Nat) : (madeRg l n).length = n := by simp [madeRg]
theorem rgP_ok (l : List Int) (k : Nat) : PG (rgP l k) := by
  have h1 := numS_bd l (2 * k)
  have h2 := numS_bd l (2 * k + 1)
  unfold rgP PG CO
  dsimp only
  omega
theorem madeRg_ok (l : List Int) (n : Nat) (hn : n ≤ 3) : RG (madeRg l n) n := by
  refine ⟨by omega, by omega, by rw [madeRg_len], fun p hp => ?_⟩
  simp only [madeRg, List.mem_map] at hp
  obtain ⟨k, _, rfl⟩ := hp
  exact rgP_ok l k
theorem oneP (x : Int × Int) : ([pRow x].all fun r => r.all PV.one) = true := rfl
theorem b31 (l : List Int) (n : Nat) (hn : n < 1000) : Best Tryd.prog 31 [.sl 1 (l.map intRow), .int .i64 n] (.p (.sl 2 ((madeRg l n).map pRow))) := by
  refine best mixed fn31 ok31 (by simp) ?_
  simp -dsimp [ac31]
  refine loopC n (fun k => ⟨[(0, .p (.sl 1 (l.map intRow))), (1, .p (.int .i64 n)), (5, .ref (34, k) 2 0 k), (6, .p (.int .i64 k))], [((34, k), .sl 30 2 ((madeRg l k).map pRow))]⟩) (fun _ => True) (fun k hk _ => ?_) trivial (by simp [madeRg])
  by_cases h : k < n
  · have w : R ((k : Int) + 1) := ⟨by omega, by omega⟩
    have h1 := b43 l (2 * k)
    rw [show ((2 * k : Nat) : Int) = 2 * (k : Int) by omega] at h1
    have h2 := b43 l (2 * k + 1)
    rw [show ((2 * k + 1 : Nat) : Int) = 2 * (k : Int) + 1 by omega] at h2
    have n1 := numS_bd l (2 * k)
    have n2 := numS_bd l (2 * k + 1)
    have w1 : R (2 * (k : Int)) := ⟨by omega, by omega⟩
    have w2 : R (2 * (k : Int) + 1) := ⟨by omega, by omega⟩
    have hs := madeRg_succ l k
    have hl := madeRg_len l k
    have ex : rgP l k = (numS l (2 * k) % 129 - 64, min 64 (numS l (2 * k) % 129 - 64 + numS l (2 * k + 1) % 65)) := rfl
    rw [ex] at hs
    have e1 : (numS l (2 * k)).tmod 129 = numS l (2 * k) % 129 := Int.tmod_eq_emod_of_nonneg n1.1
    have e2 : (numS l (2 * k + 1)).tmod 65 = numS l (2 * k + 1) % 65 := Int.tmod_eq_emod_of_nonneg n2.1
    have w3 : R (numS l (2 * k) % 129 - 64) := ⟨by omega, by omega⟩
    have w4 : R (numS l (2 * k) % 129 - 64 + numS l (2 * k + 1) % 65) := ⟨by omega, by omega⟩
    generalize numS l (2 * k) = y1 at *
    generalize numS l (2 * k + 1) = y2 at *
    have hmax : k + 1 ≤ maxLen := by unfold maxLen; omega
    have hby : (k + 1) * 16 ≤ 140737488355328 := by omega
    simp -dsimp [h, wr w1]
    refine call_p h1 (by simp) (by simp) ?_
    simp -dsimp [e1, wr w3, wr w1, wr w2]
    refine call_p h2 (by simp) (by simp) ?_
    simp -dsimp [e2, wr w4, List.range, List.range.loop, hl, hmax, hby, hs, h, wr w]
    rfl
  · have : k = n := by omega
    subst this
    have hl := madeRg_len l k
    have ht : List.take k ((madeRg l k).map pRow) = (madeRg l k).map pRow := List.take_of_length_le (by simp [hl])
    simp -dsimp [hl, ht]
structure Cs where
  rg : List (List Int)
  at' : List Int
  rn : List Int
  wd : List Int
  ax : Nat
def llRow (l : List Int) : List PV := [.sl 1 (l.map intRow)]
def csC (c : Cs) : List PV := [.sl 1 (c.rg.map llRow), .sl 1 (c.at'.map intRow), .sl 1 (c.rn.map intRow), .sl 1 (c.wd.map intRow), .int .u8 c.ax]
def Cs.n (c : Cs) : Nat := c.ax % 4
theorem b28 (c : Cs) (h : c.ax < 256) : Best Tryd.prog 28 [.agg (csC c)] (.p (.int .i64 c.n)) := by
  refine best mixed fn28 ok28 (by simp) ?_
  obtain ⟨rg, at', rn, wd, ax⟩ := c
  dsimp only at h
  have w : R (ax : Int) := ⟨by omega, by omega⟩
  have e : (ax : Int).tmod 4 = ((ax % 4 : Nat) : Int) := (Int.ofNat_tmod ax 4).symm
  have e' : (ax : Int).tmod 4 = (ax : Int) % 4 := by rw [e]; omega
  simp -dsimp [ac28, csC, wr w, Cs.n, e']
theorem Cs.n_le (c : Cs) : c.n ≤ 3 := by unfold Cs.n; omega
def Cs.regs (c : Cs) : List (List T3) := (c.rg.take 4).map fun l => madeReg l c.n
theorem oneR (x : List T3) : ([regRow x].all fun r => r.all PV.one) = true := rfl
theorem regs_ok (c : Cs) : ∀ r ∈ c.regs, RI r c.n := by
  intro r hr
  simp only [Cs.regs, List.mem_map] at hr
  obtain ⟨l, _, rfl⟩ := hr
  have := c.n_le
  exact ⟨by omega, by omega, by rw [madeReg_len], madeReg_ok l c.n⟩
theorem regs_len (c : Cs) : c.regs.length = min 4 c.rg.length := by simp [Cs.regs]
theorem b27 (c : Cs) (h : c.ax < 256) : Best Tryd.prog 27 [.agg (csC c)] (.own (fun s => .ref s 1 0 c.regs.length) (.sl 42 1 (c.regs.map regRow))) := by
  refine best mixed fn27 ok27 (by simp) ?_
  have h28 := b28 c h
  have hn := c.n_le
  have hlen := regs_len c
  have hreg : ∀ k x, k < 4 → c.rg[k]? = some x → (c.regs.take (k + 1)) = c.regs.take k ++ [madeReg x c.n] := fun k x hk hx => by
    rw [List.take_add_one]
    congr 1
    simp only [Cs.regs, List.getElem?_map, List.getElem?_take, if_pos hk, hx, Option.map_some, Option.toList_some]
  have h21 := fun x => b21 x c.n (by omega)
  generalize c.regs = rs at *
  generalize c.n = n at *
  obtain ⟨rg, at', rn, wd, ax⟩ := c
  dsimp only at *
  simp -dsimp [csC] at h28
  simp -dsimp [ac27, csC]
  refine loopC (min 4 rg.length) (fun k => ⟨[(1, .ptr (1, 0) 5 0 0), (3, .ref (26, k) 1 0 k), (4, .p (.int .i64 k))], [((1, 0), .box [.p (.sl 1 (rg.map llRow)), .p (.sl 1 (at'.map intRow)), .p (.sl 1 (rn.map intRow)), .p (.sl 1 (wd.map intRow)), .p (.int .u8 ax)]), ((26, k), .sl 42 1 ((rs.take k).map regRow))]⟩) (fun _ => True) (fun k hk _ => ?_) trivial (by simp)
  by_cases hkl : k < min 4 rg.length
  · have hk1 : k < rg.length := by omega
    have hk4 : (k : Int) < 4 := by omega
    have hk4' : k < 4 := by omega
    have w : R ((k : Int) + 1) := ⟨by omega, by omega⟩
    obtain ⟨x, ex⟩ : ∃ x, rg[k] = x := ⟨_, rfl⟩
    have hx : rg[k]? = some x := by rw [List.getElem?_eq_getElem hk1, ex]
    have hs := hreg k x hk4' hx
    have h21 := h21 x
    generalize madeReg x n = y at *
    have hl2 : (rs.take k).length = k := by simp; omega
    have hmax : k + 1 ≤ maxLen := by unfold maxLen; omega
    have hby : (k + 1) * 24 ≤ 140737488355328 := by omega
    simp -dsimp [hk1, hk4, hk4', ex, llRow]
    refine call_p h28 (by simp [llRow]) (by simp) ?_
    simp -dsimp
    refine call_p h21 (by simp) (by simp) ?_
    have hmin : min k rs.length = k := by omega
    have hs' : List.take (k + 1) (rs.map regRow) = List.take k (rs.map regRow) ++ [[.sl 3 (y.map tRow)]] := by
      rw [← List.map_take, hs, List.map_append, List.map_take]; rfl
    have hkl' : k < 4 ∧ k < rg.length := by omega
    simp -dsimp [List.range, List.range.loop, hl2, hmax, hby, hmin, hs', hkl', wr w]
    exact hkl
  · have hk' : k = min 4 rg.length := by omega
    have hc : ¬ (k < rg.length ∧ (k : Int) < 4) := by omega
    have hrs : rs.take k = rs := List.take_of_length_le (by omega)
    have hkr : k = rs.length := by omega
    by_cases hk1 : k < rg.length
    · have hk4 : ¬ (k : Int) < 4 := by omega
      simp -dsimp [hk1, hk4, hrs]
      exact ⟨okV_ref 1 0 _, hkr⟩
    · simp -dsimp [hk1, hrs]
      exact ⟨okV_ref 1 0 _, hkr⟩
end Go.Abs.A09
namespace Go.Proofs.YtnonjaonklngpaaDoor
open Go Go.Abs Go.ChangeShapes Go.WideShapes Go.RowKit Go.Proofs Go.Abs.A09
set_option maxRecDepth 100000
set_option linter.unusedVariables false

theorem Rd.to {P : Program} {w : World} {t : TypeId} {α β : Type} {f : α → List PV} {g : β → List PV} {ok : α → Prop} {ok' : β → Prop} (h : α → β) (hf : ∀ a, ok a → f a = g (h a)) (hk : ∀ a, ok a → ok' (h a)) (r : Rd P w t f ok) : Rd P w t g ok' := by
  intro H en base sp hd fuel cs x hx
  obtain ⟨a, ha, h2⟩ := r H en base sp hd fuel cs x hx
  exact ⟨h a, hk a ha, by rw [← hf a ha]; exact h2⟩
theorem wfR {n : Int} (h : (Lit.int .i64 n).wf = true) : R n := by
  simp [Lit.wf, IntKind.min, IntKind.max, IntKind.bits, IntKind.signed] at h
  exact ⟨by omega, by omega⟩
variable {w : World}
theorem rd_int : Rd Tryd.prog w 3 (fun n : Int => [.int .i64 n]) fun n => R n := Rd.to id (fun _ _ => rfl) (fun _ h => wfR h) (Rd.int Tryd.underlying3)
theorem rd_ints : Rd Tryd.prog w 25 (fun l : List Int => [.sl 1 (l.map intRow)]) fun l => (∀ a ∈ l, R a) ∧ l.length ≤ maxLen :=
  Rd.slice Tryd.underlying25 (by kernel_rfl) rd_int fun _ => rfl
theorem rd_tent : Rd Tryd.prog w 71 tRow fun _ => True := by
  have h : RdF Tryd.prog w [{ name := "From", type := 3, offset := 0, embedded := false, tag := "", pkgPath := "", byteOffset := 0 }, { name := "Peak", type := 3, offset := 1, embedded := false, tag := "", pkgPath := "", byteOffset := 8 }, { name := "To", type := 3, offset := 2, embedded := false, tag := "", pkgPath := "", byteOffset := 16 }] _ _ := (RdF.cons rd_int (RdF.cons rd_int (RdF.cons rd_int RdF.nil)))
  have k := Rd.struct (t := 71) Tryd.underlying71 (by kernel_rfl) h
  exact Rd.to (fun x : Int × Int × Int × Unit => ⟨x.1, x.2.1, x.2.2.1⟩) (fun _ _ => rfl) (fun _ _ => trivial) k
theorem rd_tents : Rd Tryd.prog w 40 (fun l : List T3 => [.sl 3 (l.map tRow)]) fun l => (∀ a ∈ l, True) ∧ l.length ≤ maxLen :=
  Rd.slice Tryd.underlying40 (by kernel_rfl) rd_tent fun _ => rfl
theorem rd_region : Rd Tryd.prog w 42 (fun l : List T3 => [.sl 3 (l.map tRow)]) fun l => (∀ a ∈ l, True) ∧ l.length ≤ maxLen :=
  Rd.struct1 Tryd.underlying42 rfl (by kernel_rfl) rd_tents
theorem rd_pair : Rd Tryd.prog w 30 pRow fun x => R x.1 ∧ R x.2 := Rd.to id (fun _ _ => rfl) (fun _ h => h) (Rd.arr2 Tryd.underlying30 (sz := 1) (by kernel_rfl) (by kernel_rfl) rd_int)
theorem rd_pairs : Rd Tryd.prog w 22 (fun l : List (Int × Int) => [.sl 2 (l.map pRow)]) fun l => (∀ x ∈ l, R x.1 ∧ R x.2) ∧ l.length ≤ maxLen :=
  Rd.slice Tryd.underlying22 (by kernel_rfl) rd_pair fun _ => rfl
theorem rd_grow : Rd Tryd.prog w 60 pRow fun x => R x.1 ∧ R x.2 := by
  have h : RdF Tryd.prog w [{ name := "Region", type := 3, offset := 0, embedded := false, tag := "", pkgPath := "", byteOffset := 0 }, { name := "By", type := 3, offset := 1, embedded := false, tag := "", pkgPath := "", byteOffset := 8 }] _ _ := (RdF.cons rd_int (RdF.cons rd_int RdF.nil))
  have k := Rd.struct (t := 60) Tryd.underlying60 (by kernel_rfl) h
  exact Rd.to (fun x : Int × Int × Unit => (x.1, x.2.1)) (fun _ _ => rfl) (fun _ h => ⟨h.1, h.2.1⟩) k
theorem rd_grows : Rd Tryd.prog w 53 (fun l : List (Int × Int) => [.sl 2 (l.map pRow)]) fun l => (∀ x ∈ l, R x.1 ∧ R x.2) ∧ l.length ≤ maxLen :=
  Rd.slice Tryd.underlying53 (by kernel_rfl) rd_grow fun _ => rfl
theorem rd_lists : Rd Tryd.prog w 54 (fun l : List (List Int) => [.sl 1 (l.map llRow)]) fun l => (∀ x ∈ l, (∀ a ∈ x, R a) ∧ x.length ≤ maxLen) ∧ l.length ≤ maxLen :=
  Rd.slice Tryd.underlying54 (by kernel_rfl) rd_ints fun _ => rfl
structure CsOk (c : Cs) : Prop where
  ax : c.ax < 256
  rg : c.rg.length ≤ maxLen
  at' : c.at'.length ≤ maxLen
  rn : c.rn.length ≤ maxLen
  wd : c.wd.length ≤ maxLen
  aR : ∀ a ∈ c.at', R a
  wR : ∀ a ∈ c.wd, R a
theorem rd_case : Rd Tryd.prog w 56 csC CsOk := by
  have h : RdF Tryd.prog w [{ name := "Regions", type := 54, offset := 0, embedded := false, tag := "", pkgPath := "", byteOffset := 0 }, { name := "At", type := 25, offset := 1, embedded := false, tag := "", pkgPath := "", byteOffset := 24 }, { name := "Ranges", type := 25, offset := 2, embedded := false, tag := "", pkgPath := "", byteOffset := 48 }, { name := "Wide", type := 25, offset := 3, embedded := false, tag := "", pkgPath := "", byteOffset := 72 }, { name := "Axes", type := 5, offset := 4, embedded := false, tag := "", pkgPath := "", byteOffset := 96 }] _ _ := (RdF.cons rd_lists (RdF.cons rd_ints (RdF.cons rd_ints (RdF.cons rd_ints (RdF.cons (Rd.int Tryd.underlying5) RdF.nil)))))
  have wf8 : ∀ {n : Int}, (Lit.int .u8 n).wf = true → 0 ≤ n ∧ n < 256 := fun h => by
    simp [Lit.wf, IntKind.min, IntKind.max, IntKind.bits, IntKind.signed] at h
    omega
  refine Rd.to (fun x => ⟨x.1, x.2.1, x.2.2.1, x.2.2.2.1, x.2.2.2.2.1.toNat⟩) (fun x hx => ?_) (fun x hx => ?_) (Rd.struct (t := 56) Tryd.underlying56 (by kernel_rfl) h)
  · obtain ⟨_, _, _, _, h5, _⟩ := hx
    have := wf8 h5
    simp only [csC, List.append_nil, List.cons_append, List.nil_append]
    rw [Int.toNat_of_nonneg this.1]
  · obtain ⟨h1, h2, h3, h4, h5, _⟩ := hx
    have := wf8 h5
    exact ⟨by show x.2.2.2.2.1.toNat < 256; omega, h1.2, h2.2, h3.2, h4.2, h2.1, h4.1⟩
theorem wf8N {n : Int} (h : (Lit.int .u8 n).wf = true) : 0 ≤ n ∧ n < 256 := by
  simp [Lit.wf, IntKind.min, IntKind.max, IntKind.bits, IntKind.signed] at h
  omega
theorem rd_u8 : Rd Tryd.prog w 5 (fun n : Nat => [.int .u8 n]) fun n => n < 256 :=
  Rd.to Int.toNat (fun n h => by have := wf8N h; rw [Int.toNat_of_nonneg this.1]) (fun n h => by have := wf8N h; omega) (Rd.int Tryd.underlying5)
theorem wf16 {n : Int} (h : (Lit.int .i16 n).wf = true) : -32768 ≤ n ∧ n ≤ 32767 := by
  simp [Lit.wf, IntKind.min, IntKind.max, IntKind.bits, IntKind.signed] at h
  omega
theorem rd_i16 : Rd Tryd.prog w 76 (fun n : Int => [.int .i16 n]) fun n => -32768 ≤ n ∧ n ≤ 32767 :=
  Rd.to id (fun _ _ => rfl) (fun n h => wf16 h) (Rd.int Tryd.underlying76)
theorem rd_grows2 : Rd Tryd.prog w 77 (fun x : List (Int × Int) × List (Int × Int) => [.sl 2 (x.1.map pRow), .sl 2 (x.2.map pRow)]) fun x => ((∀ y ∈ x.1, R y.1 ∧ R y.2) ∧ x.1.length ≤ maxLen) ∧ ((∀ y ∈ x.2, R y.1 ∧ R y.2) ∧ x.2.length ≤ maxLen) :=
  Rd.to id (fun _ _ => rfl) (fun _ h => h) (Rd.arr2 Tryd.underlying77 (sz := 1) (by kernel_rfl) (by kernel_rfl) rd_grows)
theorem rd_int3 : Rd Tryd.prog w 26 (fun x : Int × Int × Int => [.int .i64 x.1, .int .i64 x.2.1, .int .i64 x.2.2]) fun x => R x.1 ∧ R x.2.1 ∧ R x.2.2 :=
  Rd.to id (fun _ _ => rfl) (fun _ h => h) (Rd.arr3 Tryd.underlying26 (sz := 1) (by kernel_rfl) (by kernel_rfl) rd_int)
structure AxOk (a : Ax) : Prop where
  nm : a.nm.length ≤ maxLen
  lo : R a.lo
  df : R a.df
  hi : R a.hi
  m : a.m.length ≤ maxLen
  mR : ∀ x ∈ a.m, R x.1 ∧ R x.2
theorem rd_axis : Rd Tryd.prog w 24 axC AxOk := by
  have h : RdF Tryd.prog w [{ name := "Name", type := 9, offset := 0, embedded := false, tag := "", pkgPath := "", byteOffset := 0 }, { name := "Min", type := 3, offset := 1, embedded := false, tag := "", pkgPath := "", byteOffset := 16 }, { name := "Default", type := 3, offset := 2, embedded := false, tag := "", pkgPath := "", byteOffset := 24 }, { name := "Max", type := 3, offset := 3, embedded := false, tag := "", pkgPath := "", byteOffset := 32 }, { name := "Map", type := 22, offset := 4, embedded := false, tag := "", pkgPath := "", byteOffset := 40 }] _ _ := (RdF.cons (Rd.str Tryd.underlying9) (RdF.cons rd_int (RdF.cons rd_int (RdF.cons rd_int (RdF.cons rd_pairs RdF.nil)))))
  refine Rd.to (fun x => ⟨x.1.data.toList, x.2.1, x.2.2.1, x.2.2.2.1, x.2.2.2.2.1⟩) (fun x hx => ?_) (fun x hx => ?_) (Rd.struct (t := 24) Tryd.underlying24 (by kernel_rfl) h)
  · simp only [axC, List.append_nil, List.cons_append, List.nil_append, ← ba_eta]
  · obtain ⟨h1, h2, h3, h4, h5, _⟩ := hx
    exact ⟨by have := ba_size x.1.data.toList; rw [← ba_eta] at this; show x.1.data.toList.length ≤ maxLen; omega, h2, h3, h4, h5.2, h5.1⟩
end Go.Proofs.YtnonjaonklngpaaDoor
namespace Go.Proofs.YtnonjaonklngpaaDoor
open Go Go.Abs Go.ChangeShapes Go.WideShapes Go.RowKit Go.Proofs Go.Abs.A09
set_option maxRecDepth 100000
set_option linter.unusedVariables false
theorem axesRises_lifted (os : Os) (started : os.Started) (H : Type) (enc : TypeId × Value → H) :
    ReturnsInHanded {} Tryd.checked os 4 .any (fun w args => (Rows.axesRisesSpec.pre enc Tryd.prog Tryd.f4 [] false w args ∧ laidMetH Tryd.prog laidL w) ∧ sizedMet enc Tryd.prog Tryd.f4 (OpenSpec.ofChange Rows.axesRisesSpec) false w args)
      (Rows.axesRisesSpec.post enc Tryd.prog Tryd.f4 false true false false) := by
  refine returnsInHanded_of_change_and (C := Tryd.checked) (X := fun w _ => laidMetH Tryd.prog laidL w) (fun _ _ _ hh h => h.of_heap hh) own started (by kernel_rfl) Tryd.func4
    (ChangeSpec.witness_at (enc := enc) (C := Tryd.checked) (os := os) (X := fun w _ => laidMetH Tryd.prog laidL w) false (laidWorld os) #[.slice none 0 0, .agg #[.int .i64 0, .int .i64 0]] 8 rfl (by kernel_rfl) (by kernel_rfl) (by kernel_rfl) (by kernel_rfl) (by kernel_rfl) (laid_metH os _)) ?_
  intro W base args ds gs before hval hW _ _ _ _
  have hW' := hW
  obtain ⟨p, q, hA, hV, -, -, -⟩ := hW'
  have hA : DataW.TrodAll enc Tryd.prog W 0 (fun _ => true) true Tryd.f4.params.toList args.toList ds p := hA
  rw [Tryd.params4] at hA
  have hval : ∀ (j : Nat) t v, Tryd.f4.params[j]? = some t → args[j]? = some v → Value.okWide Tryd.prog W .any base t v := hval
  rw [Tryd.params4] at hval
  obtain ⟨v0, v1, d0, d1, p0, p1, rfl, rfl, rfl, h0, h1⟩ := trodAll_two hA
  obtain ⟨a0, o0, r0⟩ := Rd.argS Tryd.underlying25 rd_ints (hval 0 25 v0 rfl rfl) h0
  obtain ⟨a1, o1, r1⟩ := Rd.argA Tryd.underlying30 rd_pair (hval 1 30 v1 rfl rfl) h1
  exact law_step rfl rfl hW rfl (by decide +kernel) (b4 a0 a1.1 a1.2 o1.1 o1.2) (Ps.cons r0 (Ps.one r1))
theorem axesRises_holds : Rows.AxesRisesSaid :=
  OpenClaim.holds_of_wide 4 Tryd.f4 rfl rfl rfl rfl rfl rfl rfl ⟨rfl, rfl, rfl, rfl, rfl⟩ rfl rfl rfl rfl rfl (by kernel_rfl) Tryd.func4 (by kernel_rfl)
    (of_decide_eq_true (by kernel_rfl)) (by unfold Func.isWrapper; rw [if_neg (of_decide_eq_false (by kernel_rfl))]; exact ⟨rfl, rfl⟩)
    (fun os started H enc _ => axesRises_lifted os started H enc)
theorem axesRises_card : Rows.AxesRisesCardSaid :=
  Claim7.holds_tied_plain_at .later [] [.data, .pinned] true (true, "a6bb7e9ee7f2422d58a2694b4d874e292dd26c601e4065298115dda05adcd7bf") false
    axesRises_holds (fun _ h => by cases h) (by kernel_rfl) (fun _ h => by cases h) axesRises_row_tie rfl ⟨rfl, rfl⟩ (by kernel_rfl) rfl
    (fun f fn hf hfn => by
      obtain rfl : f = 4 := Option.some.inj ((show Tryd.prog.funcNamed "abugida/abugidalaw09.AxesRises" = some 4 by kernel_rfl).symm.trans hf) |>.symm
      obtain rfl : fn = Tryd.f4 := (Option.some.inj (Tryd.func4.symm.trans hfn)).symm
      exact ⟨by kernel_rfl, fun j t ht => by
        rw [Tryd.params4] at ht
        have hm : t ∈ [25, 30] := by
          have := List.mem_of_getElem? (l := [25, 30]) (i := j) (by simpa using ht)
          exact this
        simp only [List.mem_cons, List.mem_nil_iff, or_false] at hm
        rcases hm with rfl | rfl
        · exact (show Tryd.prog.wantsStandIn 25 = false by kernel_rfl)
        · exact (show Tryd.prog.wantsStandIn 30 = false by kernel_rfl)
        ⟩)
    (by kernel_rfl)
#print axioms axesRises_card
end Go.Proofs.YtnonjaonklngpaaDoor
