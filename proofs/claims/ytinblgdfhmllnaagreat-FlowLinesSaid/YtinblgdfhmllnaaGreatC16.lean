/- A part of the proof: an abstract reading of the model, contracts of functions. -/
import Derived.Test.YtinblgdfhmllnaaGreatC15
import Derived.Test.YtinblgdfhmllnaaGreatProg
set_option linter.unusedVariables false
set_option linter.unusedSimpArgs false
namespace Go.Abs.A29
open Go Go.Abs Go.Proofs
set_option maxRecDepth 100000
set_option linter.unusedVariables false
set_option linter.unusedSimpArgs false
attribute [local simp ↓] awp_skip awp_seq awp_cond awp_block awp_exit awp_ret awp_reg awp_draw awp_ghost awp_loop awp_rfun awpR_nil awpR_cons awpX_nil awpX_0 awpX_1 awpX_2 awpI_eq awpI_t awpI_f awpStep_eq
attribute [local simp] condL_true condL_false condL_dec evDel evV evN evS evA initFr Ghost.app Fr.var Fr.blk Fr.ff FF.val Abs.look Fr.app Fr.erase Fr.noSlot AV.noSlot AV.noSlotL Blk.noSlot Fr.spoken AV.fz AV.fzL Blk.fz binV binI shI binS unV fillA FF.parts FF.vals headO intO boundO lenV scalarEq leavesEq AV.aggc AV.cells FF.read FF.rows AV.one PV.one chunk freshB newS pickV retK evRs evRl evR resOf mkTup mkAgg allP cloOf okP_nil okX_p okX okP addN Del.noSlot Del.owners Rnd reify_p normM insM Fr.back Fr.backV Fr.setPs normV insV
attribute [local simp] renF Fr.trim Blk.trim AV.rn AV.rnL Blk.rn AV.among AV.amongL Blk.among okF retM fixS BIG initFF
attribute [local simp] FF.reify FF.reifyL PV.flat
attribute [local simp] ym yn yl yk yb yc yf yj yh qp qe qi qo qg qa qk qz qm ql qt qf qj qn qb qc qs qr qq qd
section
def ac165:AC:=by
 apply fun (y:AC) (_:@Eq AC (qk [0] (qs (qr [(qp 1 (.box (.v 0))),(qp 2 (.mov (.c (.bool false))))]) (qk [1] (qs (qr [(qp 3 (.iaddrA 1 2 (.v 1) (qz 0))),(yk 4 3 [0]),(yc 5 .geq 4 (qz 4) [1]),(yn 6 5 [2]),(qg 7 (.iaddrA 1 2 (.v 1) (qz 0)) 6 true [3]),(qg 8 (ql 7) 6 true [4,3]),(qg 9 (.iaddrA 1 2 (.v 1) (qz 1)) 6 true [3]),(qg 10 (ql 9) 6 true [6,3]),(qg 11 (qb .leq 8 10) 6 true [5,7,3]),(qi 12 (.pick (.v 6) (.v 11) (.c (.bool false))) [3,8]),(yn 13 12 [9,3]),(qg 14 (.iaddrA 1 2 (.v 1) (qz 1)) 13 true [10]),(qg 15 (ql 14) 13 true [11,10]),(qg 16 (qc .leq 15 (qz 32)) 13 true [12,10]),(qi 17 (.pick (.v 13) (.v 16) (.c (.bool false))) [10,13]),(yn 2 17 [14,10,0,1,2,3,4,5,6,7,8,9,10,11,12,13,14])]) (qk [2] .ret))))) y)=>y
 dsimp
theorem fn165:factOf Tryz.prog 165=some (ac165.strip,[.tmp 2],18):=by kernel_rfl
theorem ok165:ac165.okAll=true:=by kernel_rfl
def ac167:AC:=by
 apply fun (y:AC) (_:@Eq AC (qk [0] (qs (qr [(qp 1 (.box (.v 0))),(qp 2 (.mov (.c (.bool false))))]) (qk [1] (qs (qr [(qp 3 (.iaddrA 1 4 (.v 1) (qz 0))),(yk 4 3 [0]),(qp 5 (.iaddrA 1 4 (.v 1) (qz 2))),(yk 6 5 [2]),(qi 7 (.build [.int .i64 0,.int .i64 0] [(0,1,.v 4),(1,1,.v 6)]) [1,3]),(qi 8 (.call 186 [.v 7]) [4]),(yn 9 8 [5,5]),(qg 10 (.iaddrA 1 4 (.v 1) (qz 1)) 9 true [6]),(qg 11 (ql 10) 9 true [7,6]),(qg 12 (.iaddrA 1 4 (.v 1) (qz 3)) 9 true [6]),(qg 13 (ql 12) 9 true [9,6]),(qg 14 (.build [.int .i64 0,.int .i64 0] [(0,1,.v 11),(1,1,.v 13)]) 9 true [8,10,6]),(qg 15 (.call 186 [.v 14]) 9 true [11,6,6]),(qi 16 (.pick (.v 9) (.v 15) (.c (.bool false))) [6,12]),(yn 17 16 [13,12]),(qg 18 (.iaddrA 1 4 (.v 1) (qz 0)) 17 true [14]),(qg 19 (ql 18) 17 true [15,14]),(qg 20 (.iaddrA 1 4 (.v 1) (qz 2)) 17 true [14]),(qg 21 (ql 20) 17 true [17,14]),(qg 22 (qb .leq 19 21) 17 true [16,18,14]),(qi 23 (.pick (.v 17) (.v 22) (.c (.bool false))) [14,19]),(yn 24 23 [20,14]),(qg 25 (.iaddrA 1 4 (.v 1) (qz 1)) 24 true [21]),(qg 26 (ql 25) 24 true [22,21]),(qg 27 (.iaddrA 1 4 (.v 1) (qz 3)) 24 true [21]),(qg 28 (ql 27) 24 true [24,21]),(qg 29 (qb .leq 26 28) 24 true [23,25,21]),(qi 30 (.pick (.v 24) (.v 29) (.c (.bool false))) [21,26]),(yn 2 30 [27,21,0,1,2,3,4,5,6,7,8,9,10,11,12,13,14,15,16,17,18,19,20,21,22,23,24,25,26,27])]) (qk [2] .ret))))) y)=>y
 dsimp
theorem fn167:factOf Tryz.prog 167=some (ac167.strip,[.tmp 2],31):=by kernel_rfl
theorem ok167:ac167.okAll=true:=by kernel_rfl
def ac186:AC:=by
 apply fun (y:AC) (_:@Eq AC (qk [0] (qs (qr [(qp 1 (.box (.v 0))),(qp 2 (.mov (.c (.bool false))))]) (qk [1] (qs (qr [(qp 3 (.iaddrA 1 2 (.v 1) (qz 0))),(yk 4 3 [0]),(qi 5 (.call 120 [.v 4]) [1]),(yn 6 5 [2,2]),(qg 7 (.iaddrA 1 2 (.v 1) (qz 1)) 6 true [3]),(qg 8 (ql 7) 6 true [4,3]),(qg 9 (.call 120 [.v 8]) 6 true [5,3,3]),(qi 10 (.pick (.v 6) (.v 9) (.c (.bool false))) [3,6]),(yn 2 10 [7,6,0,1,2,3,4,5,6,7])]) (qk [2] .ret))))) y)=>y
 dsimp
theorem fn186:factOf Tryz.prog 186=some (ac186.strip,[.tmp 2],11):=by kernel_rfl
theorem ok186:ac186.okAll=true:=by kernel_rfl
def ac187:AC:=by
 apply fun (y:AC) (_:@Eq AC (let e0:=[0];let e1:=[2,3,12,41];(qk [0,1,2] (qs (qr [(qp 3 (.box (.v 0))),(qp 6 (.mov (qz 0)))]) (qk [1,2,3] (qs (qr [(qp 8 (qf 1 3)),(yk 9 8 e0),(qi 10 (.call 120 [.v 9]) [1]),(yn 7 10 [2,2,0,1,2])]) (qk [1,2,3,7] (qs (qs (qr [(qp 11 (qf 0 3)),(yk 12 11 e0)]) (qk [1,2,3,7,12] (.block 0 (qs (qr [(qp 27 (qc .eql 12 (qz 1))),(yn 26 27 e0)]) (qk [1,2,3,7,12,26] (qq (.v 26) (qs (qr [(ym 28 7),(qi 29 (.un .not (.v 28)) e0)]) (qk [29] (qq (.v 29) (qs (qr [(qp 6 (.mov (qz 26)))]) (qk [6] .ret)) .skip))) (qs (qr [(qp 31 (qc .eql 12 (qz 14))),(yn 30 31 e0)]) (qk [1,2,3,12,30] (qq (.v 30) (qs (qr [(qp 32 (qf 1 3)),(yk 33 32 e0),(yc 34 .lss 33 (qz 0) [1]),(yn 35 34 [2]),(qg 36 (qf 1 3) 35 false [3]),(qg 37 (ql 36) 35 false [4,3]),(qg 38 (qm 1) 35 false [3]),(qg 39 (qb .geq 37 38) 35 false [5,6,3]),(qi 40 (.pick (.v 35) (.c (.bool true)) (.v 39)) [3,7])]) (qk [40] (qq (.v 40) (qs (qr [(qp 6 (.mov (qz 23)))]) (qk [6] .ret)) .skip))) (qs (qs (qr [(qp 42 (qc .eql 12 (qz 15))),(yn 41 42 e0)]) (qk e1 (qq (.v 41) .skip (qs (qr [(qp 43 (qc .eql 12 (qz 16))),(yn 41 43 e0)]) (qk e1 (qq (.v 41) .skip (qs (qr [(qp 44 (qc .eql 12 (qz 17))),(yn 41 44 e0)]) (qk e1 (qq (.v 41) .skip (qr [(qp 45 (qc .eql 12 (qz 18))),(yn 41 45 e0)])))))))))) (qk e1 (qq (.v 41) (qs (qr [(qp 46 (qf 1 3)),(yk 47 46 e0),(yc 48 .lss 47 (qz 0) [1]),(yn 49 48 [2]),(qg 50 (qf 1 3) 49 false [3]),(qg 51 (ql 50) 49 false [4,3]),(qg 52 (qm 2) 49 false [3]),(qg 53 (qb .geq 51 52) 49 false [5,6,3]),(qi 54 (.pick (.v 49) (.c (.bool true)) (.v 53)) [3,7])]) (qk [54] (qq (.v 54) (qs (qr [(qp 6 (.mov (qz 23)))]) (qk [6] .ret)) .skip))) (qs (qs (qr [(qp 56 (qc .eql 12 (qz 21))),(yn 55 56 e0)]) (qk [3,12,55] (qq (.v 55) .skip (qr [(qp 57 (qc .eql 12 (qz 22))),(yn 55 57 e0)])))) (qk [3,12,55] (qq (.v 55) (qs (qr [(qp 58 (qf 1 3)),(yk 59 58 e0),(yc 60 .lss 59 (qz 0) [1]),(yn 61 60 [2]),(qg 62 (qf 1 3) 61 false [3]),(qg 63 (ql 62) 61 false [4,3]),(qg 64 (qc .geq 63 (qz 8)) 61 false [5,3]),(qi 65 (.pick (.v 61) (.c (.bool true)) (.v 64)) [3,6])]) (qk [65] (qq (.v 65) (qs (qr [(qp 6 (.mov (qz 22)))]) (qk [6] .ret)) .skip))) (qs (qr [(qp 67 (qc .eql 12 (qz 26))),(yn 66 67 e0)]) (qk [3,66] (qq (.v 66) (qs (qr [(qp 68 (qf 1 3)),(yk 69 68 e0),(yc 70 .lss 69 (qz 1) [1]),(yn 71 70 [2]),(qg 72 (qf 1 3) 71 false [3]),(qg 73 (ql 72) 71 false [4,3]),(qg 74 (qc .gtr 73 (qz 8)) 71 false [5,3]),(qi 75 (.pick (.v 71) (.c (.bool true)) (.v 74)) [3,6])]) (qk [75] (qq (.v 75) (qs (qr [(qp 6 (.mov (qz 25)))]) (qk [6] .ret)) .skip))) (qs (qr [(qp 13 (qf 0 3)),(yk 14 13 e0),(yc 15 .lss 14 (qz 1) [1]),(yn 16 15 [2]),(qg 17 (qf 0 3) 16 false [3]),(qg 18 (ql 17) 16 false [4,3]),(qg 19 (qc .gtr 18 (qz 26)) 16 false [5,3]),(qi 20 (.pick (.v 16) (.c (.bool true)) (.v 19)) [3,6]),(yn 21 20 [7,3]),(qg 22 (qf 1 3) 21 false [8]),(qg 23 (ql 22) 21 false [9,8]),(qg 24 (qc .neq 23 (qz 0)) 21 false [10,8]),(qi 25 (.pick (.v 21) (.c (.bool true)) (.v 24)) [8,11])]) (qk [25] (qq (.v 25) (qs (qr [(qp 6 (.mov (qz 20)))]) (qk [6] .ret)) .skip))))))))))))))))))))) (qk [] (qs (qr [(qp 6 (.mov (qz 0)))]) (qk [6] .ret)))))))))) y)=>y
 dsimp
theorem fn187:factOf Tryz.prog 187=some (ac187.strip,[.tmp 6],76):=by kernel_rfl
theorem ok187:ac187.okAll=true:=by kernel_rfl
def ac195:AC:=by
 apply fun (y:AC) (_:@Eq AC (let e0:=[0,5,6];(qk [0,1] (qs (qr [(qp 4 (.mov (qz 0)))]) (qk [0,1] (qs (qr [(qp 5 (.mov (qz 0)))]) (qk [0,1,5] (qs (qs (qr [(ym 7 1),(yc 8 .sub 7 (qz 1) [0]),(yn 6 8 [1,0,1])]) (qk e0 (.block 0 (.loop (qk e0 (qs (qs (qr [(ym 9 6),(yc 10 .geq 9 (qz 0) [0])]) (qk [0,5,6,10] (qq (.v 10) .skip (.exit 0)))) (qk e0 (qs (.block 1 (qs (qs (qr [(ym 13 0),(ym 14 6),(yj 15 2 13 14 [0,1]),(yf 16 0 15 [2]),(yk 17 16 [3]),(yc 18 .eql 17 (qz 25) [4])]) (qk [0,5,6,18] (qq (.v 18) (qr [(ym 19 5),(yc 20 .add 19 (qz 1) [0]),(yn 5 20 [1,0,1])]) .skip))) (qk e0 (qs (qr [(ym 21 0),(ym 22 6),(yj 23 2 21 22 [0,1]),(yf 24 0 23 [2]),(yk 25 24 [3]),(yc 26 .eql 25 (qz 23) [4]),(yn 27 26 [5]),(qg 28 (qm 0) 27 false [6]),(qg 29 (qm 6) 27 false [6]),(qg 30 (qj 2 28 29) 27 false [7,8,6]),(qg 31 (qf 0 30) 27 false [9,6]),(qg 32 (ql 31) 27 false [10,6]),(qg 33 (qc .eql 32 (qz 26)) 27 false [11,6]),(qi 34 (.pick (.v 27) (.c (.bool true)) (.v 33)) [6,12])]) (qk [0,5,6,34] (qq (.v 34) (qs (qs (qr [(ym 35 5),(yc 36 .eql 35 (qz 0) [0])]) (qk [0,5,6,36] (qq (.v 36) (qs (qr [(ym 37 6),(yn 4 37 [0,0])]) (qk [4] .ret)) .skip))) (qk e0 (qr [(ym 38 5),(yc 39 .sub 38 (qz 1) [0]),(yn 5 39 [1,0,1])]))) .skip)))))) (qk e0 (qr [(ym 11 6),(yc 12 .sub 11 (qz 1) [0]),(yn 6 12 [1,0,1])])))))))))) (qk [] (qs (qr [(qp 4 (.mov (qz (-1))))]) (qk [4] .ret)))))))))) y)=>y
 dsimp
theorem fn195:factOf Tryz.prog 195=some (ac195.strip,[.tmp 4],40):=by kernel_rfl
theorem ok195:ac195.okAll=true:=by kernel_rfl
def ac188:AC:=by
 apply fun (y:AC) (_:@Eq AC (qk [0] (qs (qr [(qp 2 (.mov (.c (.bool false))))]) (qk [0] (qs (qs (qr [(qp 3 (.mov (qz 0)))]) (qk [0,3] (.block 0 (.loop (qk [0,3] (qs (qs (qr [(ym 5 3),(ym 6 0),(yh 7 6 [1]),(yb 8 .lss 5 7 [0,2])]) (qk [0,3,8] (qq (.v 8) .skip (.exit 0)))) (qk [0,3] (qs (.block 1 (qs (qr [(ym 11 0),(ym 12 3),(qi 13 (.call 195 [.v 11,.v 12]) [0,1]),(yn 4 13 [2,2,0,1,2])]) (qk [0,3,4] (qs (qr [(ym 14 0),(ym 15 3),(yj 16 2 14 15 [0,1]),(yf 17 0 16 [2]),(yk 18 17 [3])]) (qk [0,3,4,18] (.block 2 (qs (qs (qr [(qp 20 (qc .eql 18 (qz 23))),(yn 19 20 [0])]) (qk [0,3,4,18,19] (qq (.v 19) .skip (qr [(qp 21 (qc .eql 18 (qz 26))),(yn 19 21 [0])])))) (qk [0,3,4,18,19] (qq (.v 19) (qs (qr [(ym 22 0),(ym 23 3),(qi 24 (.call 190 [.v 22,.v 23,.c (.bool true)]) [0,1]),(ym 25 0),(yh 26 25 [3]),(yb 27 .eql 24 26 [2,4])]) (qk [0,3,27] (qq (.v 27) (qs (qr [(qp 2 (.mov (.c (.bool false))))]) (qk [2] .ret)) .skip))) (qs (qr [(qp 29 (qc .eql 18 (qz 25))),(yn 28 29 [0])]) (qk [0,3,4,18,28] (qq (.v 28) (qs (qr [(ym 30 4),(yc 31 .lss 30 (qz 0) [0])]) (qk [0,3,31] (qq (.v 31) (qs (qr [(qp 2 (.mov (.c (.bool false))))]) (qk [2] .ret)) .skip))) (qs (qr [(qp 33 (qc .eql 18 (qz 24))),(yn 32 33 [0])]) (qk [0,3,4,32] (qq (.v 32) (qs (qr [(ym 34 4),(yc 35 .lss 34 (qz 0) [0]),(yn 36 35 [1]),(qg 37 (qm 0) 36 false [2]),(qg 38 (qm 4) 36 false [2]),(qg 39 (qj 2 37 38) 36 false [3,4,2]),(qg 40 (qf 0 39) 36 false [5,2]),(qg 41 (ql 40) 36 false [6,2]),(qg 42 (qc .neq 41 (qz 23)) 36 false [7,2]),(qi 43 (.pick (.v 36) (.c (.bool true)) (.v 42)) [2,8]),(yn 44 43 [9,2]),(qg 45 (qm 0) 44 false [10]),(qg 46 (qm 4) 44 false [10]),(qg 47 (.call 190 [.v 45,.v 46,.c (.bool false)]) 44 false [11,12,10,10]),(qg 48 (qm 3) 44 false [10]),(qg 49 (qb .neq 47 48) 44 false [13,14,10]),(qi 50 (.pick (.v 44) (.c (.bool true)) (.v 49)) [10,15])]) (qk [0,3,50] (qq (.v 50) (qs (qr [(qp 2 (.mov (.c (.bool false))))]) (qk [2] .ret)) .skip))) .skip))))))))))))))) (qk [0,3] (qr [(ym 9 3),(yc 10 .add 9 (qz 1) [0]),(yn 3 10 [1,0,1])])))))))))) (qk [] (qs (qr [(qp 2 (.mov (.c (.bool true))))]) (qk [2] .ret))))))) y)=>y
 dsimp
theorem fn188:factOf Tryz.prog 188=some (ac188.strip,[.tmp 2],51):=by kernel_rfl
theorem ok188:ac188.okAll=true:=by kernel_rfl
def ac168:AC:=by
 apply fun (y:AC) (_:@Eq AC (let e0:=[0,1,2,7];(qk [0,1,2] (qs (qr [(qp 6 (.mov (qz 0)))]) (qk [0,1,2] (qs (qs (qr [(ym 10 1),(yc 11 .lss 10 (qz 0) [0]),(yn 12 11 [1]),(qg 13 (qm 1) 12 false [2]),(qg 14 (qc .gtr 13 (qz 3)) 12 false [3,2]),(qi 15 (.pick (.v 12) (.c (.bool true)) (.v 14)) [2,4]),(yn 16 15 [5,2]),(qg 17 (qm 2) 16 false [6]),(qg 18 (qc .lss 17 (qz 0)) 16 false [7,6]),(qi 19 (.pick (.v 16) (.c (.bool true)) (.v 18)) [6,8]),(yn 20 19 [9,6]),(qg 21 (qm 2) 20 false [10]),(qg 22 (qc .gtr 21 (qz 40)) 20 false [11,10]),(qi 23 (.pick (.v 20) (.c (.bool true)) (.v 22)) [10,12])]) (qk [0,1,2,23] (qq (.v 23) (qs (qr [(qp 6 (.mov (qz 1)))]) (qk [6] .ret)) .skip))) (qk [0,1,2] (qs (qs (qr [(ym 24 0),(yh 25 24 [0]),(yc 26 .gtr 25 (qz 60) [1])]) (qk [0,1,2,26] (qq (.v 26) (qs (qr [(qp 6 (.mov (qz 2)))]) (qk [6] .ret)) .skip))) (qk [0,1,2] (qs (qs (qr [(qp 7 (.mov (qz 0)))]) (qk e0 (.block 0 (.loop (qk e0 (qs (qs (qr [(ym 27 7),(ym 28 0),(yh 29 28 [1]),(yb 30 .lss 27 29 [0,2])]) (qk [0,1,2,7,30] (qq (.v 30) .skip (.exit 0)))) (qk e0 (qs (.block 1 (qs (qr [(ym 33 0),(ym 34 7),(yj 35 2 33 34 [0,1]),(qi 36 (qt 2 35) [2]),(ym 37 1),(ym 38 2),(qi 39 (.call 187 [.v 36,.v 37,.v 38]) [3,4,5]),(yn 8 39 [6,6,0,1,2,3,4,5,6])]) (qk [0,1,2,7,8] (qs (qr [(ym 40 8),(yc 41 .neq 40 (qz 0) [0])]) (qk [0,1,2,7,8,41] (qq (.v 41) (qs (qr [(ym 42 8),(yn 6 42 [0,0])]) (qk [6] .ret)) .skip)))))) (qk e0 (qr [(ym 31 7),(yc 32 .add 31 (qz 1) [0]),(yn 7 32 [1,0,1])])))))))))) (qk [0] (qs (qr [(ym 43 0),(qi 44 (.call 188 [.v 43]) [0]),(yn 9 44 [1,1,0,1])]) (qk [9] (qs (qs (qr [(ym 45 9),(qi 46 (.un .not (.v 45)) [0])]) (qk [46] (qq (.v 46) (qs (qr [(qp 6 (.mov (qz 25)))]) (qk [6] .ret)) .skip))) (qk [] (qs (qr [(qp 6 (.mov (qz 0)))]) (qk [6] .ret)))))))))))))))) y)=>y
 dsimp
theorem fn168:factOf Tryz.prog 168=some (ac168.strip,[.tmp 6],47):=by kernel_rfl
theorem ok168:ac168.okAll=true:=by kernel_rfl
def ac202:AC:=by
 apply fun (y:AC) (_:@Eq AC (qk [0,1] (qs (qr [(qp 2 (.box (.v 0))),(qp 3 (.box (.v 1))),(qp 4 (.alloc [.int .i64 0,.int .i64 0]))]) (qk [2,3,4] (qs (qr [(qp 5 (.iaddrA 1 2 (.v 2) (qz 0))),(yk 6 5 [0]),(qp 7 (.iaddrA 1 2 (.v 3) (qz 0))),(yk 8 7 [2]),(qi 9 (.mm false (.v 6) (.v 8)) [1,3]),(qp 10 (.iaddrA 1 2 (.v 2) (qz 1))),(yk 11 10 [5]),(qp 12 (.iaddrA 1 2 (.v 3) (qz 1))),(yk 13 12 [7]),(qi 14 (.mm true (.v 11) (.v 13)) [6,8]),(qi 15 (.build [.int .i64 0,.int .i64 0] [(0,1,.v 9),(1,1,.v 14)]) [4,9]),(qo (.store 2 (.v 4) (.v 15)) [10,0,1,2,3,4,5,6,7,8,9,10])]) (qk [4] .ret))))) y)=>y
 dsimp
theorem fn202:factOf Tryz.prog 202=some (ac202.strip,[.cell 4 true 2],16):=by kernel_rfl
theorem ok202:ac202.okAll=true:=by kernel_rfl
def ac203:AC:=by
 apply fun (y:AC) (_:@Eq AC (qk [0,1] (qs (qr [(qp 2 (.box (.v 0))),(qp 3 (.box (.v 1))),(qp 4 (.alloc [.int .i64 0,.int .i64 0]))]) (qk [2,3,4] (qs (qs (qr [(qp 5 (.iaddrA 1 2 (.v 2) (qz 1))),(yk 6 5 [0]),(qp 7 (.iaddrA 1 2 (.v 3) (qz 0))),(yk 8 7 [2]),(yb 9 .lss 6 8 [1,3])]) (qk [2,3,4,9] (qq (.v 9) (qs (qr [(qp 10 (.build [.int .i64 0,.int .i64 0] [(0,1,.c (.int .i64 1)),(1,1,.c (.int .i64 1))])),(qo (.store 2 (.v 4) (.v 10)) [0,0])]) (qk [4] .ret)) .skip))) (qk [2,3,4] (qs (qs (qr [(qp 11 (.iaddrA 1 2 (.v 2) (qz 0))),(yk 12 11 [0]),(qp 13 (.iaddrA 1 2 (.v 3) (qz 1))),(yk 14 13 [2]),(yb 15 .geq 12 14 [1,3])]) (qk [4,15] (qq (.v 15) (qs (qr [(qp 16 (.build [.int .i64 0,.int .i64 0] [])),(qo (.store 2 (.v 4) (.v 16)) [0,0])]) (qk [4] .ret)) .skip))) (qk [4] (qs (qr [(qp 17 (.build [.int .i64 0,.int .i64 0] [(0,1,.c (.int .i64 0)),(1,1,.c (.int .i64 1))])),(qo (.store 2 (.v 4) (.v 17)) [0,0])]) (qk [4] .ret))))))))) y)=>y
 dsimp
theorem fn203:factOf Tryz.prog 203=some (ac203.strip,[.cell 4 true 2],18):=by kernel_rfl
theorem ok203:ac203.okAll=true:=by kernel_rfl
def ac204:AC:=by
 apply fun (y:AC) (_:@Eq AC (let e0:=[0,4,5,6,8,9,10];let e1:=[0,4,5,6,8,9];let e2:=[29,33,34,35];let e3:=[29,30,31,32];(qk [0,1,2] (qs (qr [(qp 4 (.box (.v 1))),(qp 5 (.box (.v 2))),(qp 6 (.alloc [.int .i64 0,.int .i64 0]))]) (qk [0,4,5,6] (qs (qr [(ym 12 0),(qp 13 (.iaddrA 1 2 (.v 4) (qz 0))),(yk 14 13 [1]),(qp 15 (.iaddrA 1 2 (.v 5) (qz 0))),(yk 16 15 [3]),(qi 17 (.call 205 [.v 12,.v 14,.v 16]) [0,2,4]),(yn 7 17 [5,5,0,1,2,3,4,5])]) (qk [0,4,5,6,7] (qs (qr [(ym 18 7),(ym 19 7),(qi 20 (.build [.int .i64 0,.int .i64 0] [(0,1,.v 18),(1,1,.v 19)]) [0,1]),(qp 8 (.alloc [.int .i64 0,.int .i64 0])),(qo (.store 2 (.v 8) (.v 20)) [3,2,0,1,2,3])]) (qk [0,4,5,6,8] (qs (qs (qr [(qp 9 (.mov (qz 0)))]) (qk e1 (.block 0 (.loop (qk e1 (qs (qs (qr [(ym 21 9),(yc 22 .lss 21 (qz 2) [0])]) (qk [0,4,5,6,8,9,22] (qq (.v 22) .skip (.exit 0)))) (qk e1 (qs (.block 1 (qs (qr [(qp 10 (.mov (qz 0)))]) (qk e0 (.block 2 (.loop (qk e0 (qs (qs (qr [(ym 25 10),(yc 26 .lss 25 (qz 2) [0])]) (qk [0,4,5,6,8,9,10,26] (qq (.v 26) .skip (.exit 2)))) (qk e0 (qs (.block 3 (qs (qd [(qe (ym 29 0) [30,31,32,33,34,35] [] 2),(qe (ym 30 9) e2 [0] 2),(qe (qi 31 (.iaddrA 1 2 (.v 4) (.v 30)) [1]) e2 [0] 2),(qe (yk 32 31 [2]) e2 [0] 2),(qe (ym 33 10) e3 [0,1,2,3] 2),(qe (qi 34 (.iaddrA 1 2 (.v 5) (.v 33)) [4]) e3 [0,1,2,3] 2),(qe (yk 35 34 [5]) e3 [0,1,2,3] 2),(qa (qi 36 (.call 205 [.v 29,.v 32,.v 35]) [0,3,6]) [] [] [36] [] 1),(qe (yn 11 36 [7,7,0,1,2,3,4,5,6,7]) [] [] 2)]) (qk [0,4,5,6,8,9,10,11] (qr [(qp 37 (qt 2 8)),(ym 38 11),(ym 39 11),(qi 40 (.build [.int .i64 0,.int .i64 0] [(0,1,.v 38),(1,1,.v 39)]) [1,2]),(qi 41 (.call 202 [.v 37,.v 40]) [0,3]),(qo (.store 2 (.v 8) (.v 41)) [4,4,0,1,2,3,4])])))) (qk e0 (qr [(ym 27 10),(yc 28 .add 27 (qz 1) [0]),(yn 10 28 [1,0,1])]))))))))))) (qk e1 (qr [(ym 23 9),(yc 24 .add 23 (qz 1) [0]),(yn 9 24 [1,0,1])])))))))))) (qk [6,8] (qs (qr [(qp 42 (qt 2 8)),(qo (.store 2 (.v 6) (.v 42)) [0,0])]) (qk [6] .ret)))))))))))) y)=>y
 dsimp
theorem fn204:factOf Tryz.prog 204=some (ac204.strip,[.cell 6 true 2],43):=by kernel_rfl
theorem ok204:ac204.okAll=true:=by kernel_rfl
def ac205:AC:=by
 apply fun (y:AC) (_:@Eq AC (let e0:=[2,0,1,2];(qk [0,1,2] (qs (qr [(qp 6 (.mov (qz 0)))]) (qk [0,1,2] (qs (qs (qr [(ym 11 0)]) (qk [1,2,11] (.block 0 (qs (qr [(qp 13 (qc .eql 11 (qz 5))),(yn 12 13 [0])]) (qk [1,2,11,12] (qq (.v 12) (qs (qr [(ym 14 1),(ym 15 2),(yb 16 .add 14 15 [0,1]),(yn 6 16 e0)]) (qk [6] .ret)) (qs (qr [(qp 18 (qc .eql 11 (qz 6))),(yn 17 18 [0])]) (qk [1,2,11,17] (qq (.v 17) (qs (qr [(ym 19 1),(ym 20 2),(yb 21 .sub 19 20 [0,1]),(yn 6 21 e0)]) (qk [6] .ret)) (qs (qr [(qp 23 (qc .eql 11 (qz 7))),(yn 22 23 [0])]) (qk [1,2,11,22] (qq (.v 22) (qs (qr [(ym 25 1),(ym 26 2),(qi 27 (.call 206 [.v 25,.v 26]) [0,1]),(yn 24 27 [2]),(qi 28 (.ext (.v 24) 0) [3]),(qi 29 (.ext (.v 24) 1) [3]),(yn 7 28 [4,2,0,1,2,3,4]),(yn 8 29 [5,6,0,1,2,3,4,5,6])]) (qk [7] (qs (qr [(ym 30 7),(yn 6 30 [0,0])]) (qk [6] .ret)))) (qs (qr [(qp 32 (qc .eql 11 (qz 8))),(yn 31 32 [0])]) (qk [1,2,11,31] (qq (.v 31) (qs (qr [(ym 33 1),(qi 34 (.un .neg (.v 33)) [0]),(yn 6 34 [1,0,1])]) (qk [6] .ret)) (qs (qr [(qp 36 (qc .eql 11 (qz 9))),(yn 35 36 [0])]) (qk [1,2,11,35] (qq (.v 35) (qs (qr [(ym 37 1),(ym 38 2),(qi 39 (.mm false (.v 37) (.v 38)) [0,1]),(yn 6 39 e0)]) (qk [6] .ret)) (qs (qr [(qp 41 (qc .eql 11 (qz 10))),(yn 40 41 [0])]) (qk [1,2,40] (qq (.v 40) (qs (qr [(ym 42 1),(ym 43 2),(qi 44 (.mm true (.v 42) (.v 43)) [0,1]),(yn 6 44 e0)]) (qk [6] .ret)) .skip))))))))))))))))))))) (qk [1] (qs (qr [(ym 46 1),(qi 47 (.call 84 [.v 46,.c (.int .i64 64)]) [0]),(yn 45 47 [1]),(qi 48 (.ext (.v 45) 0) [2]),(qi 49 (.ext (.v 45) 1) [2]),(yn 9 48 [3,1,0,1,2,3]),(yn 10 49 [4,5,0,1,2,3,4,5])]) (qk [9] (qs (qr [(ym 50 9),(qi 51 (.bin .mul (qz 64) (.v 50)) [0]),(yn 6 51 [1,0,1])]) (qk [6] .ret)))))))))) y)=>y
 dsimp
theorem fn205:factOf Tryz.prog 205=some (ac205.strip,[.tmp 6],52):=by kernel_rfl
theorem ok205:ac205.okAll=true:=by kernel_rfl
def ac206:AC:=by
 apply fun (y:AC) (_:@Eq AC (qk [0,1] (qs (qr [(qp 4 (.mov (qz 0))),(qi 5 (.mov (.c (.bool false))) [0])]) (qk [0,1] (qs (qs (qr [(ym 6 0),(qi 7 (.call 120 [.v 6]) [0]),(qi 8 (.un .not (.v 7)) [1]),(yn 9 8 [2,1]),(qg 10 (qm 1) 9 false [3]),(qg 11 (.call 120 [.v 10]) 9 false [4,3,3]),(qg 12 (.un .not (.v 11)) 9 false [5,3]),(qi 13 (.pick (.v 9) (.c (.bool true)) (.v 12)) [3,6])]) (qk [0,1,13] (qq (.v 13) (qs (qr [(qp 4 (.mov (qz 0))),(qi 5 (.mov (.c (.bool false))) [0,0])]) (qk [4,5] .ret)) .skip))) (qk [0,1] (qs (qr [(ym 14 0),(ym 15 1),(yb 16 .mul 14 15 [0,1]),(qi 17 (.call 84 [.v 16,.c (.int .i64 64)]) [2]),(qi 18 (.ext (.v 17) 0) [3]),(qi 19 (.ext (.v 17) 1) [3]),(yn 4 18 [4,3,0,1,2,3,4,5]),(yn 5 19 [5,6,0,1,2,3,4,5,6])]) (qk [4,5] .ret))))))) y)=>y
 dsimp
theorem fn206:factOf Tryz.prog 206=some (ac206.strip,[.tmp 4,.tmp 5],20):=by kernel_rfl
theorem ok206:ac206.okAll=true:=by kernel_rfl
def xc190d:AC:=by
 apply fun (y:AC) (_:@Eq AC (qs (qr [(ym 56 0),(ym 57 8),(yj 58 2 56 57 [0,1]),(yf 59 0 58 [2]),(yk 60 59 [3]),(yc 61 .eql 60 (qz 25) [4])]) (qk [0,2,7,8,61] (qq (.v 61) (qr [(ym 62 7),(yc 63 .sub 62 (qz 1) [0]),(yn 7 63 [1,0,1])]) .skip))) y)=>y
 dsimp
def xc190c:AC:=by
 apply fun (y:AC) (_:@Eq AC (qs (qs (qr [(ym 33 7),(yc 34 .eql 33 (qz 0) [0]),(yn 35 34 [1]),(qg 36 (qm 0) 35 true [2]),(qg 37 (qm 8) 35 true [2]),(qg 38 (qj 2 36 37) 35 true [3,4,2]),(qg 39 (qf 0 38) 35 true [5,2]),(qg 40 (ql 39) 35 true [6,2]),(qg 41 (qc .eql 40 (qz 25)) 35 true [7,2]),(qg 42 (qm 41) 35 true [8,2,2]),(qg 43 (qm 0) 42 false [9]),(qg 44 (qm 8) 42 false [9]),(qg 45 (qj 2 43 44) 42 false [10,11,9]),(qg 46 (qf 0 45) 42 false [12,9]),(qg 47 (ql 46) 42 false [13,9]),(qg 48 (qc .eql 47 (qz 24)) 42 false [14,9]),(qg 49 (qm 48) 42 false [15,9,9]),(qg 50 (qm 2) 49 true [16]),(qg 51 (.un .not (.v 50)) 49 true [17,16]),(qg 52 (.pick (.v 49) (.v 51) (.c (.bool false))) 42 false [16,18,9]),(qg 53 (.pick (.v 42) (.c (.bool true)) (.v 52)) 35 true [9,19,2]),(qi 54 (.pick (.v 35) (.v 53) (.c (.bool false))) [2,20])]) (qk [0,2,7,8,54] (qq (.v 54) (qs (qr [(ym 55 8),(yn 6 55 [0,0])]) (qk [6] .ret)) .skip))) (qk [0,2,7,8] xc190d)) y)=>y
 dsimp
def xc190b:AC:=by
 apply fun (y:AC) (_:@Eq AC (qs (.block 1 (qs (qs (qr [(ym 17 0),(ym 18 8),(yj 19 2 17 18 [0,1]),(yf 20 0 19 [2]),(yk 21 20 [3]),(yc 22 .eql 21 (qz 23) [4]),(yn 23 22 [5]),(qg 24 (qm 0) 23 false [6]),(qg 25 (qm 8) 23 false [6]),(qg 26 (qj 2 24 25) 23 false [7,8,6]),(qg 27 (qf 0 26) 23 false [9,6]),(qg 28 (ql 27) 23 false [10,6]),(qg 29 (qc .eql 28 (qz 26)) 23 false [11,6]),(qi 30 (.pick (.v 23) (.c (.bool true)) (.v 29)) [6,12])]) (qk [0,2,7,8,30] (qq (.v 30) (qr [(ym 31 7),(yc 32 .add 31 (qz 1) [0]),(yn 7 32 [1,0,1])]) .skip))) (qk [0,2,7,8] xc190c))) (qk [0,2,7,8] (qr [(ym 15 8),(yc 16 .add 15 (qz 1) [0]),(yn 8 16 [1,0,1])]))) y)=>y
 dsimp
def ac190:AC:=by
 apply fun (y:AC) (_:@Eq AC (qk [0,1,2] (qs (qr [(qp 6 (.mov (qz 0)))]) (qk [0,1,2] (qs (qr [(qp 7 (.mov (qz 0)))]) (qk [0,1,2,7] (qs (qs (qr [(ym 9 1),(yc 10 .add 9 (qz 1) [0]),(yn 8 10 [1,0,1])]) (qk [0,2,7,8] (.block 0 (.loop (qk [0,2,7,8] (qs (qs (qr [(ym 11 8),(ym 12 0),(yh 13 12 [1]),(yb 14 .lss 11 13 [0,2])]) (qk [0,2,7,8,14] (qq (.v 14) .skip (.exit 0)))) (qk [0,2,7,8] xc190b))))))) (qk [0] (qs (qr [(ym 64 0),(yh 65 64 [0]),(yn 6 65 [1,0,1])]) (qk [6] .ret))))))))) y)=>y
 dsimp
theorem fn190:factOf Tryz.prog 190=some (ac190.strip,[.tmp 6],66):=by kernel_rfl
theorem ok190:ac190.okAll=true:=by kernel_rfl
end
section
def smallB (n:Int):Bool:=decide (-1048576≤n) && decide (n≤1048576)
def SO (a:Int×Int):Prop:=-1048576≤a.1∧a.1≤a.2∧a.2≤1048576
theorem b186 (a b:Int):Best Tryz.prog 186 [.agg [.int .i64 a,.int .i64 b]] (.p (.bool (smallB a && smallB b))):=by
 refine best mixed fn186 ok186 (by simp) ?_
 simp -dsimp [ac186]
 refine call_p (b120 a) (by simp) (by simp) ?_
 by_cases h:smallB a=true
 ·have h':=h
  unfold smallB at h'
  simp -dsimp [h']
  refine call_p (b120 b) (by simp) (by simp) ?_
  simp -dsimp [h]
  rfl
 ·have h0:smallB a=false:=by simpa using h
  have h':=h0
  unfold smallB at h'
  simp -dsimp [h',h0]
theorem b165 (a b:Int):Best Tryz.prog 165 [.agg [.int .i64 a,.int .i64 b]] (.p (.bool (decide (4≤a) && decide (a≤b) && decide (b≤32)))):=by
 refine best mixed fn165 ok165 (by simp) ?_
 by_cases h1:4≤a<;>by_cases h2:a≤b<;>by_cases h3:b≤32<;>simp -dsimp [ac165,h1,h2,h3]
theorem b202 (a b c d:Int):Best Tryz.prog 202 [.agg [.int .i64 a,.int .i64 b],.agg [.int .i64 c,.int .i64 d]] (.p (.agg [.int .i64 (min a c),.int .i64 (max b d)])):=by
 refine best mixed fn202 ok202 (by simp) ?_
 simp -dsimp [ac202]
theorem b203 (a b c d:Int):∃ x:Int×Int,SO x∧Best Tryz.prog 203 [.agg [.int .i64 a,.int .i64 b],.agg [.int .i64 c,.int .i64 d]] (.p (.agg [.int .i64 x.1,.int .i64 x.2])):=by
 obtain ⟨v,⟨x,rfl,hx⟩,h⟩:=bestE (Q:=fun v=>∃ x:Int×Int,v=.agg [.int .i64 x.1,.int .i64 x.2]∧SO x) mixed fn203 ok203 (args:=[.agg [.int .i64 a,.int .i64 b],.agg [.int .i64 c,.int .i64 d]]) (by simp) (by
  by_cases h1:b<c
  ·simp -dsimp [ac203,h1,retE]
   exact ⟨1,1,by simp [SO]⟩
  ·by_cases h2:d≤a
   ·simp -dsimp [ac203,h1,h2,retE]
    exact ⟨0,0,by simp [SO]⟩
   ·simp -dsimp [ac203,h1,h2,retE]
    exact ⟨0,1,by simp [SO]⟩)
 exact ⟨x,hx,h⟩
theorem w11:IntKind.i64.wrap 1=1:=wr ⟨by omega,by omega⟩
theorem w12:IntKind.i64.wrap 2=2:=wr ⟨by omega,by omega⟩
theorem abs_le_mul (a b:Int) (ha:-1048576≤a∧a≤1048576) (hb:-1048576≤b∧b≤1048576):-1099511627776≤a*b∧a*b≤1099511627776:=by
 have h:(a*b).natAbs≤1048576*1048576:=by
  rw [Int.natAbs_mul]
  exact Nat.mul_le_mul (by omega) (by omega)
 omega
theorem b206 {a b:Int} (ha:-1048576≤a∧a≤1048576) (hb:-1048576≤b∧b≤1048576):∃ v:Int,Best Tryz.prog 206 [.int .i64 a,.int .i64 b] (.p (.tup [.int .i64 v,.bool true])):=by
 refine ⟨roundS (a*b) 64,best mixed fn206 ok206 (by simp) ?_⟩
 have h1:-1099511627776≤a*b∧a*b≤1099511627776:=by
  have h:=abs_le_mul a b ha hb
  omega
 have w:R (a*b):=⟨by omega,by omega⟩
 simp -dsimp [ac206]
 refine call_p (b120 a) (by simp) (by simp) ?_
 simp -dsimp [ha.1,ha.2]
 refine call_p (b120 b) (by simp) (by simp) ?_
 simp -dsimp [hb.1,hb.2,wr w]
 refine call_p (b84 (n:=a*b) (d:=64) w (by omega) ⟨by omega,by omega⟩) (by simp) (by simp) ?_
 simp -dsimp
theorem b205 (op:Int) {a b:Int} (ha:-1048576≤a∧a≤1048576) (hb:-1048576≤b∧b≤1048576):∃ v:Int,Best Tryz.prog 205 [.int .i64 op,.int .i64 a,.int .i64 b] (.p (.int .i64 v)):=by
 obtain ⟨v,⟨x,rfl⟩,h⟩:=bestE (Q:=fun v=>∃ x:Int,v=.int .i64 x) mixed fn205 ok205 (args:=[.int .i64 op,.int .i64 a,.int .i64 b]) (by simp) (by
  by_cases h5:op=5
  ·simp -dsimp [ac205,h5,retE]
  ·by_cases h6:op=6
   ·simp -dsimp [ac205,h6,retE]
   ·by_cases h7:op=7
    ·obtain ⟨v,q⟩:=b206 ha hb
     simp -dsimp [ac205,h7]
     refine call_p q (by simp) (by simp) ?_
     simp -dsimp [retE]
    ·by_cases h8:op=8
     ·simp -dsimp [ac205,h8,retE]
     ·by_cases h9:op=9
      ·simp -dsimp [ac205,h9,retE]
      ·by_cases h10:op=10
       ·simp -dsimp [ac205,h10,retE]
       ·simp -dsimp [ac205,h5,h6,h7,h8,h9,h10]
        refine call_p (b84 (n:=a) (d:=64) ⟨by omega,by omega⟩ (by omega) ⟨by omega,by omega⟩) (by simp) (by simp) ?_
        simp -dsimp [retE])
 exact ⟨x,h⟩
theorem b204 (op:Int) {a b:Int×Int} (ha:SO a) (hb:SO b):∃ x:Int×Int,x.1≤x.2∧Best Tryz.prog 204 [.int .i64 op,.agg [.int .i64 a.1,.int .i64 a.2],.agg [.int .i64 b.1,.int .i64 b.2]] (.p (.agg [.int .i64 x.1,.int .i64 x.2])):=by
 obtain ⟨a1,a2⟩:=a
 obtain ⟨c1,c2⟩:=b
 obtain ⟨ha1,ha2,ha3⟩:=ha
 obtain ⟨hb1,hb2,hb3⟩:=hb
 dsimp only at *
 obtain ⟨v,⟨x,rfl,hx⟩,h⟩:=bestE (Q:=fun v=>∃ x:Int×Int,v=.agg [.int .i64 x.1,.int .i64 x.2]∧x.1≤x.2) mixed fn204 ok204 (args:=[.int .i64 op,.agg [.int .i64 a1,.int .i64 a2],.agg [.int .i64 c1,.int .i64 c2]]) (by simp) (by
  simp -dsimp [ac204]
  obtain ⟨v,q⟩:=b205 op (a:=a1) (b:=c1) (by omega) (by omega)
  refine call_p q (by simp) (by simp) ?_
  simp -dsimp
  refine loopE 2 (fun k (y:Int×Int)=>⟨[(0,.p (.int .i64 op)),(4,.ptr (4,0) 2 0 0),(5,.ptr (5,0) 2 0 0),(6,.ptr (6,0) 2 0 0),(8,.ptr (8,0) 2 0 0),(9,.p (.int .i64 k))],[((4,0),.box [.p (.int .i64 a1),.p (.int .i64 a2)]),((5,0),.box [.p (.int .i64 c1),.p (.int .i64 c2)]),((6,0),.box [.p (.int .i64 0),.p (.int .i64 0)]),((8,0),.box [.p (.int .i64 y.1),.p (.int .i64 y.2)])]⟩) (fun k y=>y.1≤y.2) (v,v) (fun k y hk hQ=>?_) (by simp) (by simp)
  obtain ⟨y1,y2⟩:=y
  dsimp only at hQ
  by_cases h:k<2
  ·have h':(k:Int)<2:=by omega
   have wk:R ((k:Int)+1):=⟨by omega,by omega⟩
   simp -dsimp [h']
   refine loopE 2 (fun j (y:Int×Int)=>⟨[(0,.p (.int .i64 op)),(4,.ptr (4,0) 2 0 0),(5,.ptr (5,0) 2 0 0),(6,.ptr (6,0) 2 0 0),(8,.ptr (8,0) 2 0 0),(9,.p (.int .i64 k)),(10,.p (.int .i64 j))],[((4,0),.box [.p (.int .i64 a1),.p (.int .i64 a2)]),((5,0),.box [.p (.int .i64 c1),.p (.int .i64 c2)]),((6,0),.box [.p (.int .i64 0),.p (.int .i64 0)]),((8,0),.box [.p (.int .i64 y.1),.p (.int .i64 y.2)])]⟩) (fun j y=>y.1≤y.2) (y1,y2) (fun j y hj hQ=>?_) hQ (by simp)
   obtain ⟨z1,z2⟩:=y
   dsimp only at hQ
   by_cases g:j<2
   ·have g':(j:Int)<2:=by omega
    have wj:R ((j:Int)+1):=⟨by omega,by omega⟩
    have hk2:k=0∨k=1:=by omega
    have hj2:j=0∨j=1:=by omega
    rcases hk2 with rfl | rfl<;>rcases hj2 with rfl | rfl
    ·obtain ⟨v,q⟩:=b205 op (a:=a1) (b:=c1) (by omega) (by omega)
     simp -dsimp
     refine call_p q (by simp) (by simp) ?_
     simp -dsimp
     refine call_p (b202 z1 z2 v v) (by simp) (by simp) ?_
     simp -dsimp
     exact ⟨min z1 v,max z2 v,by omega,by simp [w11,w12]⟩
    ·obtain ⟨v,q⟩:=b205 op (a:=a1) (b:=c2) (by omega) (by omega)
     simp -dsimp
     refine call_p q (by simp) (by simp) ?_
     simp -dsimp
     refine call_p (b202 z1 z2 v v) (by simp) (by simp) ?_
     simp -dsimp
     exact ⟨min z1 v,max z2 v,by omega,by simp [w11,w12]⟩
    ·obtain ⟨v,q⟩:=b205 op (a:=a2) (b:=c1) (by omega) (by omega)
     simp -dsimp
     refine call_p q (by simp) (by simp) ?_
     simp -dsimp
     refine call_p (b202 z1 z2 v v) (by simp) (by simp) ?_
     simp -dsimp
     exact ⟨min z1 v,max z2 v,by omega,by simp [w11,w12]⟩
    ·obtain ⟨v,q⟩:=b205 op (a:=a2) (b:=c2) (by omega) (by omega)
     simp -dsimp
     refine call_p q (by simp) (by simp) ?_
     simp -dsimp
     refine call_p (b202 z1 z2 v v) (by simp) (by simp) ?_
     simp -dsimp
     exact ⟨min z1 v,max z2 v,by omega,by simp [w11,w12]⟩
   ·have g':¬(j:Int)<2:=by omega
    simp -dsimp [g',wr wk,h]
    omega
  ·have h':¬(k:Int)<2:=by omega
   simp -dsimp [h',retE]
   exact ⟨y1,y2,⟨rfl,rfl⟩,hQ⟩)
 exact ⟨x,hx,h⟩
end
section
set_option maxHeartbeats 2000000
def InsOk (axes points:Nat) (x:Int×Int):Prop:=1≤x.1∧x.1≤26∧(x.1=1→-1048576≤x.2∧x.2≤1048576)∧(x.1=14→0≤x.2∧x.2<axes)∧(15≤x.1∧x.1≤18→0≤x.2∧x.2<points)∧(x.1=21∨x.1=22→0≤x.2∧x.2<8)∧(x.1=26→1≤x.2∧x.2≤8)
theorem b187 (a n:Int) (axes points:Nat):∃ v:Int,(v=0→InsOk axes points (a,n))∧Best Tryz.prog 187 [.agg [.int .i64 a,.int .i64 n],.int .i64 axes,.int .i64 points] (.p (.int .i64 v)):=by
 obtain ⟨v,⟨x,rfl,hx⟩,h⟩:=bestE (Q:=fun v=>∃ x:Int,v=.int .i64 x∧(x=0→InsOk axes points (a,n))) mixed fn187 ok187 (args:=[.agg [.int .i64 a,.int .i64 n],.int .i64 axes,.int .i64 points]) (by simp) (by
  simp -dsimp [ac187]
  refine call_p (b120 n) (by simp) (by simp) ?_
  have rng:∀ lo hi:Int,¬(n<lo∨(¬n<lo∧hi≤n))→lo≤n∧n<hi:=fun lo hi h=>by omega
  by_cases c1:a=1
  ·by_cases g1:-1048576≤n<;>by_cases g2:n≤1048576<;>simp -dsimp [c1,g1,g2,retE,InsOk]
  ·by_cases c2:a=14
   ·by_cases g1:n<0
    ·simp -dsimp [c2,g1,retE]
    ·by_cases g2:(axes:Int)≤n
     ·simp -dsimp [c2,g1,g2,retE]
     ·simp -dsimp [c2,g1,g2,retE]
      unfold InsOk;dsimp only;omega
   ·by_cases c3:a=15∨a=16∨a=17∨a=18
    ·rcases c3 with rfl | rfl | rfl | rfl
     all_goals
      by_cases g1:n<0
      ·simp -dsimp [g1,retE]
      ·by_cases g2:(points:Int)≤n
       ·simp -dsimp [g1,g2,retE]
       ·simp -dsimp [g1,g2,retE]
        unfold InsOk;dsimp only;omega
    ·obtain ⟨d1,d2,d3,d4⟩:a≠15∧a≠16∧a≠17∧a≠18:=by omega
     by_cases c4:a=21∨a=22
     ·rcases c4 with rfl | rfl
      all_goals
       by_cases g1:n<0
       ·simp -dsimp [g1,retE]
       ·by_cases g2:(8:Int)≤n
        ·simp -dsimp [g1,g2,retE]
        ·simp -dsimp [g1,g2,retE]
         unfold InsOk;dsimp only;omega
     ·obtain ⟨d5,d6⟩:a≠21∧a≠22:=by omega
      by_cases c5:a=26
      ·by_cases g1:n<1
       ·simp -dsimp [c5,g1,retE]
       ·by_cases g2:(8:Int)<n
        ·simp -dsimp [c5,g1,g2,retE]
        ·simp -dsimp [c5,g1,g2,retE]
         unfold InsOk;dsimp only;omega
      ·by_cases g1:a<1
       ·simp -dsimp [c1,c2,d1,d2,d3,d4,d5,d6,c5,g1,retE]
       ·by_cases g2:(26:Int)<a
        ·simp -dsimp [c1,c2,d1,d2,d3,d4,d5,d6,c5,g1,g2,retE]
        ·by_cases g3:n=0
         ·simp -dsimp [c1,c2,d1,d2,d3,d4,d5,d6,c5,g1,g2,g3,retE]
          unfold InsOk;dsimp only;omega
         ·simp -dsimp [c1,c2,d1,d2,d3,d4,d5,d6,c5,g1,g2,g3,retE])
 exact ⟨x,hx,h⟩
end
section
set_option maxHeartbeats 2000000
theorem b190 (p:List (Int×Int)) (hp:p.length≤1000) (a:Nat) (ha:a<p.length) (e:Bool):∃ v:Nat,a+1≤v∧v≤p.length∧Best Tryz.prog 190 [.sl 2 (p.map mvRow),.int .i64 a,.bool e] (.p (.int .i64 v)):=by
 obtain ⟨v,⟨x,rfl,hx⟩,h⟩:=bestE (Q:=fun v=>∃ x:Nat,v=.int .i64 x∧a+1≤x∧x≤p.length) mixed fn190 ok190 (args:=[.sl 2 (p.map mvRow),.int .i64 a,.bool e]) (by simp) (by
  have w0:R ((a:Int)+1):=⟨by omega,by omega⟩
  simp -dsimp [ac190,wr w0]
  refine loopE (p.length - (a+1)) (fun k (d:Int)=>⟨[(0,.p (.sl 2 (p.map mvRow))),(2,.p (.bool e)),(7,.p (.int .i64 d)),(8,.p (.int .i64 ((a+1+k:Nat))))],[]⟩) (fun _ _=>True) 0 (fun k d hk _=>?_) trivial (by simp)
  obtain ⟨q,eq⟩:∃ q,a+1+k=q:=⟨_,rfl⟩
  dsimp only
  rw [eq]
  by_cases h:q<p.length
  ·obtain ⟨⟨o,n⟩,ex⟩:∃ x,p[q]=x:=⟨_,rfl⟩
   have h':(q:Int)<p.length:=by omega
   have w:R ((q:Int)+1):=⟨by omega,by omega⟩
   by_cases c23:o=23
   ·by_cases hd:IntKind.i64.wrap (d+1)=0
    ·simp -dsimp [xc190b,xc190c,xc190d,h,ex,mvRow,c23,hd,wr w]
     omega
    ·simp -dsimp [xc190b,xc190c,xc190d,h,ex,mvRow,c23,hd,wr w]
     omega
   ·by_cases c26:o=26
    ·by_cases hd:IntKind.i64.wrap (d+1)=0
     ·simp -dsimp [xc190b,xc190c,xc190d,h,ex,mvRow,c26,hd,wr w]
      omega
     ·simp -dsimp [xc190b,xc190c,xc190d,h,ex,mvRow,c26,hd,wr w]
      omega
    ·by_cases c25:o=25
     ·by_cases hd:d=0
      ·simp -dsimp [xc190b,xc190c,xc190d,h,ex,mvRow,c25,hd,wr w,retE]
       exact ⟨by omega,by omega⟩
      ·simp -dsimp [xc190b,xc190c,xc190d,h,ex,mvRow,c25,hd,wr w]
       omega
     ·by_cases c24:o=24
      ·by_cases hd:d=0
       ·cases e with
        | true=>
         simp -dsimp [xc190b,xc190c,xc190d,h,ex,mvRow,c24,hd,wr w]
         omega
        | false=>
         simp -dsimp [xc190b,xc190c,xc190d,h,ex,mvRow,c24,hd,wr w,retE]
         exact ⟨by omega,by omega⟩
       ·simp -dsimp [xc190b,xc190c,xc190d,h,ex,mvRow,c24,hd,wr w]
        omega
      ·by_cases hd:d=0
       ·simp -dsimp [xc190b,xc190c,xc190d,h,ex,mvRow,c23,c24,c25,c26,hd,wr w]
        omega
       ·simp -dsimp [xc190b,xc190c,xc190d,h,ex,mvRow,c23,c24,c25,c26,hd,wr w]
        omega
  ·simp -dsimp [h,retE]
   first | exact ⟨p.length,rfl,by omega,by omega⟩ | exact ⟨p.length,⟨rfl,by omega,by omega⟩⟩ | exact ⟨by omega,by omega⟩)
 exact ⟨x,hx.1,hx.2,h⟩
theorem b195 (p:List (Int×Int)) (hp:p.length≤1000) (a:Nat) (ha:a≤p.length):∃ v:Int,-1≤v∧v<a∧Best Tryz.prog 195 [.sl 2 (p.map mvRow),.int .i64 a] (.p (.int .i64 v)):=by
 obtain ⟨v,⟨x,rfl,hx⟩,h⟩:=bestE (Q:=fun v=>∃ x:Int,v=.int .i64 x∧-1≤x∧x<a) mixed fn195 ok195 (args:=[.sl 2 (p.map mvRow),.int .i64 a]) (by simp) (by
  have w0:R ((a:Int) - 1):=⟨by omega,by omega⟩
  simp -dsimp [ac195,wr w0]
  refine loopE a (fun k (d:Int)=>⟨[(0,.p (.sl 2 (p.map mvRow))),(5,.p (.int .i64 d)),(6,.p (.int .i64 ((a:Int) - 1 - k)))],[]⟩) (fun _ _=>True) 0 (fun k d hk _=>?_) trivial (by simp)
  by_cases h:k<a
  ·obtain ⟨q,eq⟩:∃ q:Nat,(a:Int) - 1 - k=q:=⟨a - 1 - k,by omega⟩
   dsimp only
   rw [eq]
   have hq:q<p.length:=by omega
   obtain ⟨⟨o,n⟩,ex⟩:∃ x,p[q]=x:=⟨_,rfl⟩
   have hq':(0:Int)≤q:=by omega
   have w:R ((q:Int) - 1):=⟨by omega,by omega⟩
   have e1:(a:Int) - 1 - (k+1)=q - 1:=by omega
   by_cases c25:o=25
   ·simp -dsimp [hq,hq',ex,mvRow,c25,wr w,h]
    omega
   ·by_cases c23:o=23
    ·by_cases hd:d=0
     ·simp -dsimp [hq,hq',ex,mvRow,c23,hd,wr w,h,retE]
      omega
     ·simp -dsimp [hq,hq',ex,mvRow,c23,hd,wr w,h]
      omega
    ·by_cases c26:o=26
     ·by_cases hd:d=0
      ·simp -dsimp [hq,hq',ex,mvRow,c26,hd,wr w,h,retE]
       omega
      ·simp -dsimp [hq,hq',ex,mvRow,c26,hd,wr w,h]
       omega
     ·simp -dsimp [hq,hq',ex,mvRow,c23,c25,c26,wr w,h]
      omega
  ·have:k=a:=by omega
   subst this
   have h':¬(0:Int)≤(k:Int) - 1 - k:=by omega
   simp -dsimp [h',retE]
   omega)
 exact ⟨x,hx.1,hx.2,h⟩
end
section
set_option maxHeartbeats 2000000
theorem b188 (p:List (Int×Int)) (hp:p.length≤1000):∃ b:Bool,Best Tryz.prog 188 [.sl 2 (p.map mvRow)] (.p (.bool b)):=by
 obtain ⟨v,⟨x,rfl⟩,h⟩:=bestE (Q:=fun v=>∃ x:Bool,v=.bool x) mixed fn188 ok188 (args:=[.sl 2 (p.map mvRow)]) (by simp) (by
  simp -dsimp [ac188]
  refine loopE p.length (fun k (_:Unit)=>⟨[(0,.p (.sl 2 (p.map mvRow))),(3,.p (.int .i64 k))],[]⟩) (fun _ _=>True) () (fun k d hk _=>?_) trivial (by simp)
  by_cases h:k<p.length
  ·obtain ⟨⟨o,n⟩,ex⟩:∃ x,p[k]=x:=⟨_,rfl⟩
   have w:R ((k:Int)+1):=⟨by omega,by omega⟩
   obtain ⟨v,v1,v2,q⟩:=b195 p hp k hk
   have fin:k<p.length∧∃ (_:Unit),True:=⟨h,(),trivial⟩
   simp -dsimp [h]
   refine call_p q (by simp) (by simp) ?_
   by_cases c1:o=23∨o=26
   ·obtain ⟨z,z1,z2,r⟩:=b190 p hp k h true
    rcases c1 with rfl | rfl
    ·simp -dsimp [ex,mvRow,h]
     refine call_p r (by simp) (by simp) ?_
     by_cases hz:(z:Int)=p.length<;>simp -dsimp [hz,retE,wr w,h]
    ·simp -dsimp [ex,mvRow,h]
     refine call_p r (by simp) (by simp) ?_
     by_cases hz:(z:Int)=p.length<;>simp -dsimp [hz,retE,wr w,h]
   ·obtain ⟨c2,c3⟩:o≠23∧o≠26:=by omega
    by_cases c4:o=25
    ·by_cases hv:v<0<;>simp -dsimp [ex,mvRow,h,c4,hv,retE,wr w]
    ·by_cases c5:o=24
     ·by_cases hv:v<0
      ·simp -dsimp [ex,mvRow,h,c5,hv,retE,wr w]
      ·obtain ⟨u,eu⟩:∃ u:Nat,v=u:=⟨v.toNat,by omega⟩
       subst eu
       have hu:u<p.length:=by omega
       obtain ⟨⟨o2,n2⟩,ex2⟩:∃ x,p[u]=x:=⟨_,rfl⟩
       by_cases c6:o2=23
       ·obtain ⟨z,z1,z2,r⟩:=b190 p hp u hu false
        simp -dsimp [ex,ex2,mvRow,h,c5,c6,hu,hv]
        refine call_p r (by simp) (by simp) ?_
        by_cases hz:(z:Int)=k<;>simp -dsimp [hz,retE,wr w,h]
       ·simp -dsimp [ex,ex2,mvRow,h,c5,c6,hu,hv,retE]
     ·simp -dsimp [ex,mvRow,h,c2,c3,c4,c5,wr w]
  ·simp -dsimp [h,retE])
 exact ⟨x,h⟩
theorem b168 (p:List (Int×Int)) (hp:p.length≤1000) (axes points:Nat):∃ v:Int,(v=0→p.length≤60∧axes≤3∧points≤40∧∀ x∈p,InsOk axes points x)∧Best Tryz.prog 168 [.sl 2 (p.map mvRow),.int .i64 axes,.int .i64 points] (.p (.int .i64 v)):=by
 obtain ⟨v,⟨x,rfl,hx⟩,h⟩:=bestE (Q:=fun v=>∃ x:Int,v=.int .i64 x∧(x=0→p.length≤60∧axes≤3∧points≤40∧∀ x∈p,InsOk axes points x)) mixed fn168 ok168 (args:=[.sl 2 (p.map mvRow),.int .i64 axes,.int .i64 points]) (by simp) (by
  have n1:¬(axes:Int)<0:=by omega
  have n2:¬(points:Int)<0:=by omega
  by_cases g1:(3:Int)<axes
  ·simp -dsimp [ac168,n1,g1,retE]
  ·by_cases g2:(40:Int)<points
   ·simp -dsimp [ac168,n1,n2,g1,g2,retE]
   ·by_cases g3:(60:Int)<p.length
    ·simp -dsimp [ac168,n1,n2,g1,g2,g3,retE]
    ·simp -dsimp [ac168,n1,n2,g1,g2,g3]
     refine loopE p.length (fun k (_:Unit)=>⟨[(0,.p (.sl 2 (p.map mvRow))),(1,.p (.int .i64 axes)),(2,.p (.int .i64 points)),(7,.p (.int .i64 k))],[]⟩) (fun k _=>∀ x∈p.take k,InsOk axes points x) () (fun k d hk hQ=>?_) (by simp) (by simp)
     by_cases h:k<p.length
     ·obtain ⟨⟨o,n⟩,ex⟩:∃ x,p[k]=x:=⟨_,rfl⟩
      have w:R ((k:Int)+1):=⟨by omega,by omega⟩
      obtain ⟨v,hv,q⟩:=b187 o n axes points
      simp -dsimp [h,ex,mvRow]
      refine call_p q (by simp) (by simp) ?_
      by_cases hz:v=0
      ·have hi:=hv hz
       simp -dsimp [hz,wr w,h]
       intro a b hx
       rw [List.take_add_one,List.getElem?_eq_getElem h,ex] at hx
       rcases List.mem_append.1 hx with g | g
       ·exact hQ _ g
       ·have:(a,b)=(o,n):=by simpa using g
        rw [this];exact hi
      ·simp -dsimp [hz,retE]
     ·have:k=p.length:=by omega
      subst this
      obtain ⟨b,q⟩:=b188 p hp
      rw [List.take_length] at hQ
      simp -dsimp [h]
      refine call_p q (by simp) (by simp) ?_
      cases b
      ·simp -dsimp [retE]
      ·simp -dsimp [retE]
       exact ⟨by omega,by omega,by omega,fun a b hx=>hQ _ hx⟩)
 exact ⟨x,hx,h⟩
end
end Go.Abs.A29
