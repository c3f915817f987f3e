/- A part of the proof: an abstract reading of the model, contracts of functions. -/
import Derived.Test.YtinblgdfhmllnaaGreatC19
import Derived.Test.YtinblgdfhmllnaaGreatProg
set_option linter.unusedVariables false
set_option linter.unusedSimpArgs false
namespace Go.Abs.A29
open Go Go.Abs Go.Proofs
set_option maxRecDepth 100000
set_option linter.unusedVariables false
set_option linter.unusedSimpArgs false
attribute [local simp ↓] awp_skip awp_seq awp_cond awp_block awp_exit awp_ret awp_reg awp_draw awp_ghost awp_loop awp_rfun awpR_nil awpR_cons awpX_nil awpX_0 awpX_1 awpX_2 awpI_eq awpI_t awpI_f awpStep_eq
attribute [local simp] condL_true condL_false condL_dec evDel evV evN evS evA initFr Ghost.app Fr.var Fr.blk Fr.ff FF.val Abs.look Fr.app Fr.erase Fr.noSlot AV.noSlot AV.noSlotL Blk.noSlot Fr.spoken AV.fz AV.fzL Blk.fz binV binI shI binS unV fillA FF.parts FF.vals headO intO boundO lenV scalarEq leavesEq AV.aggc AV.cells FF.read FF.rows AV.one PV.one chunk freshB newS pickV retK evRs evRl evR resOf mkTup mkAgg allP cloOf okP_nil okX_p okX okP addN Del.noSlot Del.owners Rnd reify_p normM insM Fr.back Fr.backV Fr.setPs normV insV
attribute [local simp] renF Fr.trim Blk.trim AV.rn AV.rnL Blk.rn AV.among AV.amongL Blk.among okF retM fixS BIG initFF
attribute [local simp] FF.reify FF.reifyL PV.flat
attribute [local simp] ym yn yl yk yb yc yf yj yh qp qe qi qo qg qa qk qz qm ql qt qf qj qn qb qc qs qr qq qd
section
def ac147:AC:=by
 apply fun (y:AC) (_:@Eq AC (qk [] (qs (qr [(qp 0 (.mov (.c .nsl)))]) (qk [] (qs (qr [(qp 1 (.build [.int .i64 0,.int .i64 0] [(0,1,.c (.int .i64 1)),(1,1,.c (.int .i64 0))])),(qi 2 (.build [.int .i64 0,.int .i64 0,.int .i64 0,.int .i64 0] [(0,1,.c (.int .i64 10)),(1,1,.c (.int .i64 10)),(2,2,.v 1)]) [0]),(qp 3 (.build [.int .i64 0,.int .i64 0] [(0,1,.c (.int .i64 2)),(1,1,.c (.int .i64 0))])),(qi 4 (.build [.int .i64 0,.int .i64 0,.int .i64 0,.int .i64 0] [(0,1,.c (.int .i64 32)),(1,1,.c (.int .i64 32)),(2,2,.v 3)]) [2]),(qp 5 (.build [.int .i64 0,.int .i64 0] [(0,1,.c (.int .i64 4)),(1,1,.c (.int .i64 0))])),(qi 6 (.build [.int .i64 0,.int .i64 0,.int .i64 0,.int .i64 0] [(0,1,.c (.int .i64 33)),(1,1,.c (.int .i64 47)),(2,2,.v 5)]) [4]),(qp 7 (.build [.int .i64 0,.int .i64 0] [(0,1,.c (.int .i64 3)),(1,1,.c (.int .i64 0))])),(qi 8 (.build [.int .i64 0,.int .i64 0,.int .i64 0,.int .i64 0] [(0,1,.c (.int .i64 48)),(1,1,.c (.int .i64 57)),(2,2,.v 7)]) [6]),(qp 9 (.build [.int .i64 0,.int .i64 0] [(0,1,.c (.int .i64 5)),(1,1,.c (.int .i64 1))])),(qi 10 (.build [.int .i64 0,.int .i64 0,.int .i64 0,.int .i64 0] [(0,1,.c (.int .i64 64)),(1,1,.c (.int .i64 95)),(2,2,.v 9)]) [8]),(qp 11 (.build [.int .i64 0,.int .i64 0] [(0,1,.c (.int .i64 6)),(1,1,.c (.int .i64 1))])),(qi 12 (.build [.int .i64 0,.int .i64 0,.int .i64 0,.int .i64 0] [(0,1,.c (.int .i64 96)),(1,1,.c (.int .i64 103)),(2,2,.v 11)]) [10]),(qp 13 (.build [.int .i64 0,.int .i64 0] [(0,1,.c (.int .i64 7)),(1,1,.c (.int .i64 2))])),(qi 14 (.build [.int .i64 0,.int .i64 0,.int .i64 0,.int .i64 0] [(0,1,.c (.int .i64 104)),(1,1,.c (.int .i64 127)),(2,2,.v 13)]) [12]),(qp 15 (.build [.int .i64 0,.int .i64 0] [(0,1,.c (.int .i64 8)),(1,1,.c (.int .i64 2))])),(qi 16 (.build [.int .i64 0,.int .i64 0,.int .i64 0,.int .i64 0] [(0,1,.c (.int .i64 128)),(1,1,.c (.int .i64 143)),(2,2,.v 15)]) [14]),(qp 17 (.build [.int .i64 0,.int .i64 0] [(0,1,.c (.int .i64 6)),(1,1,.c (.int .i64 2))])),(qi 18 (.build [.int .i64 0,.int .i64 0,.int .i64 0,.int .i64 0] [(0,1,.c (.int .i64 144)),(1,1,.c (.int .i64 151)),(2,2,.v 17)]) [16]),(qp 19 (.build [.int .i64 0,.int .i64 0] [(0,1,.c (.int .i64 9)),(1,1,.c (.int .i64 3))])),(qi 20 (.build [.int .i64 0,.int .i64 0,.int .i64 0,.int .i64 0] [(0,1,.c (.int .i64 152)),(1,1,.c (.int .i64 183)),(2,2,.v 19)]) [18]),(qp 21 (.build [.int .i64 0,.int .i64 0] [(0,1,.c (.int .i64 10)),(1,1,.c (.int .i64 3))])),(qi 22 (.build [.int .i64 0,.int .i64 0,.int .i64 0,.int .i64 0] [(0,1,.c (.int .i64 184)),(1,1,.c (.int .i64 184)),(2,2,.v 21)]) [20]),(qp 23 (.build [.int .i64 0,.int .i64 0] [(0,1,.c (.int .i64 11)),(1,1,.c (.int .i64 3))])),(qi 24 (.build [.int .i64 0,.int .i64 0,.int .i64 0,.int .i64 0] [(0,1,.c (.int .i64 185)),(1,1,.c (.int .i64 191)),(2,2,.v 23)]) [22]),(qp 25 (.build [.int .i64 0,.int .i64 0] [(0,1,.c (.int .i64 12)),(1,1,.c (.int .i64 3))])),(qi 26 (.build [.int .i64 0,.int .i64 0,.int .i64 0,.int .i64 0] [(0,1,.c (.int .i64 192)),(1,1,.c (.int .i64 199)),(2,2,.v 25)]) [24]),(qp 27 (.build [.int .i64 0,.int .i64 0] [(0,1,.c (.int .i64 6)),(1,1,.c (.int .i64 3))])),(qi 28 (.build [.int .i64 0,.int .i64 0,.int .i64 0,.int .i64 0] [(0,1,.c (.int .i64 200)),(1,1,.c (.int .i64 207)),(2,2,.v 27)]) [26]),(qp 29 (.build [.int .i64 0,.int .i64 0] [(0,1,.c (.int .i64 13)),(1,1,.c (.int .i64 0))])),(qi 30 (.build [.int .i64 0,.int .i64 0,.int .i64 0,.int .i64 0] [(0,1,.c (.int .i64 240)),(1,1,.c (.int .i64 240)),(2,2,.v 29)]) [28]),(qp 31 (.build [.int .i64 0,.int .i64 0] [(0,1,.c (.int .i64 14)),(1,1,.c (.int .i64 0))])),(qi 32 (.build [.int .i64 0,.int .i64 0,.int .i64 0,.int .i64 0] [(0,1,.c (.int .i64 241)),(1,1,.c (.int .i64 241)),(2,2,.v 31)]) [30]),(qi 33 (.bslice 205 4 16 (List.replicate 64 (.int .i64 0)) [(0,4,.v 2),(4,4,.v 4),(8,4,.v 6),(12,4,.v 8),(16,4,.v 10),(20,4,.v 12),(24,4,.v 14),(28,4,.v 16),(32,4,.v 18),(36,4,.v 20),(40,4,.v 22),(44,4,.v 24),(48,4,.v 26),(52,4,.v 28),(56,4,.v 30),(60,4,.v 32)]) [1,3,5,7,9,11,13,15,17,19,21,23,25,27,29,31]),(yn 0 33 [32,0,1,2,3,4,5,6,7,8,9,10,11,12,13,14,15,16,17,18,19,20,21,22,23,24,25,26,27,28,29,30,31,32])]) (qk [0] .ret))))) y)=>y
 dsimp
theorem fn147:factOf Tryz.prog 147=some (ac147.strip,[.tmp 0],34):=by kernel_rfl
theorem ok147:ac147.okAll=true:=by kernel_rfl
def ac108:AC:=by
 apply fun (y:AC) (_:@Eq AC (let e0:=[0,2,5,6,7];(qk [0] (qs (qr [(qp 2 (.alloc [.int .i64 0,.int .i64 0]))]) (qk [0,2] (qs (qs (qr [(qp 5 (.call 147 [])),(yh 6 5 [0]),(qp 7 (.mov (qz 0)))]) (qk e0 (.block 0 (.loop (qk e0 (qs (qr [(qp 8 (qb .lss 7 6))]) (qk [0,2,5,6,7,8] (qs (qq (.v 8) .skip (.exit 0)) (qk e0 (qs (.block 1 (qs (qr [(qp 9 (qj 4 5 7)),(qi 10 (qt 4 9) [0]),(qp 4 (.alloc [.int .i64 0,.int .i64 0,.int .i64 0,.int .i64 0])),(qo (.store 4 (.v 4) (.v 10)) [2,1,0,1,2])]) (qk [0,2,4,5,6,7] (qs (qr [(ym 11 0),(qp 12 (qf 0 4)),(yk 13 12 [1]),(yb 14 .geq 11 13 [0,2]),(yn 15 14 [3]),(qg 16 (qm 0) 15 true [4]),(qg 17 (qf 1 4) 15 true [4]),(qg 18 (ql 17) 15 true [6,4]),(qg 19 (qb .leq 16 18) 15 true [5,7,4]),(qi 20 (.pick (.v 15) (.v 19) (.c (.bool false))) [4,8])]) (qk [0,2,4,5,6,7,20] (qq (.v 20) (qs (qr [(qp 21 (qf 2 4)),(qi 22 (qt 2 21) [0]),(qo (.store 2 (.v 2) (.v 22)) [1,0,1])]) (qk [2] .ret)) .skip)))))) (qk e0 (qr [(qp 23 (qc .add 7 (qz 1))),(yn 7 23 [0])])))))))))))) (qk [2] (qs (qr [(qp 24 (.build [.int .i64 0,.int .i64 0] [])),(qo (.store 2 (.v 2) (.v 24)) [0,0])]) (qk [2] .ret)))))))) y)=>y
 dsimp
theorem fn108:factOf Tryz.prog 108=some (ac108.strip,[.cell 2 true 2],25):=by kernel_rfl
theorem ok108:ac108.okAll=true:=by kernel_rfl
def ac66:AC:=by
 apply fun (y:AC) (_:@Eq AC (qk [0] (qs (qr [(qp 2 (.mov (qz 0)))]) (qk [0] (qs (qr [(ym 3 0),(qi 4 (.call 108 [.v 3]) [0]),(qi 5 (.field 0 false 1 (.v 4)) [1]),(yn 2 5 [2,1,0,1,2])]) (qk [2] .ret))))) y)=>y
 dsimp
theorem fn66:factOf Tryz.prog 66=some (ac66.strip,[.tmp 2],6):=by kernel_rfl
theorem ok66:ac66.okAll=true:=by kernel_rfl
def ac102:AC:=by
 apply fun (y:AC) (_:@Eq AC (qk [0] (qs (qr [(qp 2 (.mov (.c (.bool false))))]) (qk [0] (qs (qs (qr [(ym 3 0),(qi 4 (.call 66 [.v 3]) [0])]) (qk [4] (.block 0 (qs (qs (qr [(qp 6 (qc .eql 4 (qz 6))),(yn 5 6 [0])]) (qk [4,5] (qq (.v 5) .skip (qs (qr [(qp 7 (qc .eql 4 (qz 10))),(yn 5 7 [0])]) (qk [4,5] (qq (.v 5) .skip (qs (qr [(qp 8 (qc .eql 4 (qz 11))),(yn 5 8 [0])]) (qk [4,5] (qq (.v 5) .skip (qs (qr [(qp 9 (qc .eql 4 (qz 12))),(yn 5 9 [0])]) (qk [4,5] (qq (.v 5) .skip (qs (qr [(qp 10 (qc .eql 4 (qz 13))),(yn 5 10 [0])]) (qk [4,5] (qq (.v 5) .skip (qr [(qp 11 (qc .eql 4 (qz 14))),(yn 5 11 [0])])))))))))))))))) (qk [5] (qq (.v 5) (qs (qr [(qp 2 (.mov (.c (.bool true))))]) (qk [2] .ret)) .skip)))))) (qk [] (qs (qr [(qp 2 (.mov (.c (.bool false))))]) (qk [2] .ret))))))) y)=>y
 dsimp
theorem fn102:factOf Tryz.prog 102=some (ac102.strip,[.tmp 2],12):=by kernel_rfl
theorem ok102:ac102.okAll=true:=by kernel_rfl
def ac125:AC:=by
 apply fun (y:AC) (_:@Eq AC (qk [0] (qs (qr [(qp 2 (.mov (qz 0)))]) (qk [0] (qs (qs (qr [(ym 4 0),(qi 5 (.call 108 [.v 4]) [0]),(qp 3 (.alloc [.int .i64 0,.int .i64 0])),(qo (.store 2 (.v 3) (.v 5)) [2,1,1,0,1,2])]) (qk [3] (.block 0 (qs (qr [(qp 7 (qt 2 3)),(qp 8 (.build [.int .i64 0,.int .i64 0] [(0,1,.c (.int .i64 3)),(1,1,.c (.int .i64 0))])),(qi 9 (.eqs false 2 [(0,1),(1,1)] (.v 7) (.v 8)) [0,1]),(yn 6 9 [2])]) (qk [3,6] (qq (.v 6) (qs (qr [(qp 2 (.mov (qz 3)))]) (qk [2] .ret)) (qs (qr [(qp 11 (qf 1 3)),(yk 12 11 [0]),(yc 13 .eql 12 (qz 2) [1]),(yn 10 13 [2])]) (qk [3,10] (qq (.v 10) (qs (qr [(qp 2 (.mov (qz 2)))]) (qk [2] .ret)) (qs (qr [(qp 15 (qf 1 3)),(yk 16 15 [0]),(yc 17 .gtr 16 (qz 0) [1]),(yn 14 17 [2])]) (qk [14] (qq (.v 14) (qs (qr [(qp 2 (.mov (qz 1)))]) (qk [2] .ret)) .skip)))))))))))) (qk [] (qs (qr [(qp 2 (.mov (qz 0)))]) (qk [2] .ret))))))) y)=>y
 dsimp
theorem fn125:factOf Tryz.prog 125=some (ac125.strip,[.tmp 2],18):=by kernel_rfl
theorem ok125:ac125.okAll=true:=by kernel_rfl
def ac92:AC:=by
 apply fun (y:AC) (_:@Eq AC (qk [0] (qs (qr [(qp 2 (.mov (qz 0)))]) (qk [0] (qs (qr [(ym 3 0),(qi 4 (.call 108 [.v 3]) [0]),(qi 5 (.field 1 false 1 (.v 4)) [1]),(yn 2 5 [2,1,0,1,2])]) (qk [2] .ret))))) y)=>y
 dsimp
theorem fn92:factOf Tryz.prog 92=some (ac92.strip,[.tmp 2],6):=by kernel_rfl
theorem ok92:ac92.okAll=true:=by kernel_rfl
def ac91:AC:=by
 apply fun (y:AC) (_:@Eq AC (qk [0] (qs (qr [(qp 2 (.mov (.c (.bool false))))]) (qk [0] (qs (qr [(ym 3 0),(yc 4 .eql 3 (qz 1) [0]),(yn 5 4 [1]),(qg 6 (qm 0) 5 false [2]),(qg 7 (qc .eql 6 (qz 2)) 5 false [3,2]),(qi 8 (.pick (.v 5) (.c (.bool true)) (.v 7)) [2,4]),(yn 9 8 [5,2]),(qg 10 (qm 0) 9 false [6]),(qg 11 (qc .eql 10 (qz 4)) 9 false [7,6]),(qi 12 (.pick (.v 9) (.c (.bool true)) (.v 11)) [6,8]),(yn 2 12 [9,6,0,1,2,3,4,5,6,7,8,9])]) (qk [2] .ret))))) y)=>y
 dsimp
theorem fn91:factOf Tryz.prog 91=some (ac91.strip,[.tmp 2],13):=by kernel_rfl
theorem ok91:ac91.okAll=true:=by kernel_rfl
def ac101:AC:=by
 apply fun (y:AC) (_:@Eq AC (qk [0,1] (qs (qr [(qp 3 (.mov (qz 0)))]) (qk [0,1] (qs (qr [(yl 4 1),(ym 5 0),(qi 6 (.idxS (.v 4) (.v 5)) [0,1]),(qi 7 (.conv .i64 (.v 6)) [2]),(qi 8 (.call 66 [.v 7]) [3]),(yn 3 8 [4,4,0,1,2,3,4])]) (qk [3] .ret))))) y)=>y
 dsimp
theorem fn101:factOf Tryz.prog 101=some (ac101.strip,[.tmp 3],9):=by kernel_rfl
theorem ok101:ac101.okAll=true:=by kernel_rfl
def ac67:AC:=by
 apply fun (y:AC) (_:@Eq AC (qk [0,1] (qs (qr [(qp 3 (.box (.v 1))),(qp 4 (.mov (qz 0)))]) (qk [0,3] (qs (qs (qr [(qp 6 (qf 0 3)),(yk 7 6 [0]),(yc 8 .lss 7 (qz 0) [1]),(yn 9 8 [2]),(qg 10 (qf 0 3) 9 false [3]),(qg 11 (ql 10) 9 false [4,3]),(qg 12 (qf 1 3) 9 false [3]),(qg 13 (ql 12) 9 false [6,3]),(qg 14 (qb .geq 11 13) 9 false [5,7,3]),(qi 15 (.pick (.v 9) (.c (.bool true)) (.v 14)) [3,8]),(yn 16 15 [9,3]),(qg 17 (qf 1 3) 16 false [10]),(qg 18 (ql 17) 16 false [11,10]),(qg 19 (qm 0) 16 false [10]),(qg 20 (.len true (.v 19)) 16 false [13,10]),(qg 21 (qb .gtr 18 20) 16 false [12,14,10]),(qi 22 (.pick (.v 16) (.c (.bool true)) (.v 21)) [10,15])]) (qk [0,3,22] (qq (.v 22) (qs (qr [(qp 4 (.mov (qz (-1))))]) (qk [4] .ret)) .skip))) (qk [0,3] (qs (qs (qr [(qp 23 (qf 0 3)),(yk 24 23 [0]),(yn 5 24 [1,0,1])]) (qk [0,3,5] (.block 0 (.loop (qk [0,3,5] (qs (qs (qr [(ym 25 5),(qp 26 (qf 1 3)),(yk 27 26 [1]),(yb 28 .lss 25 27 [0,2])]) (qk [0,3,5,28] (qq (.v 28) .skip (.exit 0)))) (qk [0,3,5] (qs (.block 1 (qs (qr [(ym 31 0),(ym 32 5),(qi 33 (.idxS (.v 31) (.v 32)) [0,1]),(qi 34 (.conv .i64 (.v 33)) [2]),(qi 35 (.call 102 [.v 34]) [3]),(qi 36 (.un .not (.v 35)) [4])]) (qk [0,3,5,36] (qq (.v 36) (qs (qr [(ym 37 5),(yn 4 37 [0,0])]) (qk [4] .ret)) .skip)))) (qk [0,3,5] (qr [(ym 29 5),(yc 30 .add 29 (qz 1) [0]),(yn 5 30 [1,0,1])])))))))))) (qk [3] (qs (qr [(qp 38 (qf 0 3)),(yk 39 38 [0]),(yn 4 39 [1,0,1])]) (qk [4] .ret))))))))) y)=>y
 dsimp
theorem fn67:factOf Tryz.prog 67=some (ac67.strip,[.tmp 4],40):=by kernel_rfl
theorem ok67:ac67.okAll=true:=by kernel_rfl
def ac32:AC:=by
 apply fun (y:AC) (_:@Eq AC (qk [0,1] (qs (qr [(qp 3 (.box (.v 1))),(qp 4 (.mov (qz 0)))]) (qk [0,3] (qs (qr [(ym 5 0),(ym 6 0),(qp 7 (qt 2 3)),(qi 8 (.call 67 [.v 6,.v 7]) [1,2]),(qi 9 (.idxS (.v 5) (.v 8)) [0,3]),(qi 10 (.conv .i64 (.v 9)) [4]),(qi 11 (.call 66 [.v 10]) [5,3]),(yn 4 11 [6,6,0,1,2,3,4,5,6])]) (qk [4] .ret))))) y)=>y
 dsimp
theorem fn32:factOf Tryz.prog 32=some (ac32.strip,[.tmp 4],12):=by kernel_rfl
theorem ok32:ac32.okAll=true:=by kernel_rfl
def ac106:AC:=by
 apply fun (y:AC) (_:@Eq AC (let e0:=[0,1,7,8];(qk [0,1] (qs (qr [(qp 4 (.mov (qz 0)))]) (qk [0,1] (qs (qs (qr [(ym 6 0),(yh 7 6 [0]),(qp 8 (.mov (qz 0)))]) (qk e0 (.block 0 (.loop (qk e0 (qs (qr [(qp 9 (qb .lss 8 7))]) (qk [0,1,7,8,9] (qs (qq (.v 9) .skip (.exit 0)) (qk e0 (qs (.block 1 (qs (qr [(ym 10 8),(yn 5 10 [0,0])]) (qk [0,1,5,7,8] (qs (qr [(ym 11 1),(ym 12 0),(ym 13 5),(yj 14 4 12 13 [1,2]),(qi 15 (qt 4 14) [3]),(qi 16 (.callv (.v 11) [.v 15]) [0,4])]) (qk [0,1,5,7,8,16] (qq (.v 16) (qs (qr [(ym 17 5),(yn 4 17 [0,0])]) (qk [4] .ret)) .skip)))))) (qk e0 (qr [(qp 18 (qc .add 8 (qz 1))),(yn 8 18 [0])])))))))))))) (qk [] (qs (qr [(qp 4 (.mov (qz (-1))))]) (qk [4] .ret)))))))) y)=>y
 dsimp
theorem fn106:factOf Tryz.prog 106=some (ac106.strip,[.tmp 4],19):=by kernel_rfl
theorem ok106:ac106.okAll=true:=by kernel_rfl
def ac107:AC:=by
 apply fun (y:AC) (_:@Eq AC (qk [0,1] (qs (qr [(qp 2 (.box (.v 0))),(qp 3 (.mov (.c (.bool false))))]) (qk [1,2] (qs (qr [(qp 4 (qf 0 2)),(yk 5 4 [0]),(yl 6 1),(yb 7 .eql 5 6 [1,2]),(yn 3 7 [3,0,1,2,3])]) (qk [3] .ret))))) y)=>y
 dsimp
theorem fn107:factOf Tryz.prog 107=some (ac107.strip,[.tmp 3],8):=by kernel_rfl
theorem ok107:ac107.okAll=true:=by kernel_rfl
def ac31:AC:=by
 apply fun (y:AC) (_:@Eq AC (qk [0,1] (qs (qr [(qp 2 (.box (.v 0))),(qp 4 (.mov (qz 0))),(qi 5 (.mov (.c (.bool false))) [1])]) (qk [1,2] (qs (qr [(qp 9 (qt 9 2)),(ym 10 1),(qi 11 (.call 65 [.v 9,.v 10]) [0,1]),(yn 8 11 [2]),(qi 12 (.ext (.v 8) 0) [3]),(qi 13 (.ext (.v 8) 1) [3]),(qp 6 (.alloc [.int .i64 0,.int .i64 0,.int .i64 0,.nsl])),(qo (.store 4 (.v 6) (.v 12)) [6,4,2,0,1,2,3,4,6]),(yn 7 13 [5,7,0,1,2,3,4,5,6,7])]) (qk [6,7] (qs (qr [(qp 14 (qf 1 6)),(yk 15 14 [0]),(ym 16 7),(yn 4 15 [1,0,1]),(yn 5 16 [2,3,0,1,2,3])]) (qk [4,5] .ret))))))) y)=>y
 dsimp
theorem fn31:factOf Tryz.prog 31=some (ac31.strip,[.tmp 4,.tmp 5],17):=by kernel_rfl
theorem ok31:ac31.okAll=true:=by kernel_rfl
def ac30:AC:=by
 apply fun (y:AC) (_:@Eq AC (qk [0,1] (qs (qr [(qp 3 (.mov (.c (.bool false))))]) (qk [0,1] (qs (qr [(qp 7 (qt 9 1)),(ym 8 0),(qi 9 (.call 31 [.v 7,.v 8]) [0,1]),(yn 6 9 [2]),(qi 10 (.ext (.v 6) 0) [3]),(qi 11 (.ext (.v 6) 1) [3]),(yn 4 10 [4,2,0,1,2,3,4]),(yn 5 11 [5,6,0,1,2,3,4,5,6])]) (qk [5] (qs (qr [(ym 12 5),(qi 13 (.un .not (.v 12)) [0]),(yn 3 13 [1,0,1])]) (qk [3] .ret))))))) y)=>y
 dsimp
theorem fn30:factOf Tryz.prog 30=some (ac30.strip,[.tmp 3],14):=by kernel_rfl
theorem ok30:ac30.okAll=true:=by kernel_rfl
def ac28:AC:=by
 apply fun (y:AC) (_:@Eq AC (qk [0,1] (qs (qr [(qp 2 (.box (.v 0))),(qp 3 (.mov (.c (.bool false))))]) (qk [1,2] (qs (qr [(yl 4 1),(qp 5 (.mkfn (.func 30) [] [.v 2])),(qi 6 (.call 29 [.v 4,.v 5]) [0,1]),(qi 7 (.un .not (.v 6)) [2]),(yn 3 7 [3,2,0,1,2,3])]) (qk [3] .ret))))) y)=>y
 dsimp
theorem fn28:factOf Tryz.prog 28=some (ac28.strip,[.tmp 3],8):=by kernel_rfl
theorem ok28:ac28.okAll=true:=by kernel_rfl
def ac63:AC:=by
 apply fun (y:AC) (_:@Eq AC (let e0:=[0,1,7,8];(qk [0,1] (qs (qr [(qp 4 (.mov (qz 0)))]) (qk [0,1] (qs (qs (qr [(ym 6 0),(yh 7 6 [0]),(qp 8 (.mov (qz 0)))]) (qk e0 (.block 0 (.loop (qk e0 (qs (qr [(qp 9 (qb .lss 8 7))]) (qk [0,1,7,8,9] (qs (qq (.v 9) .skip (.exit 0)) (qk e0 (qs (.block 1 (qs (qr [(ym 10 8),(yn 5 10 [0,0])]) (qk [0,1,5,7,8] (qs (qr [(ym 11 1),(ym 12 0),(ym 13 5),(yj 14 9 12 13 [1,2]),(qi 15 (qt 9 14) [3]),(qi 16 (.callv (.v 11) [.v 15]) [0,4])]) (qk [0,1,5,7,8,16] (qq (.v 16) (qs (qr [(ym 17 5),(yn 4 17 [0,0])]) (qk [4] .ret)) .skip)))))) (qk e0 (qr [(qp 18 (qc .add 8 (qz 1))),(yn 8 18 [0])])))))))))))) (qk [] (qs (qr [(qp 4 (.mov (qz (-1))))]) (qk [4] .ret)))))))) y)=>y
 dsimp
theorem fn63:factOf Tryz.prog 63=some (ac63.strip,[.tmp 4],19):=by kernel_rfl
theorem ok63:ac63.okAll=true:=by kernel_rfl
def ac27:AC:=by
 apply fun (y:AC) (_:@Eq AC (qk [0,1] (qs (qr [(qp 4 (.mov (qz 0)))]) (qk [0,1] (qs (qr [(ym 5 0),(ym 6 1),(qi 7 (.call 63 [.v 5,.v 6]) [0,1]),(yn 4 7 [2,2,0,1,2])]) (qk [4] .ret))))) y)=>y
 dsimp
theorem fn27:factOf Tryz.prog 27=some (ac27.strip,[.tmp 4],8):=by kernel_rfl
theorem ok27:ac27.okAll=true:=by kernel_rfl
def ac65:AC:=by
 apply fun (y:AC) (_:@Eq AC (qk [0,1] (qs (qr [(qp 2 (.box (.v 0))),(qp 3 (.box (.v 1))),(qp 4 (.alloc [.int .i64 0,.int .i64 0,.int .i64 0,.nsl])),(qp 5 (.mov (.c (.bool false))))]) (qk [2,3,4] (qs (qr [(qp 7 (qf 5 2)),(yk 8 7 [0]),(qp 9 (.mkfn (.func 107) [] [.v 3])),(qi 10 (.call 106 [.v 8,.v 9]) [1,2]),(yn 6 10 [3,3,0,1,2,3])]) (qk [2,4,6] (qs (qs (qr [(ym 11 6),(yc 12 .lss 11 (qz 0) [0])]) (qk [2,4,6,12] (qq (.v 12) (qs (qr [(qp 13 (.build [.int .i64 0,.int .i64 0,.int .i64 0,.nsl] [])),(qo (.store 4 (.v 4) (.v 13)) [0,0]),(qi 5 (.mov (.c (.bool false))) [1,0,1])]) (qk [4,5] (.ghost (.zslC (4,0) 3 2) .ret))) .skip))) (qk [2,4,6] (qs (qr [(qp 14 (qf 5 2)),(yk 15 14 [0]),(ym 16 6),(yj 17 4 15 16 [1,2]),(qi 18 (qt 4 17) [3]),(qo (.store 4 (.v 4) (.v 18)) [4,0,1,2,3,4]),(qi 5 (.mov (.c (.bool true))) [5,0,1,2,3,4,5])]) (qk [4,5] (.ghost (.zslC (4,0) 3 2) .ret)))))))))) y)=>y
 dsimp
theorem fn65:factOf Tryz.prog 65=some (ac65.strip,[.cell 4 true 4,.tmp 5],19):=by kernel_rfl
theorem ok65:ac65.okAll=true:=by kernel_rfl
def xc13b:AC:=by
 apply fun (y:AC) (_:@Eq AC (qr [(ym 26 4),(ym 27 8),(qi 28 (.bslice 3 1 1 [.int .i64 0] [(0,1,.v 27)]) [1]),(qi 29 (.app 3 1 8 (.v 26) (.v 28)) [0,2]),(yn 4 29 [3,3,0,1,2,3])]) y)=>y
 dsimp
def ac13:AC:=by
 apply fun (y:AC) (_:@Eq AC (let e0:=[0,1,4,10,11,12];(qk [0,1] (qs (qr [(qp 4 (.mov (.c .nsl)))]) (.ghost (.own 4 29 3 1) (qk [0,1,4] (qs (qs (qr [(ym 9 1),(qi 10 (.call 25 [.v 9]) [0]),(yh 11 10 [1]),(qp 12 (.mov (qz 0)))]) (qk e0 (.block 0 (.loop (qk e0 (qs (qr [(qp 13 (qb .lss 12 11))]) (qk [0,1,4,10,11,12,13] (qs (qq (.v 13) .skip (.exit 0)) (qk e0 (qs (.block 1 (qs (qr [(qp 14 (qj 2 10 12)),(qi 15 (qt 2 14) [0]),(qp 6 (.alloc [.int .i64 0,.int .i64 0])),(qo (.store 2 (.v 6) (.v 15)) [2,1,0,1,2])]) (qk [0,1,4,6,10,11,12] (qs (qr [(ym 16 1),(qp 17 (qt 2 6)),(qi 18 (.call 26 [.v 16,.v 17]) [0,1]),(qp 7 (.alloc [.nsl])),(qo (.store 1 (.v 7) (.v 18)) [3,2,2,0,1,2,3])]) (qk [0,1,4,6,7,10,11,12] (qs (qr [(ym 19 0),(qp 20 (.mkfn (.func 28) [] [.v 7])),(qi 21 (.call 27 [.v 19,.v 20]) [0,1]),(yn 8 21 [2,2,0,1,2])]) (qk [0,1,4,6,8,10,11,12] (qs (qs (qr [(ym 22 1),(qp 23 (qt 2 6)),(qi 24 (.call 32 [.v 22,.v 23]) [0,1]),(yc 25 .eql 24 (qz 1) [2])]) (qk [0,1,4,8,10,11,12,25] (qq (.v 25) (qr [(qp 8 (.mov (qz (-1))))]) .skip))) (qk [0,1,4,8,10,11,12] xc13b))))))))) (qk e0 (.ghost (.canV 4 (29,0)) (qr [(qp 30 (qc .add 12 (qz 1))),(yn 12 30 [0])]))))))))))))) (qk [4] (qs (qr [(ym 31 4),(yn 4 31 [0,0])]) (qk [4] .ret))))))))) y)=>y
 dsimp
theorem fn13:factOf Tryz.prog 13=some (ac13.strip,[.tmp 4],32):=by kernel_rfl
theorem ok13:ac13.okAll=true:=by kernel_rfl
end
section
set_option maxHeartbeats 2000000
def blkL:List (Int×Int×Int×Int):=[(10,10,1,0),(32,32,2,0),(33,47,4,0),(48,57,3,0),(64,95,5,1),(96,103,6,1),(104,127,7,2),(128,143,8,2),(144,151,6,2),(152,183,9,3),(184,184,10,3),(185,191,11,3),(192,199,12,3),(200,207,6,3),(240,240,13,0),(241,241,14,0)]
def blkRow (x:Int×Int×Int×Int):List PV:=[.int .i64 x.1,.int .i64 x.2.1,.int .i64 x.2.2.1,.int .i64 x.2.2.2]
theorem b147:Best Tryz.prog 147 [] (.p (.sl 4 (blkL.map blkRow))):=by
 refine best mixed fn147 ok147 (by simp) ?_
 simp -dsimp [ac147,List.range,List.range.loop,blkL,blkRow]
def inB (c:Int) (b:Int×Int×Int×Int):Bool:=decide (b.1≤c) && decide (c≤b.2.1)
def kindN (c:Int):Int×Int:=match blkL.find? (inB c) with
 | some b=>b.2.2
 | none=>(0,0)
def clsN (c:Int):Int:=(kindN c).1
def scrN (c:Int):Int:=(kindN c).2
theorem kindN_at {c:Int} {k:Nat} {b:Int×Int×Int×Int} (hk:blkL[k]?=some b) (h:inB c b=true) (hn:∀ y∈blkL.take k,inB c y=false):kindN c=b.2.2:=by
 have:blkL.find? (inB c)=some b:=by
  rw [List.find?_eq_some_iff_getElem]
  obtain ⟨h1,h2⟩:=List.getElem?_eq_some_iff.1 hk
  refine ⟨h,k,h1,h2,fun j hj=>?_⟩
  rw [hn _ (List.mem_take_iff_getElem.2 ⟨j,by omega,rfl⟩)];rfl
 unfold kindN;rw [this]
theorem kindN_none {c:Int} (hn:∀ y∈blkL,inB c y=false):kindN c=(0,0):=by
 have:blkL.find? (inB c)=none:=by rw [List.find?_eq_none];intro y hy;simp [hn y hy]
 unfold kindN;rw [this]
theorem b108 (c:Int):Best Tryz.prog 108 [.int .i64 c] (.p (.agg [.int .i64 (kindN c).1,.int .i64 (kindN c).2])):=by
 refine best mixed fn108 ok108 (by simp) ?_
 simp -dsimp [ac108]
 refine call_p b147 (by simp) (by simp) ?_
 have hlen:blkL.length=16:=rfl
 simp -dsimp [hlen]
 refine loopC 16 (fun k=>⟨[(0,.p (.int .i64 c)),(2,.ptr (2,0) 2 0 0),(5,.p (.sl 4 (blkL.map blkRow))),(6,.p (.int .i64 16)),(7,.p (.int .i64 k))],[((2,0),.box [.p (.int .i64 0),.p (.int .i64 0)])]⟩) (fun k=>∀ y∈blkL.take k,inB c y=false) (fun k hk hall=>?_) (by simp) (by simp)
 by_cases h:k<16
 ·have hl:k<blkL.length:=by rw [hlen];exact h
  have hx:blkL[k]?=some blkL[k]:=List.getElem?_eq_getElem hl
  obtain ⟨⟨b1,b2,b3,b4⟩,eb⟩:∃ b,blkL[k]=b:=⟨_,rfl⟩
  rw [eb] at hx
  have hk':(k:Int)<16:=by omega
  have wk:R ((k:Int)+1):=⟨by omega,by omega⟩
  have fin:inB c (b1,b2,b3,b4)=false→∀ y∈blkL.take (k+1),inB c y=false:=fun hf y hy=>by
   rw [List.take_add_one,hx] at hy
   rcases List.mem_append.1 hy with g | g
   ·exact hall y g
   ·simp at g;rw [g];exact hf
  by_cases h1:b1≤c
  ·by_cases h2:c≤b2
   ·have hin:inB c (b1,b2,b3,b4)=true:=by simp [inB,h1,h2]
    have hkn:=kindN_at hx hin hall
    simp -dsimp [h,hk',hlen,eb,blkRow,h1,h2,hkn]
   ·have hin:inB c (b1,b2,b3,b4)=false:=by simp [inB,h2]
    simp -dsimp [h,hk',hlen,eb,blkRow,h1,h2,wr wk]
    exact fun a b d e hy=>fin hin (a,b,d,e) hy
  ·have hin:inB c (b1,b2,b3,b4)=false:=by simp [inB,h1]
   simp -dsimp [h,hk',hlen,eb,blkRow,h1,wr wk]
   exact fun a b d e hy=>fin hin (a,b,d,e) hy
 ·have:k=16:=by omega
  subst this
  have hkn:=kindN_none (c:=c) (by rw [show blkL=blkL.take 16 from rfl];exact hall)
  simp -dsimp [hkn]
theorem b66 (c:Int):Best Tryz.prog 66 [.int .i64 c] (.p (.int .i64 (clsN c))):=by
 refine best mixed fn66 ok66 (by simp) ?_
 simp -dsimp [ac66]
 refine call_p (b108 c) (by simp) (by simp) ?_
 simp -dsimp [clsN]
theorem b92 (c:Int):Best Tryz.prog 92 [.int .i64 c] (.p (.int .i64 (scrN c))):=by
 refine best mixed fn92 ok92 (by simp) ?_
 simp -dsimp [ac92]
 refine call_p (b108 c) (by simp) (by simp) ?_
 simp -dsimp [scrN]
def extN (c:Int):Bool:=decide (clsN c=6) || decide (clsN c=10) || decide (clsN c=11) || decide (clsN c=12) || decide (clsN c=13) || decide (clsN c=14)
theorem b102 (c:Int):Best Tryz.prog 102 [.int .i64 c] (.p (.bool (extN c))):=by
 refine best mixed fn102 ok102 (by simp) ?_
 simp -dsimp [ac102]
 refine call_p (b66 c) (by simp) (by simp) ?_
 unfold extN
 generalize clsN c=k
 by_cases h1:k=6
 ·simp -dsimp [h1]
 by_cases h2:k=10
 ·simp -dsimp [h2]
 by_cases h3:k=11
 ·simp -dsimp [h3]
 by_cases h4:k=12
 ·simp -dsimp [h4]
 by_cases h5:k=13
 ·simp -dsimp [h5]
 by_cases h6:k=14
 ·simp -dsimp [h6]
 ·simp -dsimp [h1,h2,h3,h4,h5,h6]
def strongN (c:Int):Int:=if kindN c=(3,0) then 3 else if (kindN c).2=2 then 2 else if 0<(kindN c).2 then 1 else 0
theorem b125 (c:Int):Best Tryz.prog 125 [.int .i64 c] (.p (.int .i64 (strongN c))):=by
 refine best mixed fn125 ok125 (by simp) ?_
 simp -dsimp [ac125]
 refine call_p (b108 c) (by simp) (by simp) ?_
 unfold strongN
 obtain ⟨⟨a,b⟩,e⟩:∃ k,kindN c=k:=⟨_,rfl⟩
 rw [e]
 by_cases h1:a=3
 ·by_cases h2:b=0
  ·simp -dsimp [h1,h2]
  ·by_cases h3:b=2
   ·simp -dsimp [h1,h3]
   ·by_cases h4:0<b<;>simp -dsimp [h1,h2,h3,h4]
 ·by_cases h3:b=2
  ·simp -dsimp [h1,h3]
  ·by_cases h4:0<b<;>simp -dsimp [h1,h3,h4]
def stuckN (k:Int):Bool:=decide (k=1) || decide (k=2) || decide (k=4)
theorem b91 (k:Int):Best Tryz.prog 91 [.int .i64 k] (.p (.bool (stuckN k))):=by
 refine best mixed fn91 ok91 (by simp) ?_
 by_cases h1:k=1
 ·simp -dsimp [ac91,h1,stuckN]
 by_cases h2:k=2
 ·simp -dsimp [ac91,h2,stuckN]
 ·simp -dsimp [ac91,h1,h2,stuckN]
end
section
def ac100:AY:=(.ghost (.keep [0,1])
 (.scope (.seq (.reg [⟨some 6,.mkfn (.func 101) [] [.v 1],none,[]⟩,
  ⟨some 3,.mov (.v 6),none,[0,0]⟩])
 (.ghost (.keep [0,1,3]) (.seq (.reg [⟨some 4,.mov (.c (.int .i64 0)),none,[]⟩])
 (.ghost (.keep [0,1,3,4]) (.seq (.label 0)
 (.ghost (.keep [0,1,3,4]) (.seq (.reg [⟨some 7,.load false 1 (.v 1),none,[]⟩,
  ⟨some 8,.len true (.v 7),none,[0]⟩,
  ⟨some 9,.mov (.c (.int .i64 0)),none,[]⟩])
 (.ghost (.keep [0,1,3,4,8,9]) (.block 0 (.loop (.ghost (.keep [0,1,3,4,8,9]) (.seq (.reg [⟨some 10,.bin .lss (.v 9) (.v 8),none,[]⟩])
 (.ghost (.keep [0,1,3,4,8,9,10]) (.seq (.cond (.v 10)
 .skip
 (.exit 0))
 (.ghost (.keep [0,1,3,4,8,9]) (.seq (.block 1 (.seq (.reg [⟨some 11,.mov (.v 9),none,[]⟩,
  ⟨some 5,.mov (.v 11),none,[0,0]⟩])
 (.ghost (.keep [0,1,3,4,5,8,9]) (.seq (.block 2 (.seq (.seq (.reg [⟨some 13,.mov (.v 5),none,[]⟩,
  ⟨some 14,.bin .eql (.v 13) (.c (.int .i64 0)),none,[0]⟩,
  ⟨some 12,.mov (.v 14),none,[1]⟩])
 (.ghost (.keep [0,1,3,4,5,8,9,12]) (.cond (.v 12)
 .skip
 (.seq (.reg [⟨some 15,.mov (.v 5),none,[]⟩,
  ⟨some 16,.mov (.v 4),none,[]⟩,
  ⟨some 17,.bin .sub (.v 15) (.v 16),none,[0,1]⟩,
  ⟨some 18,.bin .eql (.v 17) (.c (.int .i64 6)),none,[2]⟩,
  ⟨some 12,.mov (.v 18),none,[3]⟩])
 (.ghost (.keep [0,1,3,4,5,8,9,12]) (.cond (.v 12)
 .skip
 (.reg [⟨some 19,.mov (.v 3),none,[]⟩,
  ⟨some 20,.mov (.v 5),none,[]⟩,
  ⟨some 21,.bin .sub (.v 20) (.c (.int .i64 1)),none,[1]⟩,
  ⟨some 22,.callv (.v 19) [.v 21],none,[0,2]⟩,
  ⟨some 23,.bin .eql (.v 22) (.c (.int .i64 1)),none,[3]⟩,
  ⟨some 12,.mov (.v 23),none,[4,3]⟩])))))))
 (.ghost (.keep [0,1,3,4,5,8,9,12]) (.cond (.v 12)
 .skip
 (.seq (.seq (.reg [⟨some 25,.load false 1 (.v 1),none,[]⟩,
  ⟨some 26,.mov (.v 5),none,[]⟩,
  ⟨some 27,.idxS (.v 25) (.v 26),none,[0,1]⟩,
  ⟨some 28,.conv .i64 (.v 27),none,[2]⟩,
  ⟨some 29,.call 102 [.v 28],none,[3]⟩,
  ⟨some 24,.mov (.v 29),none,[4,4]⟩])
 (.ghost (.keep [0,1,3,4,5,8,9,24]) (.cond (.v 24)
 .skip
 (.reg [⟨some 30,.mov (.v 3),none,[]⟩,
  ⟨some 31,.mov (.v 5),none,[]⟩,
  ⟨some 32,.callv (.v 30) [.v 31],none,[0,1]⟩,
  ⟨some 33,.bin .eql (.v 32) (.c (.int .i64 9)),none,[2]⟩,
  ⟨some 34,.mov (.v 33),none,[3,2]⟩,
  ⟨some 35,.mov (.v 3),some (34,true),[4]⟩,
  ⟨some 36,.mov (.v 5),some (34,true),[4]⟩,
  ⟨some 37,.bin .sub (.v 36) (.c (.int .i64 1)),some (34,true),[6,4]⟩,
  ⟨some 38,.callv (.v 35) [.v 37],some (34,true),[5,7,4,4]⟩,
  ⟨some 39,.bin .eql (.v 38) (.c (.int .i64 10)),some (34,true),[8,4]⟩,
  ⟨some 40,.pick (.v 34) (.v 39) (.c (.bool false)),none,[4,9]⟩,
  ⟨some 24,.mov (.v 40),none,[10,8]⟩]))))
 (.ghost (.keep [0,1,3,4,5,8,9,24]) (.cond (.v 24)
 (.exit 1)
 .skip)))))))
 (.ghost (.keep [0,1,3,5,8,9]) (.seq (.reg [⟨some 41,.mov (.v 5),none,[]⟩,
  ⟨some 4,.mov (.v 41),none,[0,0]⟩])
 (.ghost (.keep [0,1,3,4,5,8,9]) (.seq (.yield false [⟨⟨some 42,.mov (.v 0),none,[]⟩,[43],[],[],[],2⟩,
  ⟨⟨some 43,.mov (.v 5),none,[]⟩,[42],[],[],[0],2⟩]
  ⟨some 44,.callv (.v 42) [.v 43],none,[0,1]⟩ [⟨some 45,.un .not (.v 44),none,[2]⟩])
 (.ghost (.keep [0,1,3,4,8,9,45]) (.cond (.v 45)
 (.exit 0)
 .skip))))))))))
 (.ghost (.keep [0,1,3,4,8,9]) (.reg [⟨some 46,.bin .add (.v 9) (.c (.int .i64 1)),none,[]⟩,
  ⟨some 9,.mov (.v 46),none,[0]⟩]))))))))))))))))))))
theorem fn100:factOf Tryz.prog 100=some (ac100.strip,[],47):=by kernel_rfl
theorem ok100:ac100.okAll=true:=by kernel_rfl
def ac60:AC:=by
 apply fun (y:AC) (_:@Eq AC (qk [0] (qs (qr [(qp 1 (.box (.v 0))),(qp 2 (.mov (.c .nfn)))]) (qk [1] (qs (qr [(qp 3 (.mkfn (.func 100) [] [.v 1])),(yn 2 3 [0,0])]) (qk [2] .ret))))) y)=>y
 dsimp
theorem fn60:factOf Tryz.prog 60=some (ac60.strip,[.tmp 2],4):=by kernel_rfl
theorem ok60:ac60.okAll=true:=by kernel_rfl
def ac142:AC:=by
 apply fun (y:AC) (_:@Eq AC (qk [0,1] (qs (qr [(qp 4 (.mov (.c (.bool false))))]) (qk [0,1] (qs (qr [(ym 5 0),(qi 6 (.call 175 [.v 5]) [0]),(yn 7 6 [1,1]),(qg 8 (qm 1) 7 true [2]),(qg 9 (.call 175 [.v 8]) 7 true [3,2,2]),(qg 10 (.un .not (.v 9)) 7 true [4,2]),(qi 11 (.pick (.v 7) (.v 10) (.c (.bool false))) [2,5]),(yn 12 11 [6,4]),(qg 13 (qm 0) 12 false [7]),(qg 14 (qm 1) 12 false [7]),(qg 15 (qb .lss 13 14) 12 false [8,9,7]),(qi 16 (.pick (.v 12) (.c (.bool true)) (.v 15)) [7,10]),(yn 4 16 [11,7,0,1,2,3,4,5,6,7,8,9,10,11])]) (qk [4] .ret))))) y)=>y
 dsimp
theorem fn142:factOf Tryz.prog 142=some (ac142.strip,[.tmp 4],17):=by kernel_rfl
theorem ok142:ac142.okAll=true:=by kernel_rfl
def ac175:AC:=by
 apply fun (y:AC) (_:@Eq AC (qk [0] (qs (qr [(qp 2 (.mov (.c (.bool false))))]) (qk [0] (qs (qr [(ym 3 0),(ym 4 0),(yb 5 .neq 3 4 [0,1]),(yn 2 5 [2,0,1,2])]) (qk [2] .ret))))) y)=>y
 dsimp
theorem fn175:factOf Tryz.prog 175=some (ac175.strip,[.tmp 2],6):=by kernel_rfl
theorem ok175:ac175.okAll=true:=by kernel_rfl
def ac61:AC:=by
 apply fun (y:AC) (_:@Eq AC (qk [0,1] (qs (qr [(qp 3 (.box (.v 1))),(qp 4 (.mov (.c .nsl)))]) (qk [0,3] (qs (qs (qr [(qp 5 (qf 0 3)),(yk 6 5 [0]),(yc 7 .lss 6 (qz 0) [1]),(yn 8 7 [2]),(qg 9 (qf 0 3) 8 false [3]),(qg 10 (ql 9) 8 false [4,3]),(qg 11 (qf 1 3) 8 false [3]),(qg 12 (ql 11) 8 false [6,3]),(qg 13 (qb .geq 10 12) 8 false [5,7,3]),(qi 14 (.pick (.v 8) (.c (.bool true)) (.v 13)) [3,8]),(yn 15 14 [9,3]),(qg 16 (qf 1 3) 15 false [10]),(qg 17 (ql 16) 15 false [11,10]),(qg 18 (qm 0) 15 false [10]),(qg 19 (.len true (.v 18)) 15 false [13,10]),(qg 20 (qb .gtr 17 19) 15 false [12,14,10]),(qi 21 (.pick (.v 15) (.c (.bool true)) (.v 20)) [10,15])]) (qk [0,3,21] (qq (.v 21) (qs (qr [(qp 4 (.mov (.c .nsl)))]) (qk [4] .ret)) .skip))) (qk [0,3] (qs (qd [(qa (ym 22 0) [23,24,26,27,28] [24,28] [] [] 2),(qa (qp 23 (qt 2 3)) [22,24,26,27,28] [24,28] [] [0] 0),(qa (qp 24 (.bslice 3 1 1 [.int .i64 0] [(0,1,.c (.int .i64 12))])) [22,23,26,27,28] [28] [24] [0,1] 0),(qa (qi 25 (.call 103 [.v 22,.v 23,.c (.bool true),.v 24]) [0,1,2]) [26,27,28] [28] [24,25] [] 0),(qa (ym 26 0) [22,23,24,25,27,28] [24,25,28] [] [0,1,2,3] 2),(qa (qp 27 (qt 2 3)) [22,23,24,25,26,28] [24,25,28] [] [0,1,2,3,4] 0),(qa (qp 28 (.bslice 3 1 3 [.int .i64 0,.int .i64 0,.int .i64 0] [(0,1,.c (.int .i64 12)),(1,1,.c (.int .i64 13)),(2,1,.c (.int .i64 14))])) [22,23,24,25,26,27] [24,25] [28] [0,1,2,3,4,5] 0),(qa (qi 29 (.call 103 [.v 26,.v 27,.c (.bool false),.v 28]) [4,5,6,3]) [] [] [28,29] [] 1),(qa (qi 30 (.app 3 1 8 (.v 25) (.v 29)) [3,7,7]) [] [] [25,30] [] 1),(qe (yn 4 30 [8,8,0,1,2,3,4,5,6,7,8]) [] [] 2)]) (qk [4] .ret))))))) y)=>y
 dsimp
theorem fn61:factOf Tryz.prog 61=some (ac61.strip,[.tmp 4],31):=by kernel_rfl
theorem ok61:ac61.okAll=true:=by kernel_rfl
def xc103b:AC:=by
 apply fun (y:AC) (_:@Eq AC (qs (qr [(ym 38 10),(ym 39 2),(qi 40 (.eqb false (.v 38) (.v 39)) [0,1])]) (qk [0,2,3,5,8,9,40] (qq (.v 40) (qr [(ym 41 8),(ym 42 9),(qi 43 (.bslice 3 1 1 [.int .i64 0] [(0,1,.v 42)]) [1]),(qi 44 (.app 3 1 8 (.v 41) (.v 43)) [0,2]),(yn 8 44 [3,3,0,1,2,3])]) .skip))) y)=>y
 dsimp
def ac103:AC:=by
 apply fun (y:AC) (_:@Eq AC (let e0:=[0,2,3,5,8,9,10,21,22,23];let e1:=[0,2,3,5,8,9];(qk [0,1,2,3] (qs (qr [(qp 5 (.box (.v 1))),(qp 8 (.mov (.c .nsl)))]) (.ghost (.own 8 44 3 1) (qk [0,2,3,5,8] (qs (qs (qr [(qp 13 (qf 0 5)),(yk 14 13 [0]),(yn 9 14 [1,0,1])]) (qk e1 (.block 0 (.loop (qk e1 (qs (qs (qr [(ym 15 9),(qp 16 (qf 1 5)),(yk 17 16 [1]),(yb 18 .lss 15 17 [0,2])]) (qk [0,2,3,5,8,9,18] (qq (.v 18) .skip (.exit 0)))) (qk e1 (qs (.block 1 (qs (qr [(qp 10 (.mov (.c (.bool false))))]) (qk [0,2,3,5,8,9,10] (qs (qs (qr [(ym 21 3),(yh 22 21 [0]),(qp 23 (.mov (qz 0)))]) (qk e0 (.block 2 (.loop (qk e0 (qs (qr [(qp 24 (qb .lss 23 22))]) (qk [0,2,3,5,8,9,10,21,22,23,24] (qs (qq (.v 24) .skip (.exit 2)) (qk e0 (qs (.block 3 (qs (qr [(qp 25 (qj 1 21 23)),(yk 26 25 [0]),(yn 12 26 [1,0,1])]) (qk [0,2,3,5,8,9,10,12,21,22,23] (qr [(ym 27 10),(yn 28 27 [0]),(qg 29 (qm 0) 28 false [1]),(qg 30 (qm 9) 28 false [1]),(qg 31 (.idxS (.v 29) (.v 30)) 28 false [2,3,1]),(qg 32 (.conv .i64 (.v 31)) 28 false [4,1]),(qg 33 (.call 66 [.v 32]) 28 false [5,1,1]),(qg 34 (qm 12) 28 false [1]),(qg 35 (qb .eql 33 34) 28 false [6,7,1]),(qi 36 (.pick (.v 28) (.c (.bool true)) (.v 35)) [1,8]),(yn 10 36 [9,6,0,1,2,3,4,5,6,7,8,9])])))) (qk e0 (qr [(qp 37 (qc .add 23 (qz 1))),(yn 23 37 [0])])))))))))))) (qk [0,2,3,5,8,9,10] xc103b))))) (qk e1 (.ghost (.canV 8 (44,0)) (qr [(ym 19 9),(yc 20 .add 19 (qz 1) [0]),(yn 9 20 [1,0,1])]))))))))))) (qk [3,8] (qs (qr [(ym 45 8),(yn 8 45 [0,0])]) (qk [3,8] (.ghost (.ren (44,0) (999980,0)) .ret)))))))))) y)=>y
 dsimp
theorem fn103:factOf Tryz.prog 103=some (ac103.strip,[.tmp 8],46):=by kernel_rfl
theorem ok103:ac103.okAll=true:=by kernel_rfl
def ac62:AC:=by
 apply fun (y:AC) (_:@Eq AC (qk [0] (qs (qr [(ym 3 0),(yh 4 3 [0]),(yn 2 4 [1,0,1])]) (qk [0,2] (qr [(ym 5 0),(ym 6 2),(ym 7 2),(qi 8 (.conv .u64 (.v 7)) [2]),(qi 9 (.call 105 [.v 8]) [3]),(qi 10 (.call 104 [.v 5,.c (.int .i64 0),.v 6,.v 9]) [0,1,4,4])])))) y)=>y
 dsimp
theorem fn62:factOf Tryz.prog 62=some (ac62.strip,[],11):=by kernel_rfl
theorem ok62:ac62.okAll=true:=by kernel_rfl
def ac26:AC:=by
 apply fun (y:AC) (_:@Eq AC (let e0:=[0,4,13,14,15];(qk [0,1] (qs (qr [(qp 3 (.box (.v 1))),(qp 4 (.mov (.c .nsl)))]) (.ghost (.own 4 25 3 1) (qk [0,3,4] (qs (qr [(ym 8 0),(qp 9 (qt 2 3)),(qi 10 (.call 61 [.v 8,.v 9]) [0,1]),(yn 5 10 [2,2,0,1,2])]) (qk [0,4,5] (.ghost (.canV 5 (10,0)) (qs (qr [(ym 11 5),(qi 12 (.call 62 [.v 11]) [0])]) (qk [0,4,5] (.ghost (.freeze (10,0)) (qs (qs (qr [(ym 13 5),(yh 14 13 [0]),(qp 15 (.mov (qz 0)))]) (qk e0 (.block 0 (.loop (qk e0 (qs (qr [(qp 16 (qb .lss 15 14))]) (qk [0,4,13,14,15,16] (qs (qq (.v 16) .skip (.exit 0)) (qk e0 (qs (.block 1 (qs (qr [(qp 17 (qj 1 13 15)),(yk 18 17 [0]),(yn 7 18 [1,0,1])]) (qk [0,4,7,13,14,15] (qr [(ym 19 4),(ym 20 0),(ym 21 7),(qi 22 (.idxS (.v 20) (.v 21)) [1,2]),(qi 23 (.conv .i64 (.v 22)) [3]),(qi 24 (.bslice 3 1 1 [.int .i64 0] [(0,1,.v 23)]) [4]),(qi 25 (.app 3 1 8 (.v 19) (.v 24)) [0,5]),(yn 4 25 [6,6,0,1,2,3,4,5,6])])))) (qk e0 (.ghost (.canV 4 (25,0)) (qr [(qp 26 (qc .add 15 (qz 1))),(yn 15 26 [0])]))))))))))))) (qk [4] (qs (qr [(ym 27 4),(yn 4 27 [0,0])]) (qk [4] .ret))))))))))))))) y)=>y
 dsimp
theorem fn26:factOf Tryz.prog 26=some (ac26.strip,[.tmp 4],28):=by kernel_rfl
theorem ok26:ac26.okAll=true:=by kernel_rfl
def xc104b:AC:=by
 apply fun (y:AC) (_:@Eq AC (let e0:=[0,1,2,3,8,9,10,11];let e1:=[0,1,2,3,8,9,10];let e2:=[0,1,2,3,8,9,10,11,12];let e3:=[0,1,2];let e4:=[3,4,5,6,7];(qs (qs (qr [(ym 28 3),(yc 29 .eql 28 (qz 0) [0])]) (qk [0,1,2,3,8,9,10,29] (qq (.v 29) (qs (qr [(ym 30 0),(ym 31 1),(ym 32 2),(qi 33 (.call 137 [.v 30,.v 31,.v 32]) e3)]) (qk [0] .ret)) .skip))) (qk e1 (qs (qs (qr [(ym 34 8),(qi 35 (.un .not (.v 34)) [0])]) (qk [0,1,2,3,8,9,10,35] (qq (.v 35) (qs (qr [(ym 36 0),(ym 37 1),(ym 38 2),(qi 39 (.call 138 [.v 36,.v 37,.v 38]) e3)]) (qk e1 (qr [(ym 40 3),(yc 41 .sub 40 (qz 1) [0]),(yn 3 41 [1,0,1])]))) .skip))) (qk e1 (qs (qr [(ym 43 0),(ym 44 1),(ym 45 2),(qi 46 (.call 139 [.v 43,.v 44,.v 45]) e3),(yn 42 46 [3]),(qi 47 (.ext (.v 42) 0) [4]),(qi 48 (.ext (.v 42) 1) [4]),(yn 11 47 [5,3,0,1,2,3,4,5]),(yn 12 48 [6,7,0,1,2,3,4,5,6,7])]) (qk e2 (qs (qs (qr [(ym 49 12),(yc 50 .eql 49 (qz 2) [0])]) (qk [0,1,2,3,8,9,10,11,12,50] (qq (.v 50) (qs (qr [(ym 51 0),(ym 52 1),(ym 53 2),(qi 54 (.call 140 [.v 51,.v 52,.v 53]) e3)]) (qk e0 (qs (qr [(ym 55 2),(yc 56 .sub 55 (qz 1) [0]),(ym 57 11),(ym 58 1),(yb 59 .sub 57 58 [2,3]),(yb 60 .sub 56 59 [1,4]),(yn 11 60 [5,0,1,2,3,4,5])]) (qk e0 (qr [(qp 12 (.mov (qz 1)))]))))) .skip))) (qk e2 (qs (qs (qr [(ym 61 8),(yn 62 61 [0]),(qg 63 (qm 9) 62 true [1]),(qi 64 (.pick (.v 62) (.v 63) (.c (.bool false))) [1,2]),(yn 65 64 [3,1]),(qg 66 (qm 12) 65 true [4]),(qg 67 (qc .eql 66 (qz 1)) 65 true [5,4]),(qi 68 (.pick (.v 65) (.v 67) (.c (.bool false))) [4,6])]) (qk [0,1,2,3,8,9,10,11,68] (qq (.v 68) (qs (qr [(ym 69 0),(ym 70 1),(ym 71 2),(qi 72 (.call 141 [.v 69,.v 70,.v 71]) e3)]) (qk [0,1,2,3,8,9,10,11,72] (qq (.v 72) .ret .skip))) .skip))) (qk e0 (qs (qs (qd [(qe (ym 73 1) [] [] 2),(qe (yc 74 .gtr 73 (qz 0) [0]) [] [] 2),(qe (yn 75 74 [1]) [] [] 2),(qe (qg 76 (qm 0) 75 true [2]) [77,78,81,82,83,84] [] 2),(qe (qg 77 (qm 1) 75 true [2]) [76,81,82,83,84] [3] 2),(qe (qg 78 (qc .sub 77 (qz 1)) 75 true [4,2]) [76,81,82,83,84] [3] 2),(qe (qg 79 (qj 1 76 78) 75 true [3,5,2]) [81,82,83,84] [] 2),(qe (qg 80 (ql 79) 75 true [6,2]) [81,82,83,84] [] 2),(qe (qg 81 (qm 0) 75 true [2]) [76,77,78,79,80,82] e4 2),(qe (qg 82 (qm 11) 75 true [2]) [76,77,78,79,80,81] [3,4,5,6,7,8] 2),(qe (qg 83 (qj 1 81 82) 75 true [8,9,2]) [76,77,78,79,80] e4 2),(qe (qg 84 (ql 83) 75 true [10,2]) [76,77,78,79,80] e4 2),(qa (qg 85 (.call 142 [.v 80,.v 84]) 75 true [7,11,2,2]) [] [] [85] [] 1),(qe (qg 86 (.un .not (.v 85)) 75 true [12,2]) [] [] 2),(qe (qi 87 (.pick (.v 75) (.v 86) (.c (.bool false))) [2,13]) [] [] 2)]) (qk [0,1,2,3,8,9,10,11,87] (qq (.v 87) (qs (qr [(ym 88 0),(ym 89 1),(ym 90 2),(ym 91 11),(qi 92 (.call 143 [.v 88,.v 89,.v 90,.v 91]) [0,1,2,3]),(yn 13 92 [4,4,0,1,2,3,4])]) (qk [0,2,3,8,9,13] (qs (qr [(ym 93 13),(yn 1 93 [0,0])]) (qk [0,1,2,3,8,9] (.exit 1))))) .skip))) (qk [0,1,2,3,10,11] (qs (qr [(ym 95 0),(ym 96 1),(ym 97 2),(ym 98 11),(qi 99 (.call 144 [.v 95,.v 96,.v 97,.v 98]) [0,1,2,3]),(yn 94 99 [4]),(qi 100 (.ext (.v 94) 0) [5]),(qi 101 (.ext (.v 94) 1) [5]),(yn 14 100 [6,4,0,1,2,3,4,5,6]),(yn 15 101 [7,8,0,1,2,3,4,5,6,7,8])]) (qk [0,1,2,3,10,14,15] (qs (qr [(ym 102 15),(yn 9 102 [0,0])]) (qk [0,1,2,3,9,10,14] (qs (qr [(ym 103 14),(ym 104 1),(yb 105 .sub 103 104 [0,1]),(ym 106 2),(ym 107 14),(yb 108 .sub 106 107 [3,4]),(yn 16 105 [2,0,1,2]),(yn 17 108 [5,6,0,1,2,3,4,5,6])]) (qk [0,1,2,3,9,10,14,16,17] (qs (qr [(ym 109 10),(yc 110 .quo 109 (qz 8) [0]),(yn 18 110 [1,0,1])]) (qk [0,1,2,3,9,14,16,17,18] (qs (qr [(ym 111 16),(ym 112 17),(yb 113 .lss 111 112 [0,1])]) (qk [0,1,2,3,9,14,16,17,18,113] (qq (.v 113) (qs (qr [(ym 114 16),(ym 115 18),(yb 116 .geq 114 115 [0,1]),(yn 8 116 [2,0,1,2])]) (qk [0,1,2,3,8,9,14] (qs (qr [(ym 117 0),(ym 118 1),(ym 119 14),(ym 120 3),(qi 121 (.call 104 [.v 117,.v 118,.v 119,.v 120]) [0,1,2,3])]) (qk [0,2,3,8,9,14] (qr [(ym 122 14),(yc 123 .add 122 (qz 1) [0]),(yn 1 123 [1,0,1])]))))) (qs (qr [(ym 124 17),(ym 125 18),(yb 126 .geq 124 125 [0,1]),(yn 8 126 [2,0,1,2])]) (qk [0,1,2,3,8,9,14] (qs (qr [(ym 127 0),(ym 128 14),(yc 129 .add 128 (qz 1) [1]),(ym 130 2),(ym 131 3),(qi 132 (.call 104 [.v 127,.v 129,.v 130,.v 131]) [0,2,3,4])]) (qk [0,1,3,8,9,14] (qr [(ym 133 14),(yn 2 133 [0,0])]))))))))))))))))))))))))))))) y)=>y
 dsimp
def ac104:AC:=by
 apply fun (y:AC) (_:@Eq AC (qk [0,1,2,3] (qs (qr [(qp 8 (.mov (.c (.bool true))))]) (qk [0,1,2,3,8] (qs (qr [(qp 9 (.mov (.c (.bool true))))]) (qk [0,1,2,3,8,9] (.block 0 (.loop (qk [0,1,2,3,8,9] (.block 1 (qs (qr [(ym 19 2),(ym 20 1),(yb 21 .sub 19 20 [0,1]),(yn 10 21 [2,0,1,2])]) (qk [0,1,2,3,8,9,10] (qs (qs (qr [(ym 22 10),(yc 23 .leq 22 (qz 12) [0])]) (qk [0,1,2,3,8,9,10,23] (qq (.v 23) (qs (qr [(ym 24 0),(ym 25 1),(ym 26 2),(qi 27 (.call 136 [.v 24,.v 25,.v 26]) [0,1,2])]) (qk [0] .ret)) .skip))) (qk [0,1,2,3,8,9,10] xc104b))))))))))))) y)=>y
 dsimp
theorem fn104:factOf Tryz.prog 104=some (ac104.strip,[],134):=by kernel_rfl
theorem ok104:ac104.okAll=true:=by kernel_rfl
def xc136b:AC:=by
 apply fun (y:AC) (_:@Eq AC (let e0:=[1000000,1000001,1000002,1000003,1000004,1000005];let e1:=[33,34,35,38,39,40,41,42,43,44,45,46,47];let e2:=[0,1,2,3,4,5,6,7,8,9];let e3:=[33,34,35,36,37,38,43,44,45,46];let e4:=[33,34,35,36,37,38,39,40,41,42];let e5:=[33,34,35,36,37,43,44,45,46];let e6:=[0,1,2,3,4];(qs (.block 3 (qd [(qe (ym 33 0) [34,35,36,37,38,39,40,41,42,43,44,45,46] [] 2),(qe (ym 34 7) [33,35,36,37,38,39,40,41,42,43,44,45,46] [0] 2),(qa (ym 35 0) [33,34,36,37,38,39,40,41,42,43,44,45,46,47] e0 [] [0,1] 2),(qa (ym 36 7) e1 e0 [] [0,1,2] 2),(qa (yc 37 .sub 36 (qz 1) [3]) e1 e0 [] [0,1,2] 2),(qe (ym 38 0) [33,34,35,36,37,39,40,43,44,45,46] e6 2),(qe (ym 39 7) e3 [0,1,2,3,4,5] 2),(qe (yc 40 .sub 39 (qz 1) [6]) e3 [0,1,2,3,4,5] 2),(qe (yj 41 1 38 40 [5,7]) e5 e6 2),(qe (yk 42 41 [8]) e5 e6 2),(qe (ym 43 0) [33,34,35,36,37,38,39,40,41,42,44] e2 2),(qe (ym 44 7) [33,34,35,36,37,38,39,40,41,42,43] [0,1,2,3,4,5,6,7,8,9,10] 2),(qe (yj 45 1 43 44 [10,11]) e4 e2 2),(qe (yk 46 45 [12]) e4 e2 2),(qe (yj 47 1 33 34 [0,1,0,1,5,6,7,8,9,13]) [35,36,37] [2,3,4] 2),(qa (qo (.store 1 (.v 47) (.v 42)) [14,9,0,1,5,6,7,8,9,13]) [35,36,37] [] e0 [2,3,4] 1),(qe (yj 48 1 35 37 [2,4,0,1,2,3,4,5,6,7,8,9,10,11,12,13,14,15]) [] [] 2),(qa (qo (.store 1 (.v 48) (.v 46)) [16,13,15,0,1,2,3,4,5,6,7,8,9,10,11,12,13,14,15]) [] [] e0 [] 1)])) (qk [0,1,2,6,7] (qr [(ym 31 7),(yc 32 .sub 31 (qz 1) [0]),(yn 7 32 [1,0,1])])))) y)=>y
 dsimp
def ac136:AC:=by
 apply fun (y:AC) (_:@Eq AC (let e0:=[0,1,2,6];let e1:=[0,1,2,6,7];(qk [0,1,2] (qs (qr [(ym 8 1),(yc 9 .add 8 (qz 1) [0]),(yn 6 9 [1,0,1])]) (qk e0 (.block 0 (.loop (qk e0 (qs (qs (qr [(ym 10 6),(ym 11 2),(yb 12 .lss 10 11 [0,1])]) (qk [0,1,2,6,12] (qq (.v 12) .skip (.exit 0)))) (qk e0 (qs (.block 1 (qs (qr [(ym 15 6),(yn 7 15 [0,0])]) (qk e1 (.block 2 (.loop (qk e1 (qs (qs (qd [(qe (ym 16 7) [17] [] 2),(qe (ym 17 1) [16] [0] 2),(qe (yb 18 .gtr 16 17 [0,1]) [] [] 2),(qe (yn 19 18 [2]) [] [] 2),(qe (qg 20 (qm 0) 19 true [3]) [21,24,25,26,27,28] [] 2),(qe (qg 21 (qm 7) 19 true [3]) [20,24,25,26,27,28] [4] 2),(qe (qg 22 (qj 1 20 21) 19 true [4,5,3]) [24,25,26,27,28] [] 2),(qe (qg 23 (ql 22) 19 true [6,3]) [24,25,26,27,28] [] 2),(qe (qg 24 (qm 0) 19 true [3]) [20,21,22,23,25,26] [4,5,6,7] 2),(qe (qg 25 (qm 7) 19 true [3]) [20,21,22,23,24] [4,5,6,7,8] 2),(qe (qg 26 (qc .sub 25 (qz 1)) 19 true [9,3]) [20,21,22,23,24] [4,5,6,7,8] 2),(qe (qg 27 (qj 1 24 26) 19 true [8,10,3]) [20,21,22,23] [4,5,6,7] 2),(qe (qg 28 (ql 27) 19 true [11,3]) [20,21,22,23] [4,5,6,7] 2),(qa (qg 29 (.call 142 [.v 23,.v 28]) 19 true [7,12,3,3]) [] [] [29] [] 1),(qe (qi 30 (.pick (.v 19) (.v 29) (.c (.bool false))) [3,13]) [] [] 2)]) (qk [0,1,2,6,7,30] (qq (.v 30) .skip (.exit 2)))) (qk e1 xc136b)))))))) (qk e0 (qr [(ym 13 6),(yc 14 .add 13 (qz 1) [0]),(yn 6 14 [1,0,1])])))))))))))) y)=>y
 dsimp
theorem fn136:factOf Tryz.prog 136=some (ac136.strip,[],49):=by kernel_rfl
theorem ok136:ac136.okAll=true:=by kernel_rfl
def ac25:AC:=by
 apply fun (y:AC) (_:@Eq AC (qk [0] (qs (qr [(qp 1 (.box (.v 0))),(qp 2 (.mov (.c .nsl)))]) (qk [1] (qs (qr [(qp 3 (.alloc [.nsl]))]) (qk [1,3] (.ghost (.ownC (3,0) 0 (999980,1) 66 2) (qs (qs (qr [(yl 6 1),(qi 7 (.call 60 [.v 6]) [0])]) (qk [1,3,7] (.block 0 (.rfun (.v 7) [8] [4,5,8,9,10,11,12,13,14,15,16,17,18,19,20,21,22,23,24,25] (qr [(ym 4 8)]) (qk [1,3,4,7] (.block 1 (qs (qs (qr [(yl 9 3),(yh 10 9 [0]),(yn 5 10 [1,0,1])]) (qk [1,3,4,5,7] (qs (qr [(ym 11 5),(yc 12 .gtr 11 (qz 0) [0])]) (qk [1,3,4,5,7,12] (qq (.v 12) (qr [(yl 13 3),(ym 14 5),(yc 15 .sub 14 (qz 1) [1]),(ym 16 4),(yj 17 2 13 15 [0,2,0,1,2,3]),(yf 18 1 17 [4,0,1,2,3]),(qo (.store 1 (.v 18) (.v 16)) [5,3,0,1,2,3])]) .skip))))) (qk [1,3,4,7] (qr [(yl 19 3),(ym 20 4),(yl 21 1),(qi 22 (.len true (.v 21)) [2]),(qi 23 (.build [.int .i64 0,.int .i64 0] [(0,1,.v 20),(1,1,.v 22)]) [1,3]),(qi 24 (.bslice 66 2 1 [.int .i64 0,.int .i64 0] [(0,2,.v 23)]) [4]),(qi 25 (.app 66 2 16 (.v 19) (.v 24)) [0,5]),(qo (.store 1 (.v 3) (.v 25)) [6,6,0,1,2,3,4,5,6])]))))))))) (qk [3] (qs (qr [(yl 26 3),(yn 2 26 [0,0])]) (qk [2] .ret)))))))))) y)=>y
 dsimp
theorem fn25:factOf Tryz.prog 25=some (ac25.strip,[.tmp 2],27):=by kernel_rfl
theorem ok25:ac25.okAll=true:=by kernel_rfl
end
section
set_option maxHeartbeats 4000000
def ba (l:List UInt8):ByteArray:=⟨l.toArray⟩
theorem ba_eta (s:ByteArray):s=ba s.data.toList:=by cases s;simp [ba]
theorem ba_size (l:List UInt8):(ba l).size=l.length:=by simp [ba,ByteArray.size]
def bT (t:List UInt8) (i:Nat):UInt8:=t.getD i 0
def cT (t:List UInt8) (i:Nat):Int:=((bT t i).toNat:Int)
theorem ba_get {l:List UInt8} {i:Nat} (h:i<l.length):(ba l)[i]?=some (bT l i):=by
 rw [getElem?_pos (ba l) i (by rw [ba_size];exact h)]
 have:(ba l)[i]'(by rw [ba_size];exact h)=l[i]:=rfl
 rw [this]
 simp [bT,h]
theorem wb (b:UInt8):IntKind.i64.wrap (b.toNat:Int)=b.toNat:=wr ⟨by omega,by have:=b.toNat_lt;omega⟩
theorem ba_at {l:List UInt8} {i:Nat} (h:i<(ba l).size):(ba l)[i]=bT l i:=by
 have h':i<l.length:=by rwa [ba_size] at h
 show l[i]=bT l i
 simp [bT,h']
theorem w1:IntKind.i64.wrap 1=1:=rfl
theorem w6:IntKind.i64.wrap 6=6:=rfl
attribute [local simp] ba_size wb ba_at w1 w6
def clsT (t:List UInt8) (i:Nat):Int:=clsN (cT t i)
theorem b101 (t:List UInt8) (i:Nat) (h:i<t.length):Best Tryz.prog 101 [.int .i64 i,.ro [.str (ba t)]] (.p (.int .i64 (clsT t i))):=by
 refine best mixed fn101 ok101 (by simp) ?_
 simp -dsimp [ac101,ba_get h]
 refine call_p (b66 (cT t i)) (by simp [cT]) (by simp) ?_
 simp -dsimp [clsT]
def begT (t:List UInt8) (i f:Nat):Bool:=decide (i=0) || decide ((i:Int) - f=6) || decide (clsT t (i - 1)=1) || !(extN (cT t i) || (decide (clsT t i=9) && decide (clsT t (i - 1)=10)))
def stT (t:List UInt8):Nat→List Nat×Nat
 | 0=>([],0)
 | i+1=>if begT t i (stT t i).2 then ((stT t i).1++[i],i) else stT t i
theorem stT_le (t:List UInt8):∀ i,(stT t i).2≤i
 | 0=>Nat.le_refl _
 | i+1=>by
  have:=stT_le t i
  simp only [stT];split
  ·exact Nat.le_succ _
  ·omega
theorem stT_len (t:List UInt8):∀ i,(stT t i).1.length≤i
 | 0=>Nat.le_refl _
 | i+1=>by
  have:=stT_len t i
  simp only [stT];split
  ·simp;omega
  ·omega
theorem stT_pre (t:List UInt8) (i:Nat):∀ j,i≤j→(stT t i).1 <+: (stT t j).1:=by
 intro j h
 induction h with
 | refl=>exact List.prefix_refl _
 | step h ih=>
  rename_i m
  simp only [stT];split
  ·exact ih.trans (List.prefix_append _ _)
  ·exact ih
theorem loopYP {P:Program} {l:Nat} {xs:List (List PV)} {K:AE→Fr→Option Nat→Prop} {g:Ghost} {x:AY} {t:Tag (AY.ghost g x) K} (n:Nat) (fr:Nat→Fr) (pc:Nat→Nat) (step:∀ k,k≤n→awpY P l xs x (fun e F' p'=>match e with
  | .normal=>k<n∧g.app F'=some (fr (k+1))∧p'=some (pc (k+1))
  | e=>K e F' p') (fr k) (some (pc k))) {F:Fr} {p0:Nat} (hp:p0=pc 0) (hF:g.app F=some (fr 0)):loopY P l xs (.ghost g x) K t F (some p0):=by
 subst hp
 have key:∀ m k F,k+m=n→g.app F=some (fr k)→lpY (awpY P l xs (.ghost g x)) (m+1) K F (some (pc k)):=by
  intro m
  induction m with
  | zero=>
   intro k F hk hF
   show awpY P l xs (.ghost g x) _ F (some (pc k))
   rw [awpY_ghost,hF]
   refine awpY_mono (fun e F' p' q=>?_) (step k (by omega))
   cases e with
   | normal=>exact absurd q.1 (by omega)
   | exit i=>exact q
   | ret=>exact q
  | succ m ih=>
   intro k F hk hF
   show awpY P l xs (.ghost g x) _ F (some (pc k))
   rw [awpY_ghost,hF]
   refine awpY_mono (fun e F' p' q=>?_) (step k (by omega))
   cases e with
   | normal=>
    obtain ⟨h1,h2,rfl⟩:=q
    exact ih (k+1) F' (by omega) h2
   | exit i=>exact q
   | ret=>exact q
 exact ⟨n+1,key n 0 F (by omega) hF⟩
attribute [local simp ↓] awpY_skip awpY_seq awpY_cond awpY_block awpY_loop awpY_exit awpY_ret awpY_reg awpY_draw awpY_ghost awpY_yt awpY_yf stepY_eq awpY_scope awpY_label
attribute [local simp] coreY Fr.pure AV.pur
def natRow (i:Nat):List PV:=[.int .i64 i]
theorem g100 (t:List UInt8) (hl:t.length≤1000000):Gens Tryz.prog 100 [] [.ro [.str (ba t)]] ((stT t t.length).1.map natRow):=by
 refine gens mixed fn100 ok100 (by simp) fun l=>?_
 simp -dsimp [ac100]
 refine loopYP t.length (fun k=>⟨[(0,.p (.clo (.yield l) [] [])),(1,.p (.ro [.str (ba t)])),(3,.p (.clo (.func 101) [] [.ro [.str (ba t)]])),(4,.p (.int .i64 (stT t k).2)),(8,.p (.int .i64 t.length)),(9,.p (.int .i64 k))],[]⟩) (fun k=>(stT t k).1.length) (fun k hk=>?_) rfl (by simp [stT])
 obtain ⟨f,ef⟩:∃ f,(stT t k).2=f:=⟨_,rfl⟩
 have hf:f≤k:=ef ▸ stT_le t k
 by_cases h:k<t.length
 ·have wk:R ((k:Int)+1):=⟨by omega,by omega⟩
  have wf:R ((k:Int) - f):=⟨by omega,by omega⟩
  have hget:=ba_get h
  have yes:begT t k f=true→stT t (k+1)=((stT t k).1++[k],k):=fun e=>by simp only [stT,ef,e,if_true]
  have no:begT t k f=false→stT t (k+1)=stT t k:=fun e=>by simp [stT,ef,e]
  have item:begT t k f=true→(stT t t.length).1[(stT t k).1.length]?=some k:=fun e=>by
   obtain ⟨r,hr⟩:=stT_pre t (k+1) t.length h
   rw [yes e] at hr
   rw [←hr]
   simp
  have hrow:∀ x:Nat,natRow x=[.int .i64 (x:Int)]:=fun _=>rfl
  rw [ef]
  by_cases h0:k=0
  ·subst h0
   have hb:begT t 0 f=true:=by simp [begT]
   have hy:=yes hb
   have hi:=item hb
   simp -dsimp [h,hi,hy,hrow]
   skip
  have h0':¬(k:Int)=0:=by omega
  by_cases h6:(k:Int) - f=6
  ·have hb:begT t k f=true:=by simp [begT,h6]
   have hy:=yes hb
   have hi:=item hb
   simp -dsimp [h,h0,h0',h6,wr wk,wr wf,hi,hy,hrow]
   skip
  obtain ⟨m,em⟩:∃ m:Nat,(k:Int) - 1=m:=⟨k - 1,by omega⟩
  have em':k - 1=m:=by omega
  have wm:R (m:Int):=⟨by omega,by omega⟩
  have q1:=b101 t m (by omega)
  have q2:=b101 t k h
  have q3:=b102 (cT t k)
  simp -dsimp [h,h0,h0',h6,wr wk,wr wf,em,wr wm]
  refine call_p q1 (by simp) (by simp) ?_
  by_cases h1:clsT t m=1
  ·have hb:begT t k f=true:=by simp [begT,em',h1]
   have hy:=yes hb
   have hi:=item hb
   simp -dsimp [h,h0,h0',h6,h1,wr wk,wr wf,hi,hy,hrow]
   skip
  simp -dsimp [h,h1,hget]
  refine call_p q3 (by simp [cT]) (by simp) ?_
  by_cases h2:extN (cT t k)=true
  ·have hb:begT t k f=false:=by simp [begT,em',h0,h1,h2,h6]
   have hy:=no hb
   simp -dsimp [h,h2,wr wk,hy,ef]
   skip
  have h2':extN (cT t k)=false:=by simpa using h2
  simp -dsimp [h,h2']
  refine call_p q2 (by simp) (by simp) ?_
  by_cases h3:clsT t k=9
  ·simp -dsimp [h,h3,em,wr wm]
   refine call_p q1 (by simp) (by simp) ?_
   by_cases h4:clsT t m=10
   ·have hb:begT t k f=false:=by simp [begT,em',h0,h1,h2',h3,h4,h6]
    have hy:=no hb
    simp -dsimp [h,h4,wr wk,hy,ef]
    skip
   ·have hb:begT t k f=true:=by simp [begT,em',h1,h2',h3,h4]
    have hy:=yes hb
    have hi:=item hb
    simp -dsimp [h,h4,wr wk,hi,hy,hrow]
    skip
  ·have hb:begT t k f=true:=by simp [begT,em',h1,h2',h3]
   have hy:=yes hb
   have hi:=item hb
   simp -dsimp [h,h3,wr wk,hi,hy,hrow]
   skip
 ·have:k=t.length:=by omega
  subst this
  simp -dsimp [h]
end
section
def ac59:AC:=by
 apply fun (y:AC) (_:@Eq AC (qk [0] (qs (qr [(qp 2 (.mov (.c (.str ⟨#[]⟩))))]) (qk [0] (qs (qr [(qp 3 (.bslice 9 1 8 [.str ⟨#[]⟩,.str ⟨#[]⟩,.str ⟨#[]⟩,.str ⟨#[]⟩,.str ⟨#[]⟩,.str ⟨#[]⟩,.str ⟨#[]⟩,.str ⟨#[]⟩] [(0,1,.c (.str ⟨#[64,65,66,96,97]⟩)),(1,1,.c (.str ⟨#[104,105,106,128,129,144,145]⟩)),(2,1,.c (.str ⟨#[152,153,154,184,185,192,200]⟩)),(3,1,.c (.str ⟨#[32,48,33]⟩)),(4,1,.c (.str ⟨#[152,184,153]⟩)),(5,1,.c (.str ⟨#[104,105,240,128]⟩)),(6,1,.c (.str ⟨#[64,104,152]⟩)),(7,1,.c (.str ⟨#[10,32,241,240,53]⟩))])),(ym 4 0),(yj 5 1 3 4 [0,1]),(yk 6 5 [2]),(yn 2 6 [3,0,1,2,3])]) (qk [2] .ret))))) y)=>y
 dsimp
theorem fn59:factOf Tryz.prog 59=some (ac59.strip,[.tmp 2],7):=by kernel_rfl
theorem ok59:ac59.okAll=true:=by kernel_rfl
def ac18:AC:=by
 apply fun (y:AC) (_:@Eq AC (qk [] (qs (qr [(qp 0 (.mov (.c .nsl)))]) (qk [] (qs (qr [(qp 3 (.build [.int .i64 0,.int .i64 0,.int .i64 0,.nsl] [(0,1,.c (.int .i64 32)),(2,1,.c (.int .i64 16))])),(qp 4 (.build [.int .i64 0,.int .i64 0,.int .i64 0,.nsl] [(0,1,.c (.int .i64 64)),(2,1,.c (.int .i64 32))])),(qp 5 (.build [.int .i64 0,.int .i64 0,.int .i64 0,.nsl] [(0,1,.c (.int .i64 65)),(2,1,.c (.int .i64 40))])),(qi 6 (.bslice 89 4 3 [.int .i64 0,.int .i64 0,.int .i64 0,.nsl,.int .i64 0,.int .i64 0,.int .i64 0,.nsl,.int .i64 0,.int .i64 0,.int .i64 0,.nsl] [(0,4,.v 3),(4,4,.v 4),(8,4,.v 5)]) [0,1,2]),(qp 7 (.build [.int .i64 0,.int .i64 0,.int .i64 0] [(0,1,.c (.int .i64 64)),(1,1,.c (.int .i64 65)),(2,1,.c (.int .i64 (-8)))])),(qi 8 (.bslice 91 3 1 [.int .i64 0,.int .i64 0,.int .i64 0] [(0,3,.v 7)]) [4]),(qi 9 (.build [.str ⟨#[]⟩,.int .i64 0,.nsl,.nsl,.int .i64 0,.nsl,.nsl,.nsl,.str ⟨#[]⟩] [(0,1,.c (.str ⟨#[99]⟩)),(1,1,.c (.int .i64 1)),(4,1,.c (.int .i64 1)),(5,1,.v 6),(6,1,.v 8)]) [3,5]),(qp 1 (.alloc [.str ⟨#[]⟩,.int .i64 0,.nsl,.nsl,.int .i64 0,.nsl,.nsl,.nsl,.str ⟨#[]⟩])),(qo (.store 9 (.v 1) (.v 9)) [7,6,0,1,2,3,4,5,6,7])]) (.ghost (.freeze (6,0)) (.ghost (.freeze (8,0)) (qk [1] (qs (qr [(qp 10 (.build [.int .i64 0,.int .i64 0,.int .i64 0,.nsl] [(0,1,.c (.int .i64 65)),(2,1,.c (.int .i64 64))])),(qp 11 (.build [.int .i64 0,.int .i64 0,.int .i64 0,.nsl] [(0,1,.c (.int .i64 104)),(2,1,.c (.int .i64 64))])),(qi 12 (.bslice 89 4 2 [.int .i64 0,.int .i64 0,.int .i64 0,.nsl,.int .i64 0,.int .i64 0,.int .i64 0,.nsl] [(0,4,.v 10),(4,4,.v 11)]) [0,1]),(qi 13 (.build [.str ⟨#[]⟩,.int .i64 0,.nsl,.nsl,.int .i64 0,.nsl,.nsl,.nsl,.str ⟨#[]⟩] [(0,1,.c (.str ⟨#[100]⟩)),(1,1,.c (.int .i64 1)),(4,1,.c (.int .i64 1)),(5,1,.v 12)]) [2]),(qp 2 (.alloc [.str ⟨#[]⟩,.int .i64 0,.nsl,.nsl,.int .i64 0,.nsl,.nsl,.nsl,.str ⟨#[]⟩])),(qo (.store 9 (.v 2) (.v 13)) [4,3,0,1,2,3,4])]) (.ghost (.freeze (12,0)) (qk [1,2] (qs (qr [(qp 14 (qt 9 1)),(qp 15 (qt 9 2)),(qi 16 (.bslice 40 9 2 [.str ⟨#[]⟩,.int .i64 0,.nsl,.nsl,.int .i64 0,.nsl,.nsl,.nsl,.str ⟨#[]⟩,.str ⟨#[]⟩,.int .i64 0,.nsl,.nsl,.int .i64 0,.nsl,.nsl,.nsl,.str ⟨#[]⟩] [(0,9,.v 14),(9,9,.v 15)]) [0,1]),(yn 0 16 [2,0,1,2])]) (qk [0] .ret)))))))))))) y)=>y
 dsimp
theorem fn18:factOf Tryz.prog 18=some (ac18.strip,[.tmp 0],17):=by kernel_rfl
theorem ok18:ac18.okAll=true:=by kernel_rfl
def ac23:AC:=by
 apply fun (y:AC) (_:@Eq AC (let e0:=[0,1,5,6];(qk [0,1] (qs (qr [(qp 4 (.mov (.c (.str ⟨#[]⟩))))]) (qk [0,1] (qs (qr [(qp 5 (.mov (.c .nsl)))]) (.ghost (.own 5 41 5 1) (qk [0,1,5] (qs (qs (qr [(qp 6 (.mov (qz 0)))]) (qk e0 (.block 0 (.loop (qk e0 (qs (qs (qr [(ym 9 6),(ym 10 0),(yh 11 10 [1]),(yb 12 .lss 9 11 [0,2]),(yn 13 12 [3]),(qg 14 (qm 6) 13 true [4]),(qg 15 (qm 1) 13 true [4]),(qg 16 (qb .lss 14 15) 13 true [5,6,4]),(qi 17 (.pick (.v 13) (.v 16) (.c (.bool false))) [4,7])]) (qk [0,1,5,6,17] (qq (.v 17) .skip (.exit 0)))) (qk e0 (qs (.block 1 (qs (qr [(ym 20 0),(ym 21 6),(yj 22 1 20 21 [0,1]),(yk 23 22 [2]),(yn 7 23 [3,0,1,2,3])]) (qk [0,1,5,6,7] (qs (qs (qr [(ym 24 7),(yc 25 .lss 24 (qz 0) [0])]) (qk [0,1,5,6,7,25] (qq (.v 25) (qr [(ym 26 7),(yc 27 .add 26 (qz 1) [0]),(qi 28 (.un .neg (.v 27)) [1]),(yn 7 28 [2,0,1,2])]) .skip))) (qk [0,1,5,6,7] (qs (qr [(ym 29 7),(yc 30 .rem 29 (qz 8) [0]),(qi 31 (.call 59 [.v 30]) [1]),(yn 8 31 [2,2,0,1,2])]) (qk [0,1,5,6,7,8] (qr [(ym 32 5),(ym 33 8),(ym 34 7),(yc 35 .quo 34 (qz 8) [2]),(ym 36 8),(qi 37 (.len true (.v 36)) [4]),(yb 38 .rem 35 37 [3,5]),(qi 39 (.idxS (.v 33) (.v 38)) [1,6]),(qi 40 (.bslice 5 1 1 [.int .u8 0] [(0,1,.v 39)]) [7]),(qi 41 (.app 5 1 1 (.v 32) (.v 40)) [0,8]),(yn 5 41 [9,9,0,1,2,3,4,5,6,7,8,9])])))))))) (qk e0 (.ghost (.canV 5 (41,0)) (qr [(ym 18 6),(yc 19 .add 18 (qz 1) [0]),(yn 6 19 [1,0,1])]))))))))))) (qk [5] (qs (qr [(ym 42 5),(qi 43 (.b2s (.v 42)) [0]),(yn 4 43 [1,0,1])]) (qk [4] .ret))))))))))) y)=>y
 dsimp
theorem fn23:factOf Tryz.prog 23=some (ac23.strip,[.tmp 4],44):=by kernel_rfl
theorem ok23:ac23.okAll=true:=by kernel_rfl
end
section
attribute [local simp] ba_size wb ba_at w1
set_option maxHeartbeats 400000
attribute [local simp] evC
def poolL:Nat→List UInt8
 | 0=>[64,65,66,96,97]
 | 1=>[104,105,106,128,129,144,145]
 | 2=>[152,153,154,184,185,192,200]
 | 3=>[32,48,33]
 | 4=>[152,184,153]
 | 5=>[104,105,240,128]
 | 6=>[64,104,152]
 | _=>[10,32,241,240,53]
theorem poolL_len (k:Nat):0<(poolL k).length∧(poolL k).length≤7:=by
 unfold poolL;split<;>simp
theorem b59 (k:Nat) (h:k<8):Best Tryz.prog 59 [.int .i64 k] (.p (.str (ba (poolL k)))):=by
 refine best mixed fn59 ok59 (by simp) ?_
 match k,h with
 | 0,_=>simp -dsimp [ac59,List.range,List.range.loop];rfl
 | 1,_=>simp -dsimp [ac59,List.range,List.range.loop];rfl
 | 2,_=>simp -dsimp [ac59,List.range,List.range.loop];rfl
 | 3,_=>simp -dsimp [ac59,List.range,List.range.loop];rfl
 | 4,_=>simp -dsimp [ac59,List.range,List.range.loop];rfl
 | 5,_=>simp -dsimp [ac59,List.range,List.range.loop];rfl
 | 6,_=>simp -dsimp [ac59,List.range,List.range.loop];rfl
 | 7,_=>simp -dsimp [ac59,List.range,List.range.loop];rfl
theorem bytesO_map:∀ l:List UInt8,bytesO (l.map byteRow)=some (l.map fun b=>(b.toNat:Int))
 | []=>rfl
 | b :: l=>by simp [byteRow,bytesO,bytesO_map l]
theorem strB_map (l:List UInt8):strB (l.map fun b=>(b.toNat:Int))=ba l:=by
 unfold strB ba
 congr 1
 rw [List.map_map]
 congr 1
 have:(fun n:Int=>UInt8.ofNat n.toNat) ∘ (fun b:UInt8=>(b.toNat:Int))=id:=by
  funext b;simp
 rw [this,List.map_id]
def chrN (u:Nat):UInt8:=(poolL (u % 8)).getD (u / 8 % (poolL (u % 8)).length) 0
def absN (v:Int):Nat:=(if v<0 then -(v+1) else v).toNat
def texL (l:List Int) (k:Nat):List UInt8:=(l.take k).map fun v=>chrN (absN v)
theorem texL_succ {l:List Int} {k:Nat} {v:Int} (h:l[k]?=some v):texL l (k+1)=texL l k++[chrN (absN v)]:=by
 simp [texL,List.take_add_one,h]
theorem b23 (l:List Int) (hl:l.length≤9223372036854775807) (hR:∀ v∈l,R v) (mx:Nat) (hmx:mx≤1000):Best Tryz.prog 23 [.sl 1 (l.map intRow),.int .i64 mx] (.p (.str (ba (texL l (min l.length mx))))):=by
 refine best mixed fn23 ok23 (by simp) ?_
 obtain ⟨n,en⟩:∃ n,min l.length mx=n:=⟨_,rfl⟩
 rw [en]
 simp -dsimp [ac23]
 refine loopC n (fun k=>⟨[(0,.p (.sl 1 (l.map intRow))),(1,.p (.int .i64 mx)),(5,.ref (41,0) 1 0 k),(6,.p (.int .i64 k))],[((41,0),.sl 5 1 ((texL l k).map byteRow))]⟩) (fun _=>True) (fun k hk _=>?_) trivial (by simp [texL])
 have hLl:(texL l k).length=k:=by simp [texL];omega
 by_cases h:k<n
 ·have h1:k<l.length:=by omega
  have h2:k<mx:=by omega
  have h1':(k:Int)<l.length:=by omega
  have h2':(k:Int)<mx:=by omega
  obtain ⟨v,ex⟩:∃ v,l[k]=v:=⟨_,rfl⟩
  have hv:R v:=hR v (by rw [←ex];simp)
  have hs:=texL_succ (l:=l) (k:=k) (v:=v) (by rw [List.getElem?_eq_getElem h1,ex])
  have wk:R ((k:Int)+1):=⟨by omega,by omega⟩
  have m1:k+1≤maxLen:=by unfold maxLen;omega
  have e1:k+1≤140737488355328:=by omega
  have wv:v<0→R (v+1):=fun _=>by obtain ⟨a,b⟩:=hv;exact ⟨by omega,by omega⟩
  have wv2:v<0→R (-(v+1)):=fun _=>by obtain ⟨a,b⟩:=hv;exact ⟨by omega,by omega⟩
  obtain ⟨u,eu⟩:∃ u,absN v=u:=⟨_,rfl⟩
  have hneg:v<0→-(v+1)=(u:Int):=fun q=>by
   have:absN v=(-(v+1)).toNat:=by unfold absN;rw [if_pos q]
   omega
  have hpos:¬v<0→v=(u:Int):=fun q=>by
   have:absN v=v.toNat:=by unfold absN;rw [if_neg q]
   omega
  have wu:R (u:Int):=by
   by_cases q:v<0
   ·rw [←hneg q];exact wv2 q
   ·rw [←hpos q];exact hv
  have t1:(u:Int).tmod 8=((u % 8:Nat):Int):=rfl
  have t2:(u:Int).tdiv 8=((u / 8:Nat):Int):=rfl
  have wt1:R ((u % 8:Nat):Int):=⟨by omega,by omega⟩
  have wt2:R ((u / 8:Nat):Int):=⟨by omega,by obtain ⟨_,b⟩:=wu;omega⟩
  obtain ⟨pl1,pl2⟩:=poolL_len (u % 8)
  have q59:=b59 (u % 8) (by omega)
  obtain ⟨p,ep⟩:∃ p,poolL (u % 8)=p:=⟨_,rfl⟩
  have hc:chrN u=bT p (u / 8 % p.length):=by unfold chrN bT;rw [ep]
  rw [ep] at pl1 pl2 q59
  have t3:((u / 8:Nat):Int).tmod (p.length:Int)=((u / 8 % p.length:Nat):Int):=rfl
  have hx:u / 8 % p.length<p.length:=Nat.mod_lt _ pl1
  have wt3:R ((u / 8 % p.length:Nat):Int):=⟨by omega,by omega⟩
  have n3:¬p=[]:=fun e=>by rw [e] at pl1;simp at pl1
  rw [eu,hc] at hs
  have c8:((u % 8:Nat):Int)=(u:Int) % 8:=by omega
  have c9:((u / 8:Nat):Int)=(u:Int) / 8:=by omega
  rw [c8] at q59 t1 wt1
  rw [c9] at t2 wt2 t3
  obtain ⟨x,exx⟩:∃ x,u / 8 % p.length=x:=⟨_,rfl⟩
  rw [exx] at hs t3 hx wt3
  have hget:=ba_get hx
  obtain ⟨L,eL⟩:∃ L,texL l k=L:=⟨_,rfl⟩
  rw [eL] at hs hLl
  rw [eL,hs]
  have ht:List.take (k+1) (L.map byteRow++[[.int .u8 (bT p x).toNat]])=L.map byteRow++[[.int .u8 (bT p x).toNat]]:=List.take_of_length_le (by simp;omega)
  by_cases hn:v<0
  ·simp -dsimp [h,h1,h2,h1',h2',ex,intRow,hn,wr (wv hn),hneg hn,wr wu,t1,wr wt1]
   refine call_p q59 (by simp) (by simp) ?_
   simp -dsimp [wr wu,t2,wr wt2,t3,wr wt3,n3,hx,hget,h,m1,e1,hLl,byteRow,ht,wr wk,List.range,List.range.loop,-List.all_eq_true]
  ·have hvu:=hpos hn
   subst hvu
   simp -dsimp [h,h1,h2,h1',h2',ex,intRow,hn,wr wu,t1,wr wt1]
   refine call_p q59 (by simp) (by simp) ?_
   simp -dsimp [wr wu,t2,wr wt2,t3,wr wt3,n3,hx,hget,h,m1,e1,hLl,byteRow,ht,wr wk,List.range,List.range.loop,-List.all_eq_true]
 ·have:k=n:=by omega
  subst this
  have ht:List.take k ((texL l k).map byteRow)=(texL l k).map byteRow:=List.take_of_length_le (by simp [hLl])
  have hb:=bytesO_map (texL l k)
  have hst:=strB_map (texL l k)
  have hc:¬((k:Int)<l.length∧(k:Int)<mx):=by omega
  by_cases hc1:(k:Int)<l.length
  ·have hc2:¬(k:Int)<mx:=fun e=>hc ⟨hc1,e⟩
   have hc3:k<l.length:=by omega
   have hc4:¬k<mx:=by omega
   simp -dsimp [hc1,hc2,hc3,hc4,ht,hb,hst,hLl]
  ·have hc3:¬k<l.length:=by omega
   simp -dsimp [hc1,hc3,ht,hb,hst,hLl]
end
end Go.Abs.A29
