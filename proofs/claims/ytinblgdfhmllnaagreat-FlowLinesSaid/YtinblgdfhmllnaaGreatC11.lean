/- A part of the proof: an abstract reading of the model, contracts of functions. -/
import Derived.Test.YtinblgdfhmllnaaGreatC10
import Derived.Test.YtinblgdfhmllnaaGreatProg
namespace Go.Abs.A29
open Go Go.Abs Go.Proofs
set_option maxRecDepth 100000
set_option linter.unusedVariables false
set_option linter.unusedSimpArgs false
attribute [local simp ↓] awp_skip awp_seq awp_cond awp_block awp_exit awp_ret awp_reg awp_draw awp_ghost awp_loop awp_rfun awpR_nil awpR_cons awpX_nil awpX_0 awpX_1 awpX_2 awpI_eq awpI_t awpI_f awpStep_eq
attribute [local simp] condL_true condL_false condL_dec evDel evV evN evS evA initFr Ghost.app Fr.var Fr.blk Fr.ff FF.val Abs.look Fr.app Fr.erase Fr.noSlot AV.noSlot AV.noSlotL Blk.noSlot Fr.spoken AV.fz AV.fzL Blk.fz binV binI shI binS unV fillA FF.parts FF.vals headO intO boundO lenV scalarEq leavesEq AV.aggc AV.cells FF.read FF.rows AV.one PV.one chunk freshB newS pickV retK evRs evRl evR resOf mkTup mkAgg allP cloOf okP_nil okX_p okX okP addN Del.noSlot Del.owners Rnd reify_p normM insM Fr.back Fr.backV Fr.setPs normV insV
attribute [local simp] renF Fr.trim Blk.trim AV.rn AV.rnL Blk.rn AV.among AV.amongL Blk.among okF retM fixS BIG initFF
attribute [local simp] FF.reify FF.reifyL PV.flat
attribute [local simp] ym yn yl yk yb yc yf yj yh qp qe qi qo qg qa qk qz qm ql qt qf qj qn qb qc qs qr qq qd
section
def ac132:AC:=by
 apply fun (y:AC) (_:@Eq AC (qk [0,1,2] (qs (qr [(qp 6 (.alloc [.int .i64 0,.int .i64 0,.int .i64 0]))]) (qk [0,1,2,6] (qs (qr [(ym 10 0),(yc 11 .rem 10 (qz 129) [0]),(yc 12 .sub 11 (qz 64) [1]),(qi 13 (.bslice 3 1 7 [.int .i64 0,.int .i64 0,.int .i64 0,.int .i64 0,.int .i64 0,.int .i64 0,.int .i64 0] [(0,1,.c (.int .i64 0)),(1,1,.c (.int .i64 0)),(2,1,.c (.int .i64 64)),(3,1,.c (.int .i64 (-64))),(4,1,.c (.int .i64 32)),(5,1,.c (.int .i64 (-16))),(6,1,.v 12)]) [2]),(ym 14 0),(yc 15 .quo 14 (qz 129) [4]),(yc 16 .rem 15 (qz 7) [5]),(yj 17 1 13 16 [3,6]),(yk 18 17 [7]),(yn 7 18 [8,0,1,2,3,4,5,6,7,8])]) (qk [1,2,6,7] (qs (qr [(ym 19 1),(yc 20 .rem 19 (qz 65) [0]),(yn 8 20 [1,0,1])]) (qk [2,6,7,8] (qs (qr [(ym 21 2),(yc 22 .rem 21 (qz 65) [0]),(yn 9 22 [1,0,1])]) (qk [6,7,8,9] (qs (qs (qr [(ym 23 7),(yc 24 .gtr 23 (qz 0) [0])]) (qk [6,7,8,9,24] (qq (.v 24) (qs (qr [(ym 25 8),(ym 26 7),(qi 27 (.mm false (.v 25) (.v 26)) [0,1]),(ym 28 7),(ym 29 9),(ym 30 7),(qi 31 (.mm true (.v 29) (.v 30)) [4,5]),(qi 32 (.build [.int .i64 0,.int .i64 0,.int .i64 0] [(0,1,.v 27),(1,1,.v 28),(2,1,.v 31)]) [2,3,6]),(qo (.store 3 (.v 6) (.v 32)) [7,0,1,2,3,4,5,6,7])]) (qk [6] .ret)) .skip))) (qk [6,7,8,9] (qs (qs (qr [(ym 33 7),(yc 34 .lss 33 (qz 0) [0])]) (qk [6,7,8,9,34] (qq (.v 34) (qs (qr [(ym 35 8),(qi 36 (.un .neg (.v 35)) [0]),(ym 37 7),(qi 38 (.mm false (.v 36) (.v 37)) [1,2]),(ym 39 7),(ym 40 9),(qi 41 (.un .neg (.v 40)) [5]),(ym 42 7),(qi 43 (.mm true (.v 41) (.v 42)) [6,7]),(qi 44 (.build [.int .i64 0,.int .i64 0,.int .i64 0] [(0,1,.v 38),(1,1,.v 39),(2,1,.v 43)]) [3,4,8]),(qo (.store 3 (.v 6) (.v 44)) [9,0,1,2,3,4,5,6,7,8,9])]) (qk [6] .ret)) .skip))) (qk [6,8,9] (qs (qr [(ym 45 8),(qi 46 (.un .neg (.v 45)) [0]),(ym 47 9),(qi 48 (.build [.int .i64 0,.int .i64 0,.int .i64 0] [(0,1,.v 46),(1,1,.c (.int .i64 0)),(2,1,.v 47)]) [1,2]),(qo (.store 3 (.v 6) (.v 48)) [3,0,1,2,3])]) (qk [6] .ret))))))))))))))) y)=>y
 dsimp
theorem fn132:factOf Tryz.prog 132=some (ac132.strip,[.cell 6 true 3],49):=by kernel_rfl
theorem ok132:ac132.okAll=true:=by kernel_rfl
def ac148:AC:=by
 apply fun (y:AC) (_:@Eq AC (qk [0] (qs (qr [(qp 2 (.mov (.c (.bool false))))]) (qk [0] (qs (qs (qr [(ym 5 0),(yh 6 5 [0]),(qp 7 (.mov (qz 0)))]) (qk [5,6,7] (.block 0 (.loop (qk [5,6,7] (qs (qr [(qp 8 (qb .lss 7 6))]) (qk [5,6,7,8] (qs (qq (.v 8) .skip (.exit 0)) (qk [5,6,7] (qs (.block 1 (qs (qr [(qp 9 (qj 1 5 7)),(yk 10 9 [0]),(yn 4 10 [1,0,1])]) (qk [4,5,6,7] (qs (qr [(ym 11 4),(yc 12 .lss 11 (qz (-1048576)) [0]),(yn 13 12 [1]),(qg 14 (qm 4) 13 false [2]),(qg 15 (qc .gtr 14 (qz 1048576)) 13 false [3,2]),(qi 16 (.pick (.v 13) (.c (.bool true)) (.v 15)) [2,4])]) (qk [5,6,7,16] (qq (.v 16) (qs (qr [(qp 2 (.mov (.c (.bool false))))]) (qk [2] .ret)) .skip)))))) (qk [5,6,7] (qr [(qp 17 (qc .add 7 (qz 1))),(yn 7 17 [0])])))))))))))) (qk [] (qs (qr [(qp 2 (.mov (.c (.bool true))))]) (qk [2] .ret))))))) y)=>y
 dsimp
theorem fn148:factOf Tryz.prog 148=some (ac148.strip,[.tmp 2],18):=by kernel_rfl
theorem ok148:ac148.okAll=true:=by kernel_rfl
def ac149:AC:=by
 apply fun (y:AC) (_:@Eq AC (qk [0] (qs (qr [(qp 1 (.box (.v 0))),(qp 2 (.mov (.c (.bool false))))]) (qk [1] (qs (qr [(qp 3 (qf 1 1)),(yk 4 3 [0]),(yc 5 .geq 4 (qz 1) [1]),(yn 6 5 [2]),(qg 7 (qf 1 1) 6 true [3]),(qg 8 (ql 7) 6 true [4,3]),(qg 9 (qc .leq 8 (qz 262144)) 6 true [5,3]),(qi 10 (.pick (.v 6) (.v 9) (.c (.bool false))) [3,6]),(yn 11 10 [7,3]),(qg 12 (qf 0 1) 11 true [8]),(qg 13 (ql 12) 11 true [9,8]),(qg 14 (qc .geq 13 (qz 0)) 11 true [10,8]),(qi 15 (.pick (.v 11) (.v 14) (.c (.bool false))) [8,11]),(yn 16 15 [12,8]),(qg 17 (qf 0 1) 16 true [13]),(qg 18 (ql 17) 16 true [14,13]),(qg 19 (qf 1 1) 16 true [13]),(qg 20 (ql 19) 16 true [16,13]),(qg 21 (qb .leq 18 20) 16 true [15,17,13]),(qi 22 (.pick (.v 16) (.v 21) (.c (.bool false))) [13,18]),(yn 23 22 [19,13]),(qg 24 (qf 0 1) 23 true [20]),(qg 25 (ql 24) 23 true [21,20]),(qg 26 (qf 1 1) 23 true [20]),(qg 27 (ql 26) 23 true [23,20]),(qg 28 (.call 176 [.v 25,.v 27]) 23 true [22,24,20,20]),(qg 29 (qc .eql 28 (qz 1)) 23 true [25,20]),(qi 30 (.pick (.v 23) (.v 29) (.c (.bool false))) [20,26]),(yn 2 30 [27,25,0,1,2,3,4,5,6,7,8,9,10,11,12,13,14,15,16,17,18,19,20,21,22,23,24,25,26,27])]) (qk [2] .ret))))) y)=>y
 dsimp
theorem fn149:factOf Tryz.prog 149=some (ac149.strip,[.tmp 2],31):=by kernel_rfl
theorem ok149:ac149.okAll=true:=by kernel_rfl
def ac150:AC:=by
 apply fun (y:AC) (_:@Eq AC (qk [0] (qs (qr [(qp 2 (.mov (.c (.bool false))))]) (qk [0] (qs (qr [(ym 3 0),(qi 4 (.call 151 [.v 3]) [0]),(qi 5 (.un .not (.v 4)) [1]),(yn 2 5 [2,1,0,1,2])]) (qk [2] .ret))))) y)=>y
 dsimp
theorem fn150:factOf Tryz.prog 150=some (ac150.strip,[.tmp 2],6):=by kernel_rfl
theorem ok150:ac150.okAll=true:=by kernel_rfl
def ac151:AC:=by
 apply fun (y:AC) (_:@Eq AC (qk [0] (qs (qr [(qp 2 (.mov (.c (.bool false))))]) (qk [0] (qs (qr [(ym 3 0),(qi 4 (.bin .leq (qz (-64)) (.v 3)) [0]),(yn 5 4 [1]),(qg 6 (qm 0) 5 true [2]),(qg 7 (qc .leq 6 (qz 64)) 5 true [3,2]),(qi 8 (.pick (.v 5) (.v 7) (.c (.bool false))) [2,4]),(yn 2 8 [5,2,0,1,2,3,4,5])]) (qk [2] .ret))))) y)=>y
 dsimp
theorem fn151:factOf Tryz.prog 151=some (ac151.strip,[.tmp 2],9):=by kernel_rfl
theorem ok151:ac151.okAll=true:=by kernel_rfl
def ac152:AC:=by
 apply fun (y:AC) (_:@Eq AC (qk [0] (qs (qr [(qp 1 (.box (.v 0))),(qp 2 (.mov (.c (.bool false))))]) (qk [1] (qs (qr [(qp 3 (qt 3 1)),(qi 4 (.call 153 [.v 3]) [0]),(qi 5 (.un .not (.v 4)) [1]),(yn 2 5 [2,1,0,1,2])]) (qk [2] .ret))))) y)=>y
 dsimp
theorem fn152:factOf Tryz.prog 152=some (ac152.strip,[.tmp 2],6):=by kernel_rfl
theorem ok152:ac152.okAll=true:=by kernel_rfl
def ac153:AC:=by
 apply fun (y:AC) (_:@Eq AC (qk [0] (qs (qr [(qp 1 (.box (.v 0))),(qp 2 (.mov (.c (.bool false))))]) (qk [1] (qs (qr [(qp 3 (qf 0 1)),(yk 4 3 [0]),(qi 5 (.call 151 [.v 4]) [1]),(yn 6 5 [2,2]),(qg 7 (qf 0 1) 6 true [3]),(qg 8 (ql 7) 6 true [4,3]),(qg 9 (qf 1 1) 6 true [3]),(qg 10 (ql 9) 6 true [6,3]),(qg 11 (qb .leq 8 10) 6 true [5,7,3]),(qi 12 (.pick (.v 6) (.v 11) (.c (.bool false))) [3,8]),(yn 13 12 [9,3]),(qg 14 (qf 1 1) 13 true [10]),(qg 15 (ql 14) 13 true [11,10]),(qg 16 (qf 2 1) 13 true [10]),(qg 17 (ql 16) 13 true [13,10]),(qg 18 (qb .leq 15 17) 13 true [12,14,10]),(qi 19 (.pick (.v 13) (.v 18) (.c (.bool false))) [10,15]),(yn 20 19 [16,10]),(qg 21 (qf 2 1) 20 true [17]),(qg 22 (ql 21) 20 true [18,17]),(qg 23 (.call 151 [.v 22]) 20 true [19,17,17]),(qi 24 (.pick (.v 20) (.v 23) (.c (.bool false))) [17,20]),(yn 25 24 [21,20]),(qg 26 (qf 1 1) 25 true [22]),(qg 27 (ql 26) 25 true [23,22]),(qg 28 (qc .eql 27 (qz 0)) 25 true [24,22]),(qg 29 (qm 28) 25 true [25,22,22]),(qg 30 (qf 0 1) 29 false [26]),(qg 31 (ql 30) 29 false [27,26]),(qg 32 (qc .geq 31 (qz 0)) 29 false [28,26]),(qg 33 (.pick (.v 29) (.c (.bool true)) (.v 32)) 25 true [26,29,22]),(qg 34 (qm 33) 25 true [30,26,22]),(qg 35 (qf 2 1) 34 false [31]),(qg 36 (ql 35) 34 false [32,31]),(qg 37 (qc .leq 36 (qz 0)) 34 false [33,31]),(qg 38 (.pick (.v 34) (.c (.bool true)) (.v 37)) 25 true [31,34,22]),(qi 39 (.pick (.v 25) (.v 38) (.c (.bool false))) [22,35]),(yn 2 39 [36,31,0,1,2,3,4,5,6,7,8,9,10,11,12,13,14,15,16,17,18,19,20,21,22,23,24,25,26,27,28,29,30,31,32,33,34,35,36])]) (qk [2] .ret))))) y)=>y
 dsimp
theorem fn153:factOf Tryz.prog 153=some (ac153.strip,[.tmp 2],40):=by kernel_rfl
theorem ok153:ac153.okAll=true:=by kernel_rfl
def ac154:AC:=by
 apply fun (y:AC) (_:@Eq AC (qk [0,1] (qs (qr [(qp 4 (.mov (.c (.bool false))))]) (qk [0,1] (qs (qr [(ym 5 0),(ym 6 1),(qi 7 (.call 177 [.v 5,.v 6]) [0,1]),(yc 8 .geq 7 (qz 0) [2]),(yn 4 8 [3,2,0,1,2,3])]) (qk [4] .ret))))) y)=>y
 dsimp
theorem fn154:factOf Tryz.prog 154=some (ac154.strip,[.tmp 4],9):=by kernel_rfl
theorem ok154:ac154.okAll=true:=by kernel_rfl
def ac155:AC:=by
 apply fun (y:AC) (_:@Eq AC (qk [0,1] (qs (qr [(qp 2 (.box (.v 0))),(qp 3 (.box (.v 1))),(qp 4 (.mov (.c .nfn)))]) (qk [2,3] (qs (qr [(qp 5 (.mkfn (.func 178) [] [.v 2,.v 3])),(yn 4 5 [0,0])]) (qk [4] .ret))))) y)=>y
 dsimp
theorem fn155:factOf Tryz.prog 155=some (ac155.strip,[.tmp 4],6):=by kernel_rfl
theorem ok155:ac155.okAll=true:=by kernel_rfl
def ac156:AC:=by
 apply fun (y:AC) (_:@Eq AC (let e0:=[6,19,20,21,22,23,26,27];let e1:=[6,19,20,21,22,23,24,25];let e2:=[0,1,2,3,4,5,6];let e3:=[21,22,24,25,26,27,28];let e4:=[19,20,24,25,26,27,28];let e5:=[0,1,2,3,4];(qk [0,1] (qs (qr [(qp 2 (.box (.v 0))),(qp 3 (.box (.v 1))),(qp 4 (.alloc [.int .i64 0,.int .i64 0])),(qp 5 (.mov (.c (.bool false))))]) (qk [2,3,4] (qs (qs (qr [(qp 10 (qt 2 2)),(qi 11 (.call 149 [.v 10]) [0]),(qi 12 (.un .not (.v 11)) [1]),(yn 13 12 [2,1]),(qg 14 (qt 2 3) 13 false [3]),(qg 15 (.call 149 [.v 14]) 13 false [4,3,3]),(qg 16 (.un .not (.v 15)) 13 false [5,3]),(qi 17 (.pick (.v 13) (.c (.bool true)) (.v 16)) [3,6])]) (qk [2,3,4,17] (qq (.v 17) (qs (qr [(qp 18 (.build [.int .i64 0,.int .i64 0] [])),(qo (.store 2 (.v 4) (.v 18)) [0,0]),(qi 5 (.mov (.c (.bool false))) [1,0,1])]) (qk [4,5] .ret)) .skip))) (qk [2,3,4] (qs (qd [(qe (qp 19 (qf 0 2)) e3 [] 2),(qe (yk 20 19 [0]) e3 [] 2),(qe (qp 21 (qf 0 3)) e4 [0,1] 2),(qe (yk 22 21 [2]) e4 [0,1] 2),(qe (yb 23 .mul 20 22 [1,3]) [24,25,26,27,28] [] 2),(qe (qp 24 (qf 1 2)) e0 e5 2),(qe (yk 25 24 [5]) e0 e5 2),(qe (qp 26 (qf 1 3)) e1 e2 2),(qe (yk 27 26 [7]) e1 e2 2),(qe (yb 28 .mul 25 27 [6,8]) [6,19,20,21,22,23] e5 2),(qe (yn 6 23 [4,0,1,2,3,4]) [24,25,26,27,28] [5,6,7,8,9] 2),(qe (yn 7 28 [9,10,0,1,2,3,4,5,6,7,8,9,10]) [] [] 2)]) (qk [4,6,7] (qs (qr [(ym 29 6),(ym 30 7),(qi 31 (.call 179 [.v 29,.v 30]) [0,1]),(yn 8 31 [2,2,0,1,2])]) (qk [4,6,7,8] (qs (qd [(qa (ym 32 6) [9,33,35,36,37] [9] [] [] 2),(qa (ym 33 8) [9,32,35,36,37] [9] [] [0] 2),(qa (yb 34 .quo 32 33 [0,1]) [9,35,36,37] [9] [] [] 2),(qa (ym 35 7) [9,32,33,34,36] [9] [] [0,1,2] 2),(qa (ym 36 8) [9,32,33,34,35] [9] [] [0,1,2,3] 2),(qa (yb 37 .quo 35 36 [3,4]) [9,32,33,34] [9] [] [0,1,2] 2),(qa (qi 38 (.build [.int .i64 0,.int .i64 0] [(0,1,.v 34),(1,1,.v 37)]) [2,5]) [9] [9] [] [] 2),(qa (qp 9 (.alloc [.int .i64 0,.int .i64 0])) [32,33,34,35,36,37,38] [] [9] e2 1),(qa (qo (.store 2 (.v 9) (.v 38)) [7,6,0,1,2,3,4,5,6,7]) [] [] [9] [] 1)]) (qk [4,9] (qs (qs (qr [(qp 39 (qf 1 9)),(yk 40 39 [0]),(yc 41 .gtr 40 (qz 262144) [1])]) (qk [4,9,41] (qq (.v 41) (qs (qr [(qp 42 (.build [.int .i64 0,.int .i64 0] [])),(qo (.store 2 (.v 4) (.v 42)) [0,0]),(qi 5 (.mov (.c (.bool false))) [1,0,1])]) (qk [4,5] .ret)) .skip))) (qk [4,9] (qs (qr [(qp 43 (qt 2 9)),(qo (.store 2 (.v 4) (.v 43)) [0,0]),(qi 5 (.mov (.c (.bool true))) [1,0,1])]) (qk [4,5] .ret)))))))))))))))) y)=>y
 dsimp
theorem fn156:factOf Tryz.prog 156=some (ac156.strip,[.cell 4 true 2,.tmp 5],44):=by kernel_rfl
theorem ok156:ac156.okAll=true:=by kernel_rfl
def ac157:AC:=by
 apply fun (y:AC) (_:@Eq AC (let e0:=[9,0,1,2,3,4,5,6,7,8,9];(qk [0,1] (qs (qr [(qp 2 (.box (.v 0))),(qp 4 (.alloc [.int .i64 0,.int .i64 0]))]) (qk [1,2,4] (qs (qr [(qp 7 (.build [.int .i64 0,.int .i64 0] [(0,1,.c (.int .i64 0)),(1,1,.c (.int .i64 1))])),(qp 5 (.alloc [.int .i64 0,.int .i64 0])),(qo (.store 2 (.v 5) (.v 7)) [1,0,0,1])]) (qk [1,2,4,5] (qs (.block 0 (qs (qs (qr [(qp 19 (qf 1 2)),(yk 20 19 [0]),(yc 21 .eql 20 (qz 0) [1]),(yn 18 21 [2])]) (qk [1,2,4,5,18] (qq (.v 18) .skip (qr [(ym 22 1),(qp 23 (qf 1 2)),(yk 24 23 [1]),(yb 25 .eql 22 24 [0,2]),(yn 18 25 [3])])))) (qk [1,2,4,5,18] (qq (.v 18) (qr [(qp 26 (qf 0 5)),(qo (.store 1 (.v 26) (qz 1)) [0])]) (qs (qs (qr [(ym 28 1),(qp 29 (qf 0 2)),(yk 30 29 [1]),(yb 31 .leq 28 30 [0,2]),(yn 27 31 [3])]) (qk [1,2,4,5,27] (qq (.v 27) .skip (qr [(ym 32 1),(qp 33 (qf 2 2)),(yk 34 33 [1]),(yb 35 .geq 32 34 [0,2]),(yn 27 35 [3])])))) (qk [1,2,4,5,27] (qq (.v 27) .skip (qs (qr [(ym 37 1),(qp 38 (qf 1 2)),(yk 39 38 [1]),(yb 40 .lss 37 39 [0,2]),(yn 36 40 [3])]) (qk [1,2,4,5,36] (qq (.v 36) (qr [(ym 41 1),(qp 42 (qf 0 2)),(yk 43 42 [1]),(yb 44 .sub 41 43 [0,2]),(qp 45 (qf 1 2)),(yk 46 45 [4]),(qp 47 (qf 0 2)),(yk 48 47 [6]),(yb 49 .sub 46 48 [5,7]),(qi 50 (.build [.int .i64 0,.int .i64 0] [(0,1,.v 44),(1,1,.v 49)]) [3,8]),(qo (.store 2 (.v 5) (.v 50)) e0)]) (qr [(qp 8 (qf 2 2)),(yk 9 8 [0]),(ym 10 1),(yb 11 .sub 9 10 [1,2]),(qp 12 (qf 2 2)),(yk 13 12 [4]),(qp 14 (qf 1 2)),(yk 15 14 [6]),(yb 16 .sub 13 15 [5,7]),(qi 17 (.build [.int .i64 0,.int .i64 0] [(0,1,.v 11),(1,1,.v 16)]) [3,8]),(qo (.store 2 (.v 5) (.v 17)) e0)]))))))))))) (qk [4,5] (qs (qr [(qp 51 (qf 0 5)),(yk 52 51 [0]),(qp 53 (qf 1 5)),(yk 54 53 [2]),(qi 55 (.call 180 [.v 52,.v 54]) [1,3]),(yn 6 55 [4,4,0,1,2,3,4])]) (qk [4,5,6] (qs (qd [(qe (qp 56 (qf 0 5)) [58,60,61,62,63] [] 2),(qe (yk 57 56 [0]) [58,60,61,62,63] [] 2),(qe (ym 58 6) [56,57,60,61,62,63] [0,1] 2),(qe (yb 59 .quo 57 58 [1,2]) [60,61,62,63] [] 2),(qe (qp 60 (qf 1 5)) [56,57,58,59,62] [0,1,2,3] 2),(qe (yk 61 60 [4]) [56,57,58,59,62] [0,1,2,3] 2),(qe (ym 62 6) [56,57,58,59,60,61] [0,1,2,3,4,5] 2),(qe (yb 63 .quo 61 62 [5,6]) [56,57,58,59] [0,1,2,3] 2),(qe (qi 64 (.build [.int .i64 0,.int .i64 0] [(0,1,.v 59),(1,1,.v 63)]) [3,7]) [] [] 2),(qa (qo (.store 2 (.v 4) (.v 64)) [8,0,1,2,3,4,5,6,7,8]) [] [] [4] [] 1)]) (qk [4] .ret)))))))))))) y)=>y
 dsimp
theorem fn157:factOf Tryz.prog 157=some (ac157.strip,[.cell 4 true 2],65):=by kernel_rfl
theorem ok157:ac157.okAll=true:=by kernel_rfl
def ac158:AC:=by
 apply fun (y:AC) (_:@Eq AC (qk [0] (qs (qr [(qp 1 (.box (.v 0))),(qp 2 (.mov (.c (.bool false))))]) (qk [1] (qs (qr [(qp 3 (qf 0 1)),(yk 4 3 [0]),(qi 5 (.bin .leq (qz (-64)) (.v 4)) [1]),(yn 6 5 [2]),(qg 7 (qf 0 1) 6 true [3]),(qg 8 (ql 7) 6 true [4,3]),(qg 9 (qf 1 1) 6 true [3]),(qg 10 (ql 9) 6 true [6,3]),(qg 11 (qb .leq 8 10) 6 true [5,7,3]),(qi 12 (.pick (.v 6) (.v 11) (.c (.bool false))) [3,8]),(yn 13 12 [9,3]),(qg 14 (qf 1 1) 13 true [10]),(qg 15 (ql 14) 13 true [11,10]),(qg 16 (qf 2 1) 13 true [10]),(qg 17 (ql 16) 13 true [13,10]),(qg 18 (qb .leq 15 17) 13 true [12,14,10]),(qi 19 (.pick (.v 13) (.v 18) (.c (.bool false))) [10,15]),(yn 20 19 [16,10]),(qg 21 (qf 2 1) 20 true [17]),(qg 22 (ql 21) 20 true [18,17]),(qg 23 (qc .leq 22 (qz 64)) 20 true [19,17]),(qi 24 (.pick (.v 20) (.v 23) (.c (.bool false))) [17,20]),(yn 25 24 [21,17]),(qg 26 (qf 1 1) 25 true [22]),(qg 27 (ql 26) 25 true [23,22]),(qg 28 (qc .eql 27 (qz 0)) 25 true [24,22]),(qg 29 (qm 28) 25 true [25,22,22]),(qg 30 (qf 0 1) 29 false [26]),(qg 31 (ql 30) 29 false [27,26]),(qg 32 (qc .geq 31 (qz 0)) 29 false [28,26]),(qg 33 (.pick (.v 29) (.c (.bool true)) (.v 32)) 25 true [26,29,22]),(qg 34 (qm 33) 25 true [30,26,22]),(qg 35 (qf 2 1) 34 false [31]),(qg 36 (ql 35) 34 false [32,31]),(qg 37 (qc .leq 36 (qz 0)) 34 false [33,31]),(qg 38 (.pick (.v 34) (.c (.bool true)) (.v 37)) 25 true [31,34,22]),(qi 39 (.pick (.v 25) (.v 38) (.c (.bool false))) [22,35]),(yn 2 39 [36,31,0,1,2,3,4,5,6,7,8,9,10,11,12,13,14,15,16,17,18,19,20,21,22,23,24,25,26,27,28,29,30,31,32,33,34,35,36])]) (qk [2] .ret))))) y)=>y
 dsimp
theorem fn158:factOf Tryz.prog 158=some (ac158.strip,[.tmp 2],40):=by kernel_rfl
theorem ok158:ac158.okAll=true:=by kernel_rfl
def ac159:AC:=by
 apply fun (y:AC) (_:@Eq AC (qk [0] (qs (qr [(qp 1 (.box (.v 0))),(qp 2 (.mov (.c (.bool false))))]) (qk [1] (qs (qr [(qp 3 (qf 1 1)),(yk 4 3 [0]),(yc 5 .geq 4 (qz 1) [1]),(yn 6 5 [2]),(qg 7 (qf 1 1) 6 true [3]),(qg 8 (ql 7) 6 true [4,3]),(qg 9 (qc .leq 8 (qz 262144)) 6 true [5,3]),(qi 10 (.pick (.v 6) (.v 9) (.c (.bool false))) [3,6]),(yn 11 10 [7,3]),(qg 12 (qf 0 1) 11 true [8]),(qg 13 (ql 12) 11 true [9,8]),(qg 14 (qc .geq 13 (qz 0)) 11 true [10,8]),(qi 15 (.pick (.v 11) (.v 14) (.c (.bool false))) [8,11]),(yn 16 15 [12,8]),(qg 17 (qf 0 1) 16 true [13]),(qg 18 (ql 17) 16 true [14,13]),(qg 19 (qf 1 1) 16 true [13]),(qg 20 (ql 19) 16 true [16,13]),(qg 21 (qb .leq 18 20) 16 true [15,17,13]),(qi 22 (.pick (.v 16) (.v 21) (.c (.bool false))) [13,18]),(yn 23 22 [19,13]),(qg 24 (qf 0 1) 23 true [20]),(qg 25 (ql 24) 23 true [21,20]),(qg 26 (qf 1 1) 23 true [20]),(qg 27 (ql 26) 23 true [23,20]),(qg 28 (.call 181 [.v 25,.v 27]) 23 true [22,24,20,20]),(qg 29 (qc .eql 28 (qz 1)) 23 true [25,20]),(qi 30 (.pick (.v 23) (.v 29) (.c (.bool false))) [20,26]),(yn 2 30 [27,25,0,1,2,3,4,5,6,7,8,9,10,11,12,13,14,15,16,17,18,19,20,21,22,23,24,25,26,27])]) (qk [2] .ret))))) y)=>y
 dsimp
theorem fn159:factOf Tryz.prog 159=some (ac159.strip,[.tmp 2],31):=by kernel_rfl
theorem ok159:ac159.okAll=true:=by kernel_rfl
def ac160:AC:=by
 apply fun (y:AC) (_:@Eq AC (qk [0,1] (qs (qr [(qp 2 (.box (.v 0))),(qp 3 (.box (.v 1))),(qp 4 (.alloc [.int .i64 0,.int .i64 0])),(qp 5 (.mov (.c (.bool false))))]) (qk [2,3,4] (qs (qs (qr [(qp 9 (qt 2 2)),(qi 10 (.call 159 [.v 9]) [0]),(qi 11 (.un .not (.v 10)) [1]),(yn 12 11 [2,1]),(qg 13 (qt 2 3) 12 false [3]),(qg 14 (.call 159 [.v 13]) 12 false [4,3,3]),(qg 15 (.un .not (.v 14)) 12 false [5,3]),(qi 16 (.pick (.v 12) (.c (.bool true)) (.v 15)) [3,6])]) (qk [2,3,4,16] (qq (.v 16) (qs (qr [(qp 17 (.build [.int .i64 0,.int .i64 0] [])),(qo (.store 2 (.v 4) (.v 17)) [0,0]),(qi 5 (.mov (.c (.bool false))) [1,0,1])]) (qk [4,5] .ret)) .skip))) (qk [2,3,4] (qs (qr [(qp 18 (qf 0 2)),(yk 19 18 [0]),(qp 20 (qf 0 3)),(yk 21 20 [2]),(yb 22 .mul 19 21 [1,3]),(yn 6 22 [4,0,1,2,3,4])]) (qk [2,3,4,6] (qs (qr [(qp 23 (qf 1 2)),(yk 24 23 [0]),(qp 25 (qf 1 3)),(yk 26 25 [2]),(yb 27 .mul 24 26 [1,3]),(yn 7 27 [4,0,1,2,3,4])]) (qk [4,6,7] (qs (qr [(ym 28 6),(ym 29 7),(qi 30 (.call 181 [.v 28,.v 29]) [0,1]),(yn 8 30 [2,2,0,1,2])]) (qk [4,6,7,8] (qs (qs (qr [(ym 31 7),(ym 32 8),(yb 33 .quo 31 32 [0,1]),(yc 34 .gtr 33 (qz 262144) [2])]) (qk [4,6,7,8,34] (qq (.v 34) (qs (qr [(qp 35 (.build [.int .i64 0,.int .i64 0] [])),(qo (.store 2 (.v 4) (.v 35)) [0,0]),(qi 5 (.mov (.c (.bool false))) [1,0,1])]) (qk [4,5] .ret)) .skip))) (qk [4,6,7,8] (qs (qd [(qe (ym 36 6) [37,39,40,41] [] 2),(qe (ym 37 8) [36,39,40,41] [0] 2),(qe (yb 38 .quo 36 37 [0,1]) [39,40,41] [] 2),(qe (ym 39 7) [36,37,38,40] [0,1,2] 2),(qe (ym 40 8) [36,37,38,39] [0,1,2,3] 2),(qe (yb 41 .quo 39 40 [3,4]) [36,37,38] [0,1,2] 2),(qe (qi 42 (.build [.int .i64 0,.int .i64 0] [(0,1,.v 38),(1,1,.v 41)]) [2,5]) [] [] 2),(qa (qo (.store 2 (.v 4) (.v 42)) [6,0,1,2,3,4,5,6]) [] [] [4] [] 1),(qe (qi 5 (.mov (.c (.bool true))) [7,0,1,2,3,4,5,6,7]) [] [] 2)]) (qk [4,5] .ret))))))))))))))) y)=>y
 dsimp
theorem fn160:factOf Tryz.prog 160=some (ac160.strip,[.cell 4 true 2,.tmp 5],43):=by kernel_rfl
theorem ok160:ac160.okAll=true:=by kernel_rfl
def ac161:AC:=by
 apply fun (y:AC) (_:@Eq AC (qk [0,1] (qs (qr [(qp 2 (.box (.v 0))),(qp 4 (.alloc [.int .i64 0,.int .i64 0]))]) (qk [1,2,4] (qs (qr [(qp 5 (.mov (qz 0)))]) (qk [1,2,4] (qs (qr [(qp 6 (.mov (qz 1)))]) (qk [1,2,4,6] (qs (.block 0 (qs (qr [(qp 18 (qf 1 2)),(yk 19 18 [0]),(yc 20 .eql 19 (qz 0) [1]),(yn 21 20 [2]),(qg 22 (qm 1) 21 false [3]),(qg 23 (qf 1 2) 21 false [3]),(qg 24 (ql 23) 21 false [5,3]),(qg 25 (qb .eql 22 24) 21 false [4,6,3]),(qi 26 (.pick (.v 21) (.c (.bool true)) (.v 25)) [3,7]),(yn 17 26 [8,3])]) (qk [1,2,4,6,17] (qq (.v 17) (qr [(qp 5 (.mov (qz 1)))]) (qs (qr [(ym 28 1),(qp 29 (qf 0 2)),(yk 30 29 [1]),(yb 31 .leq 28 30 [0,2]),(yn 32 31 [3]),(qg 33 (qm 1) 32 false [4]),(qg 34 (qf 2 2) 32 false [4]),(qg 35 (ql 34) 32 false [6,4]),(qg 36 (qb .geq 33 35) 32 false [5,7,4]),(qi 37 (.pick (.v 32) (.c (.bool true)) (.v 36)) [4,8]),(yn 27 37 [9,4])]) (qk [1,2,4,6,27] (qq (.v 27) (qr [(qp 5 (.mov (qz 0)))]) (qs (qr [(ym 39 1),(qp 40 (qf 1 2)),(yk 41 40 [1]),(yb 42 .lss 39 41 [0,2]),(yn 38 42 [3])]) (qk [1,2,4,38] (qq (.v 38) (qs (qr [(ym 43 1),(qp 44 (qf 0 2)),(yk 45 44 [1]),(yb 46 .sub 43 45 [0,2]),(yn 5 46 [3,0,1,2,3])]) (qk [2,4,5] (qr [(qp 47 (qf 1 2)),(yk 48 47 [0]),(qp 49 (qf 0 2)),(yk 50 49 [2]),(yb 51 .sub 48 50 [1,3]),(yn 6 51 [4,0,1,2,3,4])]))) (qs (qr [(qp 8 (qf 2 2)),(yk 9 8 [0]),(ym 10 1),(yb 11 .sub 9 10 [1,2]),(yn 5 11 [3,0,1,2,3])]) (qk [2,4,5] (qr [(qp 12 (qf 2 2)),(yk 13 12 [0]),(qp 14 (qf 1 2)),(yk 15 14 [2]),(yb 16 .sub 13 15 [1,3]),(yn 6 16 [4,0,1,2,3,4])]))))))))))))) (qk [4,5,6] (qs (qr [(ym 52 5),(ym 53 6),(qi 54 (.call 181 [.v 52,.v 53]) [0,1]),(yn 7 54 [2,2,0,1,2])]) (qk [4,5,6,7] (qs (qd [(qe (ym 55 5) [56,58,59,60] [] 2),(qe (ym 56 7) [55,58,59,60] [0] 2),(qe (yb 57 .quo 55 56 [0,1]) [58,59,60] [] 2),(qe (ym 58 6) [55,56,57,59] [0,1,2] 2),(qe (ym 59 7) [55,56,57,58] [0,1,2,3] 2),(qe (yb 60 .quo 58 59 [3,4]) [55,56,57] [0,1,2] 2),(qe (qi 61 (.build [.int .i64 0,.int .i64 0] [(0,1,.v 57),(1,1,.v 60)]) [2,5]) [] [] 2),(qa (qo (.store 2 (.v 4) (.v 61)) [6,0,1,2,3,4,5,6]) [] [] [4] [] 1)]) (qk [4] .ret))))))))))))) y)=>y
 dsimp
theorem fn161:factOf Tryz.prog 161=some (ac161.strip,[.cell 4 true 2],62):=by kernel_rfl
theorem ok161:ac161.okAll=true:=by kernel_rfl
def ac166:AC:=by
 apply fun (y:AC) (_:@Eq AC (let e0:=[7,8,9,10,11];let e1:=[49,50,51,52,53];let e2:=[44,45,46,47,48];(qk [0,1] (qs (qr [(qp 4 (.mov (.c (.bool false))))]) (qk [0,1] (qs (qs (qr [(ym 8 1),(yc 9 .lss 8 (qz 0) [0]),(yn 10 9 [1]),(qg 11 (qm 1) 10 false [2]),(qg 12 (qc .gtr 11 (qz 3)) 10 false [3,2]),(qi 13 (.pick (.v 10) (.c (.bool true)) (.v 12)) [2,4]),(yn 14 13 [5,2]),(qg 15 (qm 0) 14 false [6]),(qg 16 (qn 15) 14 false [7,6]),(qg 17 (qm 1) 14 false [6]),(qg 18 (qb .neq 16 17) 14 false [8,9,6]),(qi 19 (.pick (.v 14) (.c (.bool true)) (.v 18)) [6,10])]) (qk [0,1,19] (qq (.v 19) (qs (qr [(qp 4 (.mov (.c (.bool false))))]) (qk [4] .ret)) .skip))) (qk [0,1] (qs (qs (qr [(qp 5 (.mov (qz 0)))]) (qk [0,1,5] (.block 0 (.loop (qk [0,1,5] (qs (qs (qr [(ym 20 5),(ym 21 1),(yb 22 .lss 20 21 [0,1])]) (qk [0,1,5,22] (qq (.v 22) .skip (.exit 0)))) (qk [0,1,5] (qs (.block 1 (qs (qr [(ym 25 0),(ym 26 5),(yj 27 2 25 26 [0,1]),(qi 28 (.iaddrA 1 2 (.v 27) (qz 0)) [2]),(yk 29 28 [3]),(qi 30 (.call 119 [.v 29]) [4]),(yn 6 30 [5,5,0,1,2,3,4,5])]) (qk [0,1,5,6] (qs (qr [(ym 31 0),(ym 32 5),(yj 33 2 31 32 [0,1]),(qi 34 (.iaddrA 1 2 (.v 33) (qz 1)) [2]),(yk 35 34 [3]),(qi 36 (.call 119 [.v 35]) [4]),(yn 7 36 [5,5,0,1,2,3,4,5])]) (qk [0,1,5,6,7] (qs (qd [(qe (ym 37 6) [] [] 2),(qe (qi 38 (.un .not (.v 37)) [0]) [] [] 2),(qe (yn 39 38 [1]) [] [] 2),(qe (qg 40 (qm 7) 39 false [2]) [] [] 2),(qe (qg 41 (.un .not (.v 40)) 39 false [3,2]) [] [] 2),(qe (qi 42 (.pick (.v 39) (.c (.bool true)) (.v 41)) [2,4]) [] [] 2),(qe (yn 43 42 [5,2]) [] [] 2),(qe (qg 44 (qm 0) 43 false [6]) [45,49,50,51,52,53] [] 2),(qe (qg 45 (qm 5) 43 false [6]) [44,49,50,51,52,53] [7] 2),(qe (qg 46 (qj 2 44 45) 43 false [7,8,6]) e1 [] 2),(qe (qg 47 (.iaddrA 1 2 (.v 46) (qz 0)) 43 false [9,6]) e1 [] 2),(qe (qg 48 (ql 47) 43 false [10,6]) e1 [] 2),(qe (qg 49 (qm 0) 43 false [6]) [44,45,46,47,48,50] e0 2),(qe (qg 50 (qm 5) 43 false [6]) [44,45,46,47,48,49] [7,8,9,10,11,12] 2),(qe (qg 51 (qj 2 49 50) 43 false [12,13,6]) e2 e0 2),(qe (qg 52 (.iaddrA 1 2 (.v 51) (qz 1)) 43 false [14,6]) e2 e0 2),(qe (qg 53 (ql 52) 43 false [15,6]) e2 e0 2),(qe (qg 54 (qb .gtr 48 53) 43 false [11,16,6]) [] [] 2),(qe (qi 55 (.pick (.v 43) (.c (.bool true)) (.v 54)) [6,17]) [] [] 2)]) (qk [0,1,5,55] (qq (.v 55) (qs (qr [(qp 4 (.mov (.c (.bool false))))]) (qk [4] .ret)) .skip)))))))) (qk [0,1,5] (qr [(ym 23 5),(yc 24 .add 23 (qz 1) [0]),(yn 5 24 [1,0,1])])))))))))) (qk [] (qs (qr [(qp 4 (.mov (.c (.bool true))))]) (qk [4] .ret)))))))))) y)=>y
 dsimp
theorem fn166:factOf Tryz.prog 166=some (ac166.strip,[.tmp 4],56):=by kernel_rfl
theorem ok166:ac166.okAll=true:=by kernel_rfl
def ac176:AC:=by
 apply fun (y:AC) (_:@Eq AC (qk [0,1] (qs (qr [(qp 4 (.mov (qz 0)))]) (qk [0,1] (qs (.block 0 (.loop (qk [0,1] (qs (qs (qr [(ym 5 1),(yc 6 .gtr 5 (qz 0) [0])]) (qk [0,1,6] (qq (.v 6) .skip (.exit 0)))) (qk [0,1] (.block 1 (qd [(qe (ym 7 1) [8,9,10] [] 2),(qe (ym 8 0) [7,9] [0] 2),(qe (ym 9 1) [0,7,8] [0,1] 2),(qe (yb 10 .rem 8 9 [1,2]) [0,7] [0] 2),(qe (yn 0 7 [0,0,1]) [9,10] [2,3] 2),(qe (yn 1 10 [3,4,0,1,2,3,4]) [] [] 2)]))))))) (qk [0] (qs (qr [(ym 11 0),(yn 4 11 [0,0])]) (qk [4] .ret))))))) y)=>y
 dsimp
theorem fn176:factOf Tryz.prog 176=some (ac176.strip,[.tmp 4],12):=by kernel_rfl
theorem ok176:ac176.okAll=true:=by kernel_rfl
def ac177:AC:=by
 apply fun (y:AC) (_:@Eq AC (let e0:=[0,1,7,8];(qk [0,1] (qs (qr [(qp 4 (.mov (qz 0)))]) (qk [0,1] (qs (qs (qr [(ym 6 0),(yh 7 6 [0]),(qp 8 (.mov (qz 0)))]) (qk e0 (.block 0 (.loop (qk e0 (qs (qr [(qp 9 (qb .lss 8 7))]) (qk [0,1,7,8,9] (qs (qq (.v 9) .skip (.exit 0)) (qk e0 (qs (.block 1 (qs (qr [(ym 10 8),(yn 5 10 [0,0])]) (qk [0,1,5,7,8] (qs (qr [(ym 11 1),(ym 12 0),(ym 13 5),(yj 14 3 12 13 [1,2]),(qi 15 (qt 3 14) [3]),(qi 16 (.callv (.v 11) [.v 15]) [0,4])]) (qk [0,1,5,7,8,16] (qq (.v 16) (qs (qr [(ym 17 5),(yn 4 17 [0,0])]) (qk [4] .ret)) .skip)))))) (qk e0 (qr [(qp 18 (qc .add 8 (qz 1))),(yn 8 18 [0])])))))))))))) (qk [] (qs (qr [(qp 4 (.mov (qz (-1))))]) (qk [4] .ret)))))))) y)=>y
 dsimp
theorem fn177:factOf Tryz.prog 177=some (ac177.strip,[.tmp 4],19):=by kernel_rfl
theorem ok177:ac177.okAll=true:=by kernel_rfl
def ac178:AY:=(.ghost (.keep [0,1,2])
 (.seq (.reg [⟨some 5,.load false 1 (.v 1),none,[]⟩,
  ⟨some 6,.len false (.v 5),none,[0]⟩,
  ⟨some 7,.load false 1 (.v 2),none,[]⟩,
  ⟨some 8,.len false (.v 7),none,[2]⟩,
  ⟨some 9,.mm false (.v 6) (.v 8),none,[1,3]⟩,
  ⟨some 10,.mov (.c (.int .i64 0)),none,[]⟩])
 (.ghost (.keep [0,1,2,9,10]) (.block 0 (.loop (.ghost (.keep [0,1,2,9,10]) (.seq (.reg [⟨some 11,.bin .lss (.v 10) (.v 9),none,[]⟩])
 (.ghost (.keep [0,1,2,9,10,11]) (.seq (.cond (.v 11)
 .skip
 (.exit 0))
 (.ghost (.keep [0,1,2,9,10]) (.seq (.block 1 (.seq (.reg [⟨some 12,.mov (.v 10),none,[]⟩,
  ⟨some 4,.mov (.v 12),none,[0,0]⟩])
 (.ghost (.keep [0,1,2,4,9,10]) (.seq (.yield true [⟨⟨some 13,.mov (.v 0),none,[]⟩,[14,15,16,17,18,19,20,21],[],[],[],2⟩,
  ⟨⟨some 14,.load false 1 (.v 1),none,[]⟩,[13,15,18,19,20,21],[],[],[0],2⟩,
  ⟨⟨some 15,.mov (.v 4),none,[]⟩,[13,14,18,19,20,21],[],[],[0,1],2⟩,
  ⟨⟨some 16,.iaddr 3 (.v 14) (.v 15),none,[1,2]⟩,[13,18,19,20,21],[],[],[0],2⟩,
  ⟨⟨some 17,.load true 3 (.v 16),none,[3]⟩,[13,18,19,20,21],[],[],[0],2⟩,
  ⟨⟨some 18,.load false 1 (.v 2),none,[]⟩,[13,14,15,16,17,19],[],[],[0,1,2,3,4],2⟩,
  ⟨⟨some 19,.mov (.v 4),none,[]⟩,[13,14,15,16,17,18],[],[],[0,1,2,3,4,5],2⟩,
  ⟨⟨some 20,.iaddr 1 (.v 18) (.v 19),none,[5,6]⟩,[13,14,15,16,17],[],[],[0,1,2,3,4],2⟩,
  ⟨⟨some 21,.load false 1 (.v 20),none,[7]⟩,[13,14,15,16,17],[],[],[0,1,2,3,4],2⟩]
  ⟨some 22,.callv (.v 13) [.v 17,.v 21],none,[0,4,8]⟩ [⟨some 23,.un .not (.v 22),none,[9]⟩])
 (.ghost (.keep [0,1,2,9,10,23]) (.cond (.v 23)
 .ret
 .skip))))))
 (.ghost (.keep [0,1,2,9,10]) (.reg [⟨some 24,.bin .add (.v 10) (.c (.int .i64 1)),none,[]⟩,
  ⟨some 10,.mov (.v 24),none,[0]⟩])))))))))))))
theorem fn178:factOf Tryz.prog 178=some (ac178.strip,[],25):=by kernel_rfl
theorem ok178:ac178.okAll=true:=by kernel_rfl
def ac179:AC:=by
 apply fun (y:AC) (_:@Eq AC (qk [0,1] (qs (qr [(qp 4 (.mov (qz 0)))]) (qk [0,1] (qs (.block 0 (.loop (qk [0,1] (qs (qs (qr [(ym 5 1),(yc 6 .gtr 5 (qz 0) [0])]) (qk [0,1,6] (qq (.v 6) .skip (.exit 0)))) (qk [0,1] (.block 1 (qd [(qe (ym 7 1) [8,9,10] [] 2),(qe (ym 8 0) [7,9] [0] 2),(qe (ym 9 1) [0,7,8] [0,1] 2),(qe (yb 10 .rem 8 9 [1,2]) [0,7] [0] 2),(qe (yn 0 7 [0,0,1]) [9,10] [2,3] 2),(qe (yn 1 10 [3,4,0,1,2,3,4]) [] [] 2)]))))))) (qk [0] (qs (qr [(ym 11 0),(yn 4 11 [0,0])]) (qk [4] .ret))))))) y)=>y
 dsimp
theorem fn179:factOf Tryz.prog 179=some (ac179.strip,[.tmp 4],12):=by kernel_rfl
theorem ok179:ac179.okAll=true:=by kernel_rfl
def ac180:AC:=by
 apply fun (y:AC) (_:@Eq AC (qk [0,1] (qs (qr [(qp 4 (.mov (qz 0)))]) (qk [0,1] (qs (.block 0 (.loop (qk [0,1] (qs (qs (qr [(ym 5 1),(yc 6 .gtr 5 (qz 0) [0])]) (qk [0,1,6] (qq (.v 6) .skip (.exit 0)))) (qk [0,1] (.block 1 (qd [(qe (ym 7 1) [8,9,10] [] 2),(qe (ym 8 0) [7,9] [0] 2),(qe (ym 9 1) [0,7,8] [0,1] 2),(qe (yb 10 .rem 8 9 [1,2]) [0,7] [0] 2),(qe (yn 0 7 [0,0,1]) [9,10] [2,3] 2),(qe (yn 1 10 [3,4,0,1,2,3,4]) [] [] 2)]))))))) (qk [0] (qs (qr [(ym 11 0),(yn 4 11 [0,0])]) (qk [4] .ret))))))) y)=>y
 dsimp
theorem fn180:factOf Tryz.prog 180=some (ac180.strip,[.tmp 4],12):=by kernel_rfl
theorem ok180:ac180.okAll=true:=by kernel_rfl
def ac181:AC:=by
 apply fun (y:AC) (_:@Eq AC (qk [0,1] (qs (qr [(qp 4 (.mov (qz 0)))]) (qk [0,1] (qs (.block 0 (.loop (qk [0,1] (qs (qs (qr [(ym 6 1),(yc 7 .gtr 6 (qz 0) [0])]) (qk [0,1,7] (qq (.v 7) .skip (.exit 0)))) (qk [0,1] (.block 1 (qs (qr [(ym 8 0),(ym 9 1),(yb 10 .rem 8 9 [0,1]),(yn 5 10 [2,0,1,2])]) (qk [1,5] (qs (qr [(ym 11 1),(yn 0 11 [0,0])]) (qk [0,5] (qr [(ym 12 5),(yn 1 12 [0,0])]))))))))))) (qk [0] (qs (qr [(ym 13 0),(yn 4 13 [0,0])]) (qk [4] .ret))))))) y)=>y
 dsimp
theorem fn181:factOf Tryz.prog 181=some (ac181.strip,[.tmp 4],14):=by kernel_rfl
theorem ok181:ac181.okAll=true:=by kernel_rfl
def ac64:AC:=by
 apply fun (y:AC) (_:@Eq AC (let e0:=[0,1,7,8];(qk [0,1] (qs (qr [(qp 4 (.mov (qz 0)))]) (qk [0,1] (qs (qs (qr [(ym 6 0),(yh 7 6 [0]),(qp 8 (.mov (qz 0)))]) (qk e0 (.block 0 (.loop (qk e0 (qs (qr [(qp 9 (qb .lss 8 7))]) (qk [0,1,7,8,9] (qs (qq (.v 9) .skip (.exit 0)) (qk e0 (qs (.block 1 (qs (qr [(ym 10 8),(yn 5 10 [0,0])]) (qk [0,1,5,7,8] (qs (qr [(ym 11 1),(ym 12 0),(ym 13 5),(yj 14 1 12 13 [1,2]),(yk 15 14 [3]),(qi 16 (.callv (.v 11) [.v 15]) [0,4])]) (qk [0,1,5,7,8,16] (qq (.v 16) (qs (qr [(ym 17 5),(yn 4 17 [0,0])]) (qk [4] .ret)) .skip)))))) (qk e0 (qr [(qp 18 (qc .add 8 (qz 1))),(yn 8 18 [0])])))))))))))) (qk [] (qs (qr [(qp 4 (.mov (qz (-1))))]) (qk [4] .ret)))))))) y)=>y
 dsimp
theorem fn64:factOf Tryz.prog 64=some (ac64.strip,[.tmp 4],19):=by kernel_rfl
theorem ok64:ac64.okAll=true:=by kernel_rfl
def ac29:AC:=by
 apply fun (y:AC) (_:@Eq AC (qk [0,1] (qs (qr [(qp 4 (.mov (.c (.bool false))))]) (qk [0,1] (qs (qr [(ym 5 0),(ym 6 1),(qi 7 (.call 64 [.v 5,.v 6]) [0,1]),(yc 8 .geq 7 (qz 0) [2]),(yn 4 8 [3,2,0,1,2,3])]) (qk [4] .ret))))) y)=>y
 dsimp
theorem fn29:factOf Tryz.prog 29=some (ac29.strip,[.tmp 4],9):=by kernel_rfl
theorem ok29:ac29.okAll=true:=by kernel_rfl
end
end Go.Abs.A29
namespace Go.Abs.A29
def R (n:Int):Prop:=-9223372036854775808≤n∧n≤9223372036854775807
theorem R_ediv {n d:Int} (h:R n) (hd:1≤d):R (n / d):=by
 obtain ⟨h1,h2⟩:=h
 constructor
 ·refine Int.le_ediv_of_mul_le (by omega) ?_
  have:(-9223372036854775808:Int)*d≤(-9223372036854775808)*1:=Int.mul_le_mul_of_nonpos_left (by omega) hd
  omega
 ·rcases Int.le_total 0 n with h3 | h3
  ·exact Int.le_trans (Int.ediv_le_self d h3) h2
  ·have:n / d≤0:=by
    have:=Int.ediv_le_ediv (by omega:0<d) h3
    simpa using this
   omega
theorem tdiv_pos {n d:Int} (hd:1≤d):n.tdiv d=n / d+(if n.tmod d<0 then 1 else 0)∧n.tmod d=n % d - (if n.tmod d<0 then d else 0):=by
 have e1:=Int.mul_ediv_add_emod n d
 have e2:=Int.emod_nonneg n (by omega:d≠0)
 have e3:=Int.emod_lt_of_pos n (by omega:0<d)
 have hs:Int.sign d=1:=Int.sign_eq_one_of_pos (by omega)
 have hn:(d.natAbs:Int)=d:=by omega
 have t1:=Int.tdiv_eq_ediv (a:=n) (b:=d)
 have t2:=Int.tmod_eq_emod (a:=n) (b:=d)
 rw [hs] at t1
 by_cases hc:0≤n∨d ∣ n
 ·rw [if_pos hc] at t1 t2
  have t2':n.tmod d=n % d:=by simpa using t2
  have:¬n.tmod d<0:=by omega
  rw [if_neg this,if_neg this]
  exact ⟨t1,by omega⟩
 ·rw [if_neg hc] at t1 t2
  rw [hn] at t2
  have:n.tmod d<0:=by omega
  rw [if_pos this,if_pos this]
  exact ⟨t1,t2⟩
theorem tdiv_floor {n d:Int} (hd:1≤d):(if n.tmod d<0 then n.tdiv d - 1 else n.tdiv d)=n / d:=by
 obtain ⟨h1,h2⟩:=tdiv_pos (n:=n) hd
 split<;>(rename_i h;simp only [h,if_true,if_false] at h1;omega)
theorem tmod_floor {n d:Int} (hd:1≤d):(if n.tmod d<0 then n.tmod d+d else n.tmod d)=n % d:=by
 obtain ⟨h1,h2⟩:=tdiv_pos (n:=n) hd
 split<;>(rename_i h;simp only [h,if_true,if_false] at h2;omega)
theorem R_tdiv {n d:Int} (h:R n) (hd:1≤d):R (n.tdiv d):=by
 have h3:=R_ediv h hd
 have h1:=tdiv_floor (n:=n) hd
 have h4:=(tdiv_pos (n:=n) hd).1
 obtain ⟨g1,g2⟩:=h3
 obtain ⟨k1,k2⟩:=h
 by_cases hm:n.tmod d<0
 ·simp only [hm,if_true] at h1 h4
  refine ⟨by omega,?_⟩
  have:n / d<0:=by
   have e2:=Int.emod_nonneg n (by omega:d≠0)
   have t2:=(tdiv_pos (n:=n) hd).2
   simp only [hm,if_true] at t2
   have hn:n<0:=by
    by_cases hn:n<0
    ·exact hn
    ·have:=Int.tmod_nonneg d (by omega:0≤n)
     omega
   exact Int.ediv_neg_of_neg_of_pos hn (by omega)
  omega
 ·simp only [hm,if_false] at h1 h4
  exact ⟨by omega,by omega⟩
theorem tmod_bd {n d:Int} (hd:1≤d):-d<n.tmod d∧n.tmod d<d:=by
 have h2:=(tdiv_pos (n:=n) hd).2
 have e2:=Int.emod_nonneg n (by omega:d≠0)
 have e3:=Int.emod_lt_of_pos n (by omega:0<d)
 have:=tmod_floor (n:=n) hd
 constructor
 ·by_cases hm:n.tmod d<0
  ·simp only [hm,if_true] at this
   by_cases hz:n % d=0
   ·exfalso
    have h5:d ∣ n:=Int.dvd_of_emod_eq_zero hz
    have:=Int.tmod_eq_zero_of_dvd h5
    omega
   ·omega
  ·omega
 ·split at h2<;>omega
theorem ediv_le {n d m:Int} (h:n≤m) (h0:0≤m) (hd:1≤d):n / d≤m:=by
 rcases Int.le_total 0 n with h3 | h3
 ·exact Int.le_trans (Int.ediv_le_self d h3) h
 ·have:n / d≤0:=by
   have:=Int.ediv_le_ediv (by omega:0<d) h3
   simpa using this
  omega
def roundS (n d:Int):Int:=if n % d ≥ d - n % d then n / d+1 else n / d
def gcdI (a b:Int):Int:=if 0<b then gcdI b (a.tmod b) else a
termination_by b.toNat
decreasing_by
 have:=(tmod_bd (n:=a) (d:=b) (by omega)).2
 omega
theorem gcdI_pos {a b:Int} (h:0<b):gcdI a b=gcdI b (a.tmod b):=by rw [gcdI,if_pos h]
theorem gcdI_neg {a b:Int} (h:¬0<b):gcdI a b=a:=by rw [gcdI,if_neg h]
end Go.Abs.A29
namespace Go.Abs.A29
open Go Go.Abs Go.Proofs
set_option maxRecDepth 100000
set_option linter.unusedVariables false
set_option linter.unusedSimpArgs false
attribute [local simp ↓] awp_skip awp_seq awp_cond awp_block awp_exit awp_ret awp_reg awp_draw awp_ghost awp_loop awp_rfun awpR_nil awpR_cons awpX_nil awpX_0 awpX_1 awpX_2 awpI_eq awpI_t awpI_f awpStep_eq
attribute [local simp] condL_true condL_false condL_dec evDel evV evN evS evA initFr Ghost.app Fr.var Fr.blk Fr.ff FF.val Abs.look Fr.app Fr.erase Fr.noSlot AV.noSlot AV.noSlotL Blk.noSlot Fr.spoken AV.fz AV.fzL Blk.fz binV binI shI binS unV fillA FF.parts FF.vals headO intO boundO lenV scalarEq leavesEq AV.aggc AV.cells FF.read FF.rows AV.one PV.one chunk freshB newS pickV retK evRs evRl evR resOf mkTup mkAgg allP cloOf okP_nil okX_p okX okP addN Del.noSlot Del.owners Rnd reify_p normM insM Fr.back Fr.backV Fr.setPs normV insV
attribute [local simp] renF Fr.trim Blk.trim AV.rn AV.rnL Blk.rn AV.among AV.amongL Blk.among okF retM fixS BIG initFF
theorem mixed:Tryz.prog.follows .mixedOrders=true:=by kernel_rfl
theorem wr {n:Int} (h:R n):IntKind.i64.wrap n=n:=wrap_i64 h.1 h.2
theorem b151 (n:Int):Best Tryz.prog 151 [.int .i64 n] (.p (.bool (decide (-64≤n) && decide (n≤64)))):=by
 refine best mixed fn151 ok151 (by simp) ?_
 by_cases h1:-64≤n<;>by_cases h2:n≤64<;>simp -dsimp [ac151,h1,h2]
theorem b119 (n:Int):Best Tryz.prog 119 [.int .i64 n] (.p (.bool (decide (-64≤n) && decide (n≤64)))):=by
 refine best mixed fn119 ok119 (by simp) ?_
 by_cases h1:-64≤n<;>by_cases h2:n≤64<;>simp -dsimp [ac119,h1,h2]
theorem b120 (n:Int):Best Tryz.prog 120 [.int .i64 n] (.p (.bool (decide (-1048576≤n) && decide (n≤1048576)))):=by
 refine best mixed fn120 ok120 (by simp) ?_
 by_cases h1:-1048576≤n<;>by_cases h2:n≤1048576<;>simp -dsimp [ac120,h1,h2]
theorem b124 {n d:Int} (hn:R n) (hd:R d):Best Tryz.prog 124 [.int .i64 n,.int .i64 d] (.p (.tup [.int .i64 (if d<1 then 0 else n / d),.bool (decide (1≤d))])):=by
 refine best mixed fn124 ok124 (by simp) ?_
 by_cases h1:d<1
 ·have:¬1≤d:=by omega
  simp -dsimp [ac124,h1,this]
 ·have g1:=tdiv_floor (n:=n) (d:=d) (by omega)
  have g2:=R_tdiv hn (d:=d) (by omega)
  have g3:=R_ediv hn (d:=d) (by omega)
  have hd0:d≠0:=by omega
  have h3:1≤d:=by omega
  by_cases h2:n.tmod d<0<;>simp only [h2,if_true,if_false] at g1
  ·simp -dsimp [ac124,h1,h2,hd0,h3,wr g2,g1,wr g3]
  ·simp -dsimp [ac124,h1,h2,hd0,h3,wr g2,g1,wr g3]
theorem b84 {n d:Int} (hn:R n) (hn2:n≤4611686018427387904) (hd:R d):Best Tryz.prog 84 [.int .i64 n,.int .i64 d] (.p (.tup [.int .i64 (if d<1 then 0 else roundS n d),.bool (decide (1≤d))])):=by
 refine best mixed fn84 ok84 (by simp) ?_
 have hb:=b124 hn hd
 by_cases h1:d<1
 ·have h3:¬1≤d:=by omega
  simp only [h1,h3,if_true,decide_false] at hb ⊢
  simp -dsimp [ac84]
  refine call_p hb rfl (by simp) ?_
  simp -dsimp
 ·have g2:=tmod_floor (n:=n) (d:=d) (by omega)
  have g3:=R_ediv hn (d:=d) (by omega)
  have g4:=ediv_le (n:=n) (d:=d) hn2 (by omega) (by omega)
  have hd0:d≠0:=by omega
  have h3:1≤d:=by omega
  have e2:=Int.emod_nonneg n hd0
  have e3:=Int.emod_lt_of_pos n (by omega:0<d)
  have e5:¬n % d<0:=by omega
  have w1:R (n % d):=⟨by omega,by have:=hd.2;omega⟩
  have w2:R (d - n % d):=⟨by omega,by have:=hd.2;omega⟩
  have w3:R (n / d+1):=⟨by have:=g3.1;omega,by omega⟩
  simp only [h1,h3,if_false,decide_true] at hb ⊢
  simp -dsimp [ac84]
  refine call_p hb rfl (by simp) ?_
  by_cases h4:n % d ≥ d - n % d
  ·have hr:roundS n d=n / d+1:=by simp [roundS,h4]
   have h4':d - n % d≤n % d:=h4
   by_cases h2:n.tmod d<0<;>simp only [h2,if_true,if_false] at g2<;>simp -dsimp [hd0,h2,g2,e5,wr w1,wr w2,wr w3,h4,h4',hr]
  ·have hr:roundS n d=n / d:=by simp [roundS,h4]
   have h4':¬d - n % d≤n % d:=h4
   by_cases h2:n.tmod d<0<;>simp only [h2,if_true,if_false] at g2<;>simp -dsimp [hd0,h2,g2,e5,wr w1,wr w2,h4,h4',hr]
theorem b117 {n d:Int} (hn:R (d - n)):Best Tryz.prog 117 [.int .i64 n,.int .i64 d] (.p (.bool (decide (n ≥ d - n)))):=by
 refine best mixed fn117 ok117 (by simp) ?_
 simp -dsimp [ac117,wr hn]
theorem b181 {a b:Int} (hb:R b):Best Tryz.prog 181 [.int .i64 a,.int .i64 b] (.p (.int .i64 (gcdI a b))):=by
 refine best mixed fn181 ok181 (by simp) ?_
 simp -dsimp [ac181]
 refine loopL_rule (fun m F=>∃ x y,m=y.toNat∧R y∧gcdI x y=gcdI a b∧(Ghost.keep [0,1]).app F=some ⟨[(0,.p (.int .i64 x)),(1,.p (.int .i64 y))],[]⟩) ?_ ⟨a,b,rfl,hb,rfl,by simp⟩
 rintro m F ⟨x,y,rfl,hy,hg,hF⟩
 rw [awp_ghost,hF]
 by_cases h:0<y
 ·have h0:y≠0:=by omega
  have hb:=tmod_bd (n:=x) (d:=y) (by omega)
  have hr:R (x.tmod y):=⟨by have:=hy.2;omega,by have:=hy.2;omega⟩
  simp -dsimp [h,h0,Rnd,okP_nil,okX_p,okX,okP,addN,Fr.erase,Fr.noSlot,Del.owners]
  refine ⟨_,?_,y,_,rfl,hr,(gcdI_pos h).symm.trans hg,rfl,rfl⟩
  omega
 ·simp -dsimp [h,Rnd,←hg,gcdI_neg h]
theorem b176 {a b:Int} (hb:R b):Best Tryz.prog 176 [.int .i64 a,.int .i64 b] (.p (.int .i64 (gcdI a b))):=by
 refine best mixed fn176 ok176 (by simp) ?_
 simp -dsimp [ac176]
 refine loopL_rule (fun m F=>∃ x y,m=y.toNat∧R y∧gcdI x y=gcdI a b∧(Ghost.keep [0,1]).app F=some ⟨[(0,.p (.int .i64 x)),(1,.p (.int .i64 y))],[]⟩) ?_ ⟨a,b,rfl,hb,rfl,by simp⟩
 rintro m F ⟨x,y,rfl,hy,hg,hF⟩
 rw [awp_ghost,hF]
 by_cases h:0<y
 ·have h0:y≠0:=by omega
  have hb:=tmod_bd (n:=x) (d:=y) (by omega)
  have hr:R (x.tmod y):=⟨by have:=hy.2;omega,by have:=hy.2;omega⟩
  simp -dsimp [h,h0,Rnd,okP_nil,okX_p,okX,okP,addN,Fr.erase,Fr.noSlot,Del.owners]
  refine ⟨_,?_,y,_,rfl,hr,(gcdI_pos h).symm.trans hg,rfl,rfl⟩
  omega
 ·simp -dsimp [h,Rnd,←hg,gcdI_neg h]
theorem b179 {a b:Int} (hb:R b):Best Tryz.prog 179 [.int .i64 a,.int .i64 b] (.p (.int .i64 (gcdI a b))):=by
 refine best mixed fn179 ok179 (by simp) ?_
 simp -dsimp [ac179]
 refine loopL_rule (fun m F=>∃ x y,m=y.toNat∧R y∧gcdI x y=gcdI a b∧(Ghost.keep [0,1]).app F=some ⟨[(0,.p (.int .i64 x)),(1,.p (.int .i64 y))],[]⟩) ?_ ⟨a,b,rfl,hb,rfl,by simp⟩
 rintro m F ⟨x,y,rfl,hy,hg,hF⟩
 rw [awp_ghost,hF]
 by_cases h:0<y
 ·have h0:y≠0:=by omega
  have hb:=tmod_bd (n:=x) (d:=y) (by omega)
  have hr:R (x.tmod y):=⟨by have:=hy.2;omega,by have:=hy.2;omega⟩
  simp -dsimp [h,h0,Rnd,okP_nil,okX_p,okX,okP,addN,Fr.erase,Fr.noSlot,Del.owners]
  refine ⟨_,?_,y,_,rfl,hr,(gcdI_pos h).symm.trans hg,rfl,rfl⟩
  omega
 ·simp -dsimp [h,Rnd,←hg,gcdI_neg h]
theorem b180 {a b:Int} (hb:R b):Best Tryz.prog 180 [.int .i64 a,.int .i64 b] (.p (.int .i64 (gcdI a b))):=by
 refine best mixed fn180 ok180 (by simp) ?_
 simp -dsimp [ac180]
 refine loopL_rule (fun m F=>∃ x y,m=y.toNat∧R y∧gcdI x y=gcdI a b∧(Ghost.keep [0,1]).app F=some ⟨[(0,.p (.int .i64 x)),(1,.p (.int .i64 y))],[]⟩) ?_ ⟨a,b,rfl,hb,rfl,by simp⟩
 rintro m F ⟨x,y,rfl,hy,hg,hF⟩
 rw [awp_ghost,hF]
 by_cases h:0<y
 ·have h0:y≠0:=by omega
  have hb:=tmod_bd (n:=x) (d:=y) (by omega)
  have hr:R (x.tmod y):=⟨by have:=hy.2;omega,by have:=hy.2;omega⟩
  simp -dsimp [h,h0,Rnd,okP_nil,okX_p,okX,okP,addN,Fr.erase,Fr.noSlot,Del.owners]
  refine ⟨_,?_,y,_,rfl,hr,(gcdI_pos h).symm.trans hg,rfl,rfl⟩
  omega
 ·simp -dsimp [h,Rnd,←hg,gcdI_neg h]
def SM (n:Int):Prop:=-1048576≤n∧n≤1048576
instance {n:Int}:Decidable (SM n):=inferInstanceAs (Decidable (_∧_))
def RS (n d:Int):Prop:=1≤d∧d≤262144∧0≤n∧n≤d∧gcdI n d=1
noncomputable instance {n d:Int}:Decidable (RS n d):=inferInstanceAs (Decidable (_∧_))
theorem RSn {n d:Int} (h:¬(1≤d∧d≤262144∧0≤n∧n≤d)):¬RS n d:=fun h'=>h ⟨h'.1,h'.2.1,h'.2.2.1,h'.2.2.2.1⟩
theorem b159 {n d:Int} (hn:R n) (hd:R d):Best Tryz.prog 159 [.agg [.int .i64 n,.int .i64 d]] (.p (.bool (decide (RS n d)))):=by
 refine best mixed fn159 ok159 (by simp) ?_
 by_cases h1:1≤d
 ·by_cases h2:d≤262144
  ·by_cases h3:0≤n
   ·by_cases h4:n≤d
    ·simp -dsimp [ac159,h1,h2,h3,h4]
     refine call_p (b181 (a:=n) hd) rfl (by simp) ?_
     have:RS n d↔gcdI n d=1:=⟨fun h=>h.2.2.2.2,fun h=>⟨h1,h2,h3,h4,h⟩⟩
     by_cases h5:gcdI n d=1<;>simp -dsimp [h5,this]
    ·have:=RSn (n:=n) (d:=d) (by omega)
     simp -dsimp [ac159,h1,h2,h3,h4,this]
   ·have:=RSn (n:=n) (d:=d) (by omega)
    simp -dsimp [ac159,h1,h2,h3,this]
  ·have:=RSn (n:=n) (d:=d) (by omega)
   simp -dsimp [ac159,h1,h2,this]
 ·have:=RSn (n:=n) (d:=d) (by omega)
  simp -dsimp [ac159,h1,this]
theorem b149 {n d:Int} (hn:R n) (hd:R d):Best Tryz.prog 149 [.agg [.int .i64 n,.int .i64 d]] (.p (.bool (decide (RS n d)))):=by
 refine best mixed fn149 ok149 (by simp) ?_
 by_cases h1:1≤d
 ·by_cases h2:d≤262144
  ·by_cases h3:0≤n
   ·by_cases h4:n≤d
    ·simp -dsimp [ac149,h1,h2,h3,h4]
     refine call_p (b176 (a:=n) hd) rfl (by simp) ?_
     have:RS n d↔gcdI n d=1:=⟨fun h=>h.2.2.2.2,fun h=>⟨h1,h2,h3,h4,h⟩⟩
     by_cases h5:gcdI n d=1<;>simp -dsimp [h5,this]
    ·have:=RSn (n:=n) (d:=d) (by omega)
     simp -dsimp [ac149,h1,h2,h3,h4,this]
   ·have:=RSn (n:=n) (d:=d) (by omega)
    simp -dsimp [ac149,h1,h2,h3,this]
  ·have:=RSn (n:=n) (d:=d) (by omega)
   simp -dsimp [ac149,h1,h2,this]
 ·have:=RSn (n:=n) (d:=d) (by omega)
  simp -dsimp [ac149,h1,this]
theorem b118 {n d:Int} (hn:R n) (hn2:n≤4611686018427387904) (hd:R d):Best Tryz.prog 118 [.agg [.clo (.func 117) [] []],.int .i64 n,.int .i64 d] (.p (.tup [.int .i64 (if d<1 then 0 else roundS n d),.bool (decide (1≤d))])):=by
 refine best mixed fn118 ok118 (by simp) ?_
 by_cases h1:d<1
 ·have h3:¬1≤d:=by omega
  simp -dsimp [ac118,h1,h3]
 ·have g1:=tdiv_floor (n:=n) (d:=d) (by omega)
  have g2:=tmod_floor (n:=n) (d:=d) (by omega)
  have g3:=R_ediv hn (d:=d) (by omega)
  have g4:=ediv_le (n:=n) (d:=d) hn2 (by omega) (by omega)
  have g5:=R_tdiv hn (d:=d) (by omega)
  have hd0:d≠0:=by omega
  have h3:1≤d:=by omega
  have e2:=Int.emod_nonneg n hd0
  have e3:=Int.emod_lt_of_pos n (by omega:0<d)
  have w1:R (n % d):=⟨by omega,by have:=hd.2;omega⟩
  have w2:R (d - n % d):=⟨by omega,by have:=hd.2;omega⟩
  have w3:R (n / d+1):=⟨by have:=g3.1;omega,by omega⟩
  have hc:=b117 w2
  have key:roundS n d=if n % d ≥ d - n % d then n / d+1 else n / d:=rfl
  have e5:¬n % d<0:=by omega
  by_cases h2:n.tmod d<0<;>simp only [h2,if_true,if_false] at g1 g2
  ·simp -dsimp [ac118,h1,h2,hd0,wr g5,g1,g2,wr g3,wr w1]
   refine call_p hc rfl (by simp) ?_
   by_cases h4:n % d ≥ d - n % d<;>simp -dsimp [h4,key,wr w3,h1,h3]
  ·simp -dsimp [ac118,h1,h2,hd0,wr g5,g1,g2,wr g3,e5]
   refine call_p hc rfl (by simp) ?_
   by_cases h4:n % d ≥ d - n % d<;>simp -dsimp [h4,key,wr w3,h1,h3]
theorem b77 {n d:Int} (hn:R n) (hn2:n≤4611686018427387904) (hd:R d):Best Tryz.prog 77 [.int .i64 n,.int .i64 d] (.p (.tup [.int .i64 (if d<1 then 0 else roundS n d),.bool (decide (1≤d))])):=by
 refine best mixed fn77 ok77 (by simp) ?_
 simp -dsimp [ac77]
 refine call_p (b118 hn hn2 hd) rfl (by simp) ?_
 simp -dsimp
theorem b21 {n m:Int} (hn:R n) (hm:1≤m) (hm2:m≤4611686018427387904):Best Tryz.prog 21 [.int .i64 n,.int .i64 m] (.p (.int .i64 (n % m))):=by
 refine best mixed fn21 ok21 (by simp) ?_
 have hb:=tmod_bd (n:=n) (d:=m) (by omega)
 have g2:=tmod_floor (n:=n) (d:=m) (by omega)
 have h0:m≠0:=by omega
 have w:R (n.tmod m+m):=⟨by omega,by omega⟩
 have e2:=Int.emod_nonneg n h0
 have e3:=Int.emod_lt_of_pos n (by omega:0<m)
 have:(n.tmod m+m).tmod m=n % m:=by
  rw [Int.tmod_eq_emod_of_nonneg (by omega)]
  by_cases h2:n.tmod m<0<;>simp only [h2,if_true,if_false] at g2
  ·rw [g2];exact Int.emod_emod_of_dvd n (Int.dvd_refl m)
  ·rw [g2,Int.add_emod_right];exact Int.emod_emod_of_dvd n (Int.dvd_refl m)
 simp -dsimp [ac21,h0,wr w,this]
def intRow (n:Int):List PV:=[.int .i64 n]
theorem b148 (ns:List Int) (hl:ns.length≤9223372036854775807):Best Tryz.prog 148 [.sl 1 (ns.map intRow)] (.p (.bool (decide (∀ n∈ns,SM n)))):=by
 refine best mixed fn148 ok148 (by simp) ?_
 simp -dsimp [ac148]
 refine loopC ns.length (fun k=>⟨[(5,.p (.sl 1 (ns.map intRow))),(6,.p (.int .i64 ns.length)),(7,.p (.int .i64 k))],[]⟩) (fun k=>∀ n∈ns.take k,SM n) (fun k hk hall=>?_) (by simp) (by simp)
 by_cases h:k<ns.length
 ·have hx:ns[k]?=some ns[k]:=by simp [h]
  have hm:ns[k]∈ns:=by simp
  obtain ⟨x,ex⟩:∃ x,ns[k]=x:=⟨_,rfl⟩
  rw [ex] at hx hm
  have w:R ((k:Int)+1):=⟨by omega,by omega⟩
  have no:¬SM x→¬∀ n∈ns,SM n:=fun h1 h2=>h1 (h2 x hm)
  have yes:SM x→∀ n∈ns.take (k+1),SM n:=fun h1 n hn=>by
   rw [List.take_add_one,hx] at hn
   simp at hn
   rcases hn with hn | rfl
   ·exact hall n hn
   ·exact h1
  by_cases h1:x < -1048576
  ·have:=no (by unfold SM;omega)
   simp -dsimp [h,ex,intRow,h1,this]
  ·by_cases h2:1048576<x
   ·have:=no (by unfold SM;omega)
    simp -dsimp [h,ex,intRow,h1,h2,this]
   ·have:=yes (by unfold SM;omega)
    simp -dsimp [h,ex,intRow,h1,h2,wr w];exact this
 ·have:k=ns.length:=by omega
  subst this
  rw [List.take_length] at hall
  simp -dsimp;exact hall
theorem mulb {a n:Int} (ha:SM a) (h0:0≤n) (h1:n≤262144):-17592186044416≤64*a*n∧64*a*n≤17592186044416:=by
 obtain ⟨a1,a2⟩:=ha
 have e:64*a*n=64*(a*n):=Int.mul_assoc ..
 have l1:(-1048576)*n≤a*n:=Int.mul_le_mul_of_nonneg_right a1 h0
 have l2:a*n≤1048576*n:=Int.mul_le_mul_of_nonneg_right a2 h0
 omega
noncomputable def partS (a n d:Int):Int×Bool:=if SM a∧RS n d then (roundS (64*a*n) d,true) else (0,false)
theorem b113 {a n d:Int} (hn:R n) (hd:R d):Best Tryz.prog 113 [.int .i64 a,.agg [.int .i64 n,.int .i64 d]] (.p (.tup [.int .i64 (partS a n d).1,.bool (partS a n d).2])):=by
 refine best mixed fn113 ok113 (by simp) ?_
 simp -dsimp [ac113]
 refine call_f (b148 [a] (by simp)) (by simp [FF.reifyL,FF.reify,FF.rows,Fr.ff,Fr.blk,Fr.app,look,chunk,intRow,List.range]) rfl (by simp) ?_
 by_cases h1:SM a
 ·have h1':∀ n∈[a],SM n:=by simpa using h1
  simp -dsimp [h1']
  refine call_p (b149 hn hd) rfl (by simp) ?_
  by_cases h2:RS n d
  ·have hb:=mulb h1 h2.2.2.1 (by have:=h2.2.1;have:=h2.2.2.2.1;omega)
   have w1:R (64*a):=⟨by have:=h1.1;omega,by have:=h1.2;omega⟩
   have w2:R (64*a*n):=⟨by omega,by omega⟩
   simp -dsimp [h2,wr w1,wr w2]
   refine call_p (b77 w2 (by omega) hd) rfl (by simp) ?_
   have d1:¬d<1:=by have:=h2.1;omega
   have d2:1≤d:=h2.1
   simp -dsimp [partS,h1,h2,d1,d2]
  ·simp -dsimp [partS,h1,h2]
 ·have h1':¬∀ n∈[a],SM n:=by simpa using h1
  simp -dsimp [h1',partS,h1]
theorem b122 {a n d:Int} (hn:R n) (hd:R d):Best Tryz.prog 122 [.int .i64 a,.agg [.int .i64 n,.int .i64 d]] (.p (.tup [.int .i64 (partS a n d).1,.bool (partS a n d).2])):=by
 refine best mixed fn122 ok122 (by simp) ?_
 simp -dsimp [ac122]
 refine call_p (b120 a) rfl (by simp) ?_
 have e:(decide (-1048576≤a) && decide (a≤1048576))=decide (SM a):=by rw [←Bool.decide_and];rfl
 rw [e]
 by_cases h1:SM a
 ·simp -dsimp [h1]
  refine call_p (b159 hn hd) rfl (by simp) ?_
  by_cases h2:RS n d
  ·have hb:=mulb h1 h2.2.2.1 (by have:=h2.2.1;have:=h2.2.2.2.1;omega)
   have w1:R (64*a):=⟨by have:=h1.1;omega,by have:=h1.2;omega⟩
   have w2:R (64*a*n):=⟨by omega,by omega⟩
   simp -dsimp [h2,wr w1,wr w2]
   refine call_p (b84 w2 (by omega) hd) rfl (by simp) ?_
   have d1:¬d<1:=by have:=h2.1;omega
   have d2:1≤d:=h2.1
   simp -dsimp [partS,h1,h2,d1,d2]
  ·simp -dsimp [partS,h1,h2]
 ·simp -dsimp [partS,h1]
theorem gcdI_ge {a b:Int} (ha:0≤a) (hb:1≤b):1≤gcdI a b:=by
 induction h:b.toNat using Nat.strongRecOn generalizing a b with
 | _ n ih=>
  rw [gcdI_pos (by omega)]
  have h1:=tmod_bd (n:=a) (d:=b) hb
  have h2:0≤a.tmod b:=Int.tmod_nonneg b ha
  by_cases h3:1≤a.tmod b
  ·exact ih (a.tmod b).toNat (by omega) (by omega) h3 rfl
  ·rw [gcdI_neg (by omega)];omega
noncomputable def timesS (a b c d:Int):(Int×Int)×Bool:=
 if RS a b∧RS c d then (let g:=gcdI (a*c) (b*d);if 262144<b*d / g then ((0,0),false) else ((a*c / g,b*d / g),true)) else ((0,0),false)
theorem mul_bd {a c m k:Int} (h1:0≤a) (h2:a≤m) (h3:0≤c) (h4:c≤k):0≤a*c∧a*c≤m*k:=by
 refine ⟨Int.mul_nonneg h1 h3,?_⟩
 have:=Int.mul_le_mul h2 h4 h3 (by omega)
 exact this
theorem timesB {a b c d:Int} (h1:RS a b) (h2:RS c d):0≤a*c∧a*c≤68719476736∧1≤b*d∧b*d≤68719476736∧1≤gcdI (a*c) (b*d):=by
 obtain ⟨p1,p2,p3,p4,p5⟩:=h1
 obtain ⟨q1,q2,q3,q4,q5⟩:=h2
 have r1:=mul_bd p3 (by omega:a≤262144) q3 (by omega:c≤262144)
 have r2:=mul_bd (by omega:0≤b) p2 (by omega:0≤d) q2
 have r3:1*1≤b*d:=Int.mul_le_mul p1 q1 (by omega) (by omega)
 refine ⟨r1.1,by omega,by omega,by omega,?_⟩
 exact gcdI_ge r1.1 (by omega)
theorem b160 {a b c d:Int} (ha:R a) (hb:R b) (hc:R c) (hd:R d):Best Tryz.prog 160 [.agg [.int .i64 a,.int .i64 b],.agg [.int .i64 c,.int .i64 d]] (.p (.tup [.agg [.int .i64 (timesS a b c d).1.1,.int .i64 (timesS a b c d).1.2],.bool (timesS a b c d).2])):=by
 refine best mixed fn160 ok160 (by simp) ?_
 simp -dsimp [ac160]
 refine call_p (b159 ha hb) rfl (by simp) ?_
 by_cases h1:RS a b
 ·simp -dsimp [h1]
  refine call_p (b159 hc hd) rfl (by simp) ?_
  by_cases h2:RS c d
  ·obtain ⟨p1,p2,p3,p4,p5⟩:=timesB h1 h2
   have w1:R (a*c):=⟨by omega,by omega⟩
   have w2:R (b*d):=⟨by omega,by omega⟩
   simp -dsimp [h2,wr w1,wr w2]
   refine call_p (b181 w2) rfl (by simp) ?_
   have e:timesS a b c d=if 262144<b*d / gcdI (a*c) (b*d) then ((0,0),false) else ((a*c / gcdI (a*c) (b*d),b*d / gcdI (a*c) (b*d)),true):=by
    unfold timesS;rw [if_pos ⟨h1,h2⟩]
   generalize gcdI (a*c) (b*d)=g at p5 e
   have g0:g≠0:=by omega
   have t1:(a*c).tdiv g=a*c / g:=Int.tdiv_eq_ediv_of_nonneg p1
   have t2:(b*d).tdiv g=b*d / g:=Int.tdiv_eq_ediv_of_nonneg (by omega)
   have w3:=R_ediv w1 p5
   have w4:=R_ediv w2 p5
   by_cases h3:262144<b*d / g
   ·simp -dsimp [g0,t1,t2,wr w3,wr w4,h3,e]
   ·simp -dsimp [g0,t1,t2,wr w3,wr w4,h3,e]
  ·simp -dsimp [timesS,h1,h2]
 ·simp -dsimp [timesS,h1]
theorem b156 {a b c d:Int} (ha:R a) (hb:R b) (hc:R c) (hd:R d):Best Tryz.prog 156 [.agg [.int .i64 a,.int .i64 b],.agg [.int .i64 c,.int .i64 d]] (.p (.tup [.agg [.int .i64 (timesS a b c d).1.1,.int .i64 (timesS a b c d).1.2],.bool (timesS a b c d).2])):=by
 refine best mixed fn156 ok156 (by simp) ?_
 simp -dsimp [ac156]
 refine call_p (b149 ha hb) rfl (by simp) ?_
 by_cases h1:RS a b
 ·simp -dsimp [h1]
  refine call_p (b149 hc hd) rfl (by simp) ?_
  by_cases h2:RS c d
  ·obtain ⟨p1,p2,p3,p4,p5⟩:=timesB h1 h2
   have w1:R (a*c):=⟨by omega,by omega⟩
   have w2:R (b*d):=⟨by omega,by omega⟩
   simp -dsimp [h2,wr w1,wr w2]
   refine call_p (b179 w2) rfl (by simp) ?_
   have e:timesS a b c d=if 262144<b*d / gcdI (a*c) (b*d) then ((0,0),false) else ((a*c / gcdI (a*c) (b*d),b*d / gcdI (a*c) (b*d)),true):=by
    unfold timesS;rw [if_pos ⟨h1,h2⟩]
   generalize gcdI (a*c) (b*d)=g at p5 e
   have g0:g≠0:=by omega
   have t1:(a*c).tdiv g=a*c / g:=Int.tdiv_eq_ediv_of_nonneg p1
   have t2:(b*d).tdiv g=b*d / g:=Int.tdiv_eq_ediv_of_nonneg (by omega)
   have w3:=R_ediv w1 p5
   have w4:=R_ediv w2 p5
   by_cases h3:262144<b*d / g
   ·simp -dsimp [g0,t1,t2,wr w3,wr w4,h3,e]
   ·simp -dsimp [g0,t1,t2,wr w3,wr w4,h3,e]
  ·simp -dsimp [timesS,h1,h2]
 ·simp -dsimp [timesS,h1]
theorem roundS_bd {n d m:Int} (hd:1≤d) (h1:-m≤n) (h2:n≤m) (hm:0≤m):-m - 1≤roundS n d∧roundS n d≤m+1:=by
 have a1:=ediv_le (n:=n) (d:=d) h2 hm hd
 have a2:-m≤n / d:=by
  refine Int.le_ediv_of_mul_le (by omega) ?_
  have:(-m)*d≤(-m)*1:=Int.mul_le_mul_of_nonpos_left (by omega) hd
  omega
 unfold roundS
 split<;>omega
theorem b120' (n:Int):Best Tryz.prog 120 [.int .i64 n] (.p (.bool (decide (SM n)))):=by
 have e:(decide (-1048576≤n) && decide (n≤1048576))=decide (SM n):=by rw [←Bool.decide_and];rfl
 rw [←e];exact b120 n
end Go.Abs.A29
namespace Go.Abs
open Go
set_option linter.unusedSimpArgs false
set_option linter.unusedVariables false
section
variable {P:Program} {l:Nat} {xs:List (List PV)}
theorem coreY_mono {x:Opd} {args:List Opd} {dst:Option Nat} {post:List AB} {K K':Fr→Option Nat→Prop} {F:Fr} {p:Option Nat} (h:∀ F p,K F p→K' F p) (e:coreY P l xs x args dst post K F p):coreY P l xs x args dst post K' F p:=by
 unfold coreY at *
 refine ⟨e.1,?_⟩
 have e:=e.2
 split at e
 ·split at e
  ·exact ⟨e.1,fun b=>awpR_mono (fun F q=>h _ _ q) (e.2 b)⟩
  ·exact e
 ·exact e
theorem stepY_mono {y:AB} {post:List AB} {K K':Fr→Option Nat→Prop} {F:Fr} {p:Option Nat} (h:∀ F p,K F p→K' F p) (e:stepY P l xs y post K F p):stepY P l xs y post K' F p:=by
 unfold stepY at *
 split at e
 ·split at e
  ·exact coreY_mono h e
  ·split at e
   ·exact ⟨fun q=>coreY_mono h (e.1 q),fun q=>awpR_mono (fun F q=>h _ _ q) (e.2 q)⟩
   ·exact e
 ·exact e
def MonoY (b:YPT):Prop:=∀ (K K':AE→Fr→Option Nat→Prop) (F:Fr) (p:Option Nat),(∀ e F p,K e F p→K' e F p)→b K F p→b K' F p
theorem lpY_mono {b:YPT} (hb:MonoY b) {K K':AE→Fr→Option Nat→Prop} (h:∀ e F p,K e F p→K' e F p):∀ {n:Nat} {F:Fr} {p:Option Nat},lpY b n K F p→lpY b n K' F p
 | 0,_,_,e=>e
 | n+1,F,p,e=>hb _ _ F p (fun e F p q=>by
  cases e with
  | normal=>exact lpY_mono hb h (n:=n) q
  | exit i=>exact h _ _ _ q
  | ret=>exact h _ _ _ q) e
theorem awpY_mono:∀ {ay:AY} {K K':AE→Fr→Option Nat→Prop} {F:Fr} {p:Option Nat},(∀ e F p,K e F p→K' e F p)→awpY P l xs ay K F p→awpY P l xs ay K' F p:=by
 intro ay
 induction ay with
 | skip=>intro K K' F p h e;exact h _ _ _ e
 | seq x y ihx ihy=>
  intro K K' F p h e
  refine ihx (fun e F p q=>?_) e
  cases e with
  | normal=>exact ihy h q
  | exit i=>exact h _ _ _ q
  | ret=>exact h _ _ _ q
 | cond c x y ihx ihy=>
  intro K K' F p h e
  simp only [awpY] at e ⊢
  split at e
  ·exact ⟨fun q=>ihx h (e.1 q),fun q=>ihy h (e.2 q)⟩
  ·exact e
 | block id x ih=>
  intro K K' F p h e
  refine ih (fun e F p q=>?_) e
  cases e with
  | exit i=>dsimp only at q ⊢;split<;>(rename_i hi;simp only [hi] at q;exact h _ _ _ (by simpa using q))
  | normal=>exact h _ _ _ q
  | ret=>exact h _ _ _ q
 | scope x ih=>intro K K' F p h e;exact ih h e
 | label l=>intro K K' F p h e;exact h _ _ _ e
 | loop x ih=>intro K K' F p h e;obtain ⟨n,hn⟩:=e;exact ⟨n,lpY_mono (b:=awpY P l xs x) (fun K K' F p h e=>ih h e) h hn⟩
 | exit id=>intro K K' F p h e;exact h _ _ _ e
 | ret=>intro K K' F p h e;exact h _ _ _ e
 | reg ops=>intro K K' F p h e;exact awpR_mono (fun F q=>h _ _ _ q) e
 | draw ops=>intro K K' F p h e;exact awpX_mono (fun F q=>h _ _ _ q) e
 | ghost g x ih=>
  intro K K' F p h e
  simp only [awpY] at e ⊢
  split at e
  ·exact ih h e
  ·exact e
 | yield d pre y post=>
  intro K K' F p h e
  simp only [awpY] at e ⊢
  split at e
  ·rename_i hd;simp only [hd,if_true] at e ⊢;exact awpX_mono (fun F q=>stepY_mono (fun F p q=>h _ _ _ q) q) e
  ·rename_i hd;simp only [hd] at e ⊢;exact awpR_mono (fun F q=>stepY_mono (fun F p q=>h _ _ _ q) q) e
def loopY (P:Program) (l:Nat) (xs:List (List PV)) (x:AY) (K:AE→Fr→Option Nat→Prop) (t:Tag x K) (F:Fr) (p:Option Nat):Prop:=awpY P l xs (.loop x) K F p
variable {K:AE→Fr→Option Nat→Prop} {F:Fr} {p:Option Nat}
theorem awpY_skip:awpY P l xs .skip K F p=K .normal F p:=Eq.trans rfl rfl
theorem awpY_seq {x y:AY}:awpY P l xs (.seq x y) K F p=awpY P l xs x (fun e F' p'=>match e with | .normal=>awpY P l xs y K F' p' | e=>K e F' p') F p:=Eq.trans rfl rfl
theorem awpY_cond {c:Opd} {x y:AY}:awpY P l xs (.cond c x y) K F p=(match F.ff.val c with
  | some (.p (.bool b))=>condL (awpY P l xs x K F p) (awpY P l xs y K F p) {} b
  | _=>False):=Eq.trans rfl rfl
theorem awpY_block {id:Nat} {x:AY}:awpY P l xs (.block id x) K F p=awpY P l xs x (fun e F' p'=>match e with | .exit i=>if i=id then K .normal F' p' else K (.exit i) F' p' | e=>K e F' p') F p:=Eq.trans rfl rfl
theorem awpY_loop {x:AY}:awpY P l xs (.loop x) K F p=loopY P l xs x K {} F p:=Eq.trans rfl rfl
theorem awpY_scope {x:AY}:awpY P l xs (.scope x) K F p=awpY P l xs x K F p:=Eq.trans rfl rfl
theorem awpY_label {i:Nat}:awpY P l xs (.label i) K F p=K .normal F p:=Eq.trans rfl rfl
theorem awpY_exit {id:Nat}:awpY P l xs (.exit id) K F p=K (.exit id) F p:=Eq.trans rfl rfl
theorem awpY_ret:awpY P l xs .ret K F p=K .ret F p:=Eq.trans rfl rfl
theorem awpY_reg {ops:List AB}:awpY P l xs (.reg ops) K F p=awpR P ops (fun F'=>K .normal F' p) F:=Eq.trans rfl rfl
theorem awpY_draw {ops:List AI}:awpY P l xs (.draw ops) K F p=awpX P F 0 [] [] ops (fun F'=>K .normal F' p) F:=Eq.trans rfl rfl
theorem awpY_ghost {g:Ghost} {x:AY}:awpY P l xs (.ghost g x) K F p=(match g.app F with
  | some F'=>awpY P l xs x K F' p
  | none=>False):=Eq.trans rfl rfl
theorem awpY_yt {pre:List AI} {y:AB} {post:List AB}:awpY P l xs (.yield true pre y post) K F p=awpX P F 0 [] [] pre (fun F1=>stepY P l xs y post (K .normal) F1 p) F:=Eq.trans rfl rfl
theorem awpY_yf {pre:List AI} {y:AB} {post:List AB}:awpY P l xs (.yield false pre y post) K F p=awpR P (pre.map (·.b)) (fun F1=>stepY P l xs y post (K .normal) F1 p) F:=Eq.trans rfl rfl
theorem stepY_eq {d:Option Nat} {x:Opd} {args:List Opd} {a:List Nat} {post:List AB} {K:Fr→Option Nat→Prop}:stepY P l xs ⟨d,.callv x args,none,a⟩ post K F p=coreY P l xs x args d post K F p:=Eq.trans rfl rfl
theorem loopYC {g:Ghost} {x:AY} {t:Tag (AY.ghost g x) K} (n:Nat) (fr:Nat→Fr) (step:∀ k,k≤n→awpY P l xs x (fun e F' p'=>match e with
  | .normal=>k<n∧g.app F'=some (fr (k+1))∧p'=some (k+1)
  | e=>K e F' p') (fr k) (some k)) {F:Fr} (hF:g.app F=some (fr 0)):loopY P l xs (.ghost g x) K t F (some 0):=by
 have key:∀ m k F,k+m=n→g.app F=some (fr k)→lpY (awpY P l xs (.ghost g x)) (m+1) K F (some k):=by
  intro m
  induction m with
  | zero=>
   intro k F hk hF
   show awpY P l xs (.ghost g x) _ F (some k)
   rw [awpY_ghost,hF]
   refine awpY_mono (fun e F' p' q=>?_) (step k (by omega))
   cases e with
   | normal=>exact absurd q.1 (by omega)
   | exit i=>exact q
   | ret=>exact q
  | succ m ih=>
   intro k F hk hF
   show awpY P l xs (.ghost g x) _ F (some k)
   rw [awpY_ghost,hF]
   refine awpY_mono (fun e F' p' q=>?_) (step k (by omega))
   cases e with
   | normal=>
    obtain ⟨h1,h2,rfl⟩:=q
    exact ih (k+1) F' (by omega) h2
   | exit i=>exact q
   | ret=>exact q
 exact ⟨n+1,key n 0 F (by omega) hF⟩
end
end Go.Abs
