/- A part of the proof: an abstract reading of the model, contracts of functions. -/
import Derived.Test.YtinblgdfhmllnaaGreatC14
import Derived.Test.YtinblgdfhmllnaaGreatProg
set_option linter.unusedVariables false
set_option linter.unusedSimpArgs false
namespace Go.Abs.A29
open Go Go.Abs Go.Proofs
set_option maxRecDepth 100000
set_option linter.unusedVariables false
set_option linter.unusedSimpArgs false
attribute [local simp ↓] awp_skip awp_seq awp_cond awp_block awp_exit awp_ret awp_reg awp_draw awp_ghost awp_loop awp_rfun awpR_nil awpR_cons awpX_nil awpX_0 awpX_1 awpX_2 awpI_eq awpI_t awpI_f awpStep_eq
attribute [local simp] condL_true condL_false condL_dec evDel evV evN evS evA initFr Ghost.app Fr.var Fr.blk Fr.ff FF.val Abs.look Fr.app Fr.erase Fr.noSlot AV.noSlot AV.noSlotL Blk.noSlot Fr.spoken AV.fz AV.fzL Blk.fz binV binI shI binS unV fillA FF.parts FF.vals headO intO boundO lenV scalarEq leavesEq AV.aggc AV.cells FF.read FF.rows AV.one PV.one chunk freshB newS pickV retK evRs evRl evR resOf mkTup mkAgg allP cloOf okP_nil okX_p okX okP addN Del.noSlot Del.owners Rnd reify_p normM insM Fr.back Fr.backV Fr.setPs normV insV
attribute [local simp] renF Fr.trim Blk.trim AV.rn AV.rnL Blk.rn AV.among AV.amongL Blk.among okF retM fixS BIG initFF
attribute [local simp] FF.reify FF.reifyL PV.flat
attribute [local simp] ym yn yl yk yb yc yf yj yh qp qe qi qo qg qa qk qz qm ql qt qf qj qn qb qc qs qr qq qd
section
def ac184:AC:=by
 apply fun (y:AC) (_:@Eq AC (let e0:=[0];let e1:=[3,13];let e2:=[3,4];(qk e0 (qs (qr [(qp 2 (.mov (qz 0)))]) (qk e0 (qs (qs (qr [(ym 3 0)]) (qk [3] (.block 0 (qs (qs (qr [(qp 5 (qc .eql 3 (qz 4))),(yn 4 5 e0)]) (qk e2 (qq (.v 4) .skip (qs (qr [(qp 6 (qc .eql 3 (qz 5))),(yn 4 6 e0)]) (qk e2 (qq (.v 4) .skip (qs (qr [(qp 7 (qc .eql 3 (qz 6))),(yn 4 7 e0)]) (qk e2 (qq (.v 4) .skip (qs (qr [(qp 8 (qc .eql 3 (qz 7))),(yn 4 8 e0)]) (qk e2 (qq (.v 4) .skip (qs (qr [(qp 9 (qc .eql 3 (qz 9))),(yn 4 9 e0)]) (qk e2 (qq (.v 4) .skip (qs (qr [(qp 10 (qc .eql 3 (qz 10))),(yn 4 10 e0)]) (qk e2 (qq (.v 4) .skip (qs (qr [(qp 11 (qc .eql 3 (qz 11))),(yn 4 11 e0)]) (qk e2 (qq (.v 4) .skip (qr [(qp 12 (qc .eql 3 (qz 20))),(yn 4 12 e0)])))))))))))))))))))))) (qk e2 (qq (.v 4) (qs (qr [(qp 2 (.mov (qz 2)))]) (qk [2] .ret)) (qs (qs (qr [(qp 14 (qc .eql 3 (qz 2))),(yn 13 14 e0)]) (qk e1 (qq (.v 13) .skip (qs (qr [(qp 15 (qc .eql 3 (qz 3))),(yn 13 15 e0)]) (qk e1 (qq (.v 13) .skip (qs (qr [(qp 16 (qc .eql 3 (qz 8))),(yn 13 16 e0)]) (qk e1 (qq (.v 13) .skip (qs (qr [(qp 17 (qc .eql 3 (qz 12))),(yn 13 17 e0)]) (qk e1 (qq (.v 13) .skip (qs (qr [(qp 18 (qc .eql 3 (qz 17))),(yn 13 18 e0)]) (qk e1 (qq (.v 13) .skip (qs (qr [(qp 19 (qc .eql 3 (qz 18))),(yn 13 19 e0)]) (qk e1 (qq (.v 13) .skip (qs (qr [(qp 20 (qc .eql 3 (qz 19))),(yn 13 20 e0)]) (qk e1 (qq (.v 13) .skip (qs (qr [(qp 21 (qc .eql 3 (qz 22))),(yn 13 21 e0)]) (qk e1 (qq (.v 13) .skip (qr [(qp 22 (qc .eql 3 (qz 23))),(yn 13 22 e0)]))))))))))))))))))))))))) (qk [13] (qq (.v 13) (qs (qr [(qp 2 (.mov (qz 1)))]) (qk [2] .ret)) .skip))))))))) (qk [] (qs (qr [(qp 2 (.mov (qz 0)))]) (qk [2] .ret)))))))) y)=>y
 dsimp
theorem fn184:factOf Tryz.prog 184=some (ac184.strip,[.tmp 2],23):=by kernel_rfl
theorem ok184:ac184.okAll=true:=by kernel_rfl
def ac194:AC:=by
 apply fun (y:AC) (_:@Eq AC (let e0:=[3,7];(qk [0] (qs (qr [(qp 2 (.mov (qz 0)))]) (qk [0] (qs (qs (qr [(ym 3 0)]) (qk [3] (.block 0 (qs (qs (qr [(qp 5 (qc .eql 3 (qz 3))),(yn 4 5 [0])]) (qk [3,4] (qq (.v 4) .skip (qr [(qp 6 (qc .eql 3 (qz 4))),(yn 4 6 [0])])))) (qk [3,4] (qq (.v 4) (qs (qr [(qp 2 (.mov (qz 2)))]) (qk [2] .ret)) (qs (qs (qr [(qp 8 (qc .eql 3 (qz 2))),(yn 7 8 [0])]) (qk e0 (qq (.v 7) .skip (qs (qr [(qp 9 (qc .eql 3 (qz 17))),(yn 7 9 [0])]) (qk e0 (qq (.v 7) .skip (qs (qr [(qp 10 (qc .eql 3 (qz 18))),(yn 7 10 [0])]) (qk e0 (qq (.v 7) .skip (qs (qr [(qp 11 (qc .eql 3 (qz 20))),(yn 7 11 [0])]) (qk e0 (qq (.v 7) .skip (qs (qr [(qp 12 (qc .eql 3 (qz 22))),(yn 7 12 [0])]) (qk e0 (qq (.v 7) .skip (qs (qr [(qp 13 (qc .eql 3 (qz 23))),(yn 7 13 [0])]) (qk e0 (qq (.v 7) .skip (qs (qr [(qp 14 (qc .eql 3 (qz 24))),(yn 7 14 [0])]) (qk e0 (qq (.v 7) .skip (qs (qr [(qp 15 (qc .eql 3 (qz 25))),(yn 7 15 [0])]) (qk e0 (qq (.v 7) .skip (qr [(qp 16 (qc .eql 3 (qz 26))),(yn 7 16 [0])]))))))))))))))))))))))))) (qk [7] (qq (.v 7) (qs (qr [(qp 2 (.mov (qz 0)))]) (qk [2] .ret)) .skip))))))))) (qk [] (qs (qr [(qp 2 (.mov (qz 1)))]) (qk [2] .ret)))))))) y)=>y
 dsimp
theorem fn194:factOf Tryz.prog 194=some (ac194.strip,[.tmp 2],17):=by kernel_rfl
theorem ok194:ac194.okAll=true:=by kernel_rfl
def xc183:AC:=(.draw [⟨⟨some 18,.mov (.v 0),none,[]⟩,[19,20,21,22,23,24,25,26,27,28],[24,27],[],[],2⟩,
  ⟨⟨some 19,.mov (.v 0),none,[]⟩,[18,23,24,26,27],[24,27],[],[0],2⟩,
  ⟨⟨some 20,.nilck (.v 19),none,[1]⟩,[18,23,24,26,27],[24,27],[],[0],2⟩,
  ⟨⟨some 21,.faddr 1 (.v 20),none,[2]⟩,[18,23,24,26,27],[24,27],[],[0],2⟩,
  ⟨⟨some 22,.load false 1 (.v 21),none,[3]⟩,[18,23,24,26,27],[24,27],[],[0],0⟩,
  ⟨⟨some 23,.mov (.v 1),none,[]⟩,[18,19,20,21,22,26],[],[],[0,1,2,3,4],2⟩,
  ⟨⟨some 24,.call 184 [.v 23],none,[5]⟩,[18,19,20,21,22,26],[],[24],[0,1,2,3,4],1⟩,
  ⟨⟨some 25,.bin .sub (.v 22) (.v 24),none,[4,6]⟩,[18,26,27],[27],[],[0],2⟩,
  ⟨⟨some 26,.mov (.v 1),none,[]⟩,[18,19,20,21,22,23,24,25],[24],[],[0,1,2,3,4,5,6,7],2⟩,
  ⟨⟨some 27,.call 194 [.v 26],none,[8,6]⟩,[18,19,20,21,22,25],[],[27],[0,1,2,3,4,7],1⟩,
  ⟨⟨some 28,.bin .add (.v 25) (.v 27),none,[7,9]⟩,[18],[],[],[0],2⟩,
  ⟨⟨some 29,.nilck (.v 18),none,[0,0,1,2,3,4,5,6,7,8,9,10]⟩,[],[],[],[],2⟩,
  ⟨⟨some 30,.faddr 1 (.v 29),none,[11,0,1,2,3,4,5,6,7,8,9,10]⟩,[],[],[],[],2⟩,
  ⟨⟨none,.store 1 (.v 30) (.v 28),none,[12,10,9,0,1,2,3,4,5,6,7,8,9,10]⟩,[],[],[1000000,1000001,1000002,1000003,1000004,1000005],[],1⟩])
def ac183:AC:=by
 apply fun (y:AC) (_:@Eq AC (qk [0,1,2] (qs (qr [(ym 6 0),(ym 7 0),(qi 8 (.nilck (.v 7)) [1]),(yf 9 0 8 [2]),(yk 10 9 [3]),(ym 11 1),(ym 12 2),(qi 13 (.build [.int .i64 0,.int .i64 0] [(0,1,.v 11),(1,1,.v 12)]) [5,6]),(qi 14 (.bslice 243 2 1 [.int .i64 0,.int .i64 0] [(0,2,.v 13)]) [7]),(qi 15 (.app 243 2 16 (.v 10) (.v 14)) [4,8]),(qi 16 (.nilck (.v 6)) [0,0,1,2,3,4,5,6,7,8,9]),(yf 17 0 16 [10,0,1,2,3,4,5,6,7,8,9]),(qo (.store 1 (.v 17) (.v 15)) [11,9,9,0,1,2,3,4,5,6,7,8,9])]) (.ghost (.canC (1000000,0) 0 (999980,1)) (.ghost (.canC (1000000,0) 3 (999981,1)) (qk [0,1] xc183))))) y)=>y
 dsimp
theorem fn183:factOf Tryz.prog 183=some (ac183.strip,[],31):=by kernel_rfl
theorem ok183:ac183.okAll=true:=by kernel_rfl
def ac185:AC:=by
 apply fun (y:AC) (_:@Eq AC (qk [0,1] (qs (.block 0 (.loop (qk [0,1] (.ghost (.canC (1000000,0) 3 (999981,1)) (.ghost (.canC (1000000,0) 0 (999980,1)) (qs (qs (qr [(ym 4 0),(qi 5 (.nilck (.v 4)) [0]),(yf 6 1 5 [1]),(yk 7 6 [2]),(ym 8 1),(yb 9 .gtr 7 8 [3,4])]) (qk [0,1,9] (qq (.v 9) .skip (.exit 0)))) (qk [0,1] (.block 1 (qr [(ym 10 0),(qi 11 (.call 183 [.v 10,.c (.int .i64 2),.c (.int .i64 0)]) [0])]))))))))) (.ghost (.canC (1000000,0) 0 (999990,1)) (.ghost (.canC (1000000,0) 3 (999991,1)) (qk [0,1] (.block 2 (.loop (qk [0,1] (.ghost (.canC (1000000,0) 3 (999981,1)) (.ghost (.canC (1000000,0) 0 (999980,1)) (qs (qs (qr [(ym 12 0),(qi 13 (.nilck (.v 12)) [0]),(yf 14 1 13 [1]),(yk 15 14 [2]),(ym 16 1),(yb 17 .lss 15 16 [3,4])]) (qk [0,1,17] (qq (.v 17) .skip (.exit 2)))) (qk [0,1] (.block 3 (qr [(ym 18 0),(qi 19 (.call 183 [.v 18,.c (.int .i64 1),.c (.int .i64 1)]) [0])])))))))))))))) y)=>y
 dsimp
theorem fn185:factOf Tryz.prog 185=some (ac185.strip,[],20):=by kernel_rfl
theorem ok185:ac185.okAll=true:=by kernel_rfl
def ac164:AC:=by
 apply fun (y:AC) (_:@Eq AC (qk [0] (qs (qr [(ym 3 0),(qi 4 (.nilck (.v 3)) [0]),(yf 5 3 4 [1]),(yk 6 5 [2]),(yh 7 6 [3]),(yc 8 .sub 7 (qz 1) [4]),(yn 2 8 [5,0,1,2,3,4,5])]) (qk [0,2] (qs (qr [(ym 9 0),(ym 10 0),(qi 11 (.nilck (.v 10)) [1]),(yf 12 3 11 [2]),(yk 13 12 [3]),(ym 14 2),(yj 15 1 13 14 [4,5]),(yk 16 15 [6]),(qi 17 (.call 185 [.v 9,.v 16]) [0,7])]) (qk [0,2] (qs (qr [(ym 18 0),(ym 19 0),(qi 20 (.nilck (.v 19)) [1]),(yf 21 3 20 [2]),(yk 22 21 [3]),(ym 23 2),(qi 24 (.slcV 1 (.v 22) none (some (.v 23))) [4,5]),(qi 25 (.nilck (.v 18)) [0,0,1,2,3,4,5,6]),(yf 26 3 25 [7,0,1,2,3,4,5,6]),(qo (.store 1 (.v 26) (.v 24)) [8,6,0,1,2,3,4,5,6])]) (.ghost (.canC (1000000,0) 0 (999990,1)) (.ghost (.canC (1000000,0) 3 (999991,1)) (qk [0] (qr [(ym 27 0),(qi 28 (.call 183 [.v 27,.c (.int .i64 25),.c (.int .i64 0)]) [0])])))))))))) y)=>y
 dsimp
theorem fn164:factOf Tryz.prog 164=some (ac164.strip,[],29):=by kernel_rfl
theorem ok164:ac164.okAll=true:=by kernel_rfl
def xc182g:AC:=(.draw [⟨⟨some 85,.mov (.v 0),none,[]⟩,[86,87,88,89,90,91,92,93,94,95],[28,36,46,47,64,66,75,79,82,84,94,95,999980,999981,999982,999983,999990,999991,999992,999993],[],[],2⟩,
  ⟨⟨some 86,.mov (.v 0),none,[]⟩,[85,90,91,92,93,94],[94],[],[0],2⟩,
  ⟨⟨some 87,.nilck (.v 86),none,[1]⟩,[85,90,91,92,93,94],[94],[],[0],2⟩,
  ⟨⟨some 88,.faddr 3 (.v 87),none,[2]⟩,[85,90,91,92,93,94],[94],[],[0],2⟩,
  ⟨⟨some 89,.load false 1 (.v 88),none,[3]⟩,[85,90,91,92,93,94],[94],[],[0],0⟩,
  ⟨⟨some 90,.mov (.v 0),none,[]⟩,[85,86,87,88,89],[],[],[0,1,2,3,4],2⟩,
  ⟨⟨some 91,.nilck (.v 90),none,[5]⟩,[85,86,87,88,89],[],[],[0,1,2,3,4],2⟩,
  ⟨⟨some 92,.faddr 1 (.v 91),none,[6]⟩,[85,86,87,88,89],[],[],[0,1,2,3,4],2⟩,
  ⟨⟨some 93,.load false 1 (.v 92),none,[7]⟩,[85,86,87,88,89],[],[],[0,1,2,3,4],2⟩,
  ⟨⟨some 94,.bslice 3 1 1 [.int .i64 0] [(0,1,.v 93)],none,[8]⟩,[85,86,87,88,89],[],[94],[0,1,2,3,4],1⟩,
  ⟨⟨some 95,.app 3 1 8 (.v 89) (.v 94),none,[4,9]⟩,[85],[],[28,36,46,47,64,66,75,79,82,84,94,95,999980,999981,999982,999983,999990,999991,999992,999993],[0],1⟩,
  ⟨⟨some 96,.nilck (.v 85),none,[0,0,1,2,3,4,5,6,7,8,9,10]⟩,[],[],[],[],2⟩,
  ⟨⟨some 97,.faddr 3 (.v 96),none,[11,0,1,2,3,4,5,6,7,8,9,10]⟩,[],[],[],[],2⟩,
  ⟨⟨none,.store 1 (.v 97) (.v 95),none,[12,10,10,0,1,2,3,4,5,6,7,8,9,10]⟩,[],[],[1000000,1000001,1000002,1000003,1000004,1000005],[],1⟩])
def xc182f:AC:=by
 apply fun (y:AC) (_:@Eq AC (qs (qs (qr [(ym 67 2),(yc 68 .rem 67 (qz 5) [0]),(yc 69 .gtr 68 (qz 1) [1])]) (qk [0,2,69] (qq (.v 69) (qs (qr [(ym 70 0),(qi 71 (.nilck (.v 70)) [0]),(yf 72 1 71 [1]),(yk 73 72 [2]),(yn 6 73 [3,0,1,2,3])]) (qk [0,2,6] (qs (qr [(ym 74 0),(qi 75 (.call 183 [.v 74,.c (.int .i64 13),.c (.int .i64 0)]) [0])]) (.ghost (.canC (1000000,0) 0 (999990,1)) (.ghost (.canC (1000000,0) 3 (999991,1)) (qk [0,2,6] (qs (qr [(ym 76 0),(ym 77 2),(yc 78 .rem 77 (qz 8) [1]),(qi 79 (.call 183 [.v 76,.c (.int .i64 22),.v 78]) [0,2])]) (.ghost (.canC (1000000,0) 0 (999990,1)) (.ghost (.canC (1000000,0) 3 (999991,1)) (qk [0,6] (qs (qr [(ym 80 0),(ym 81 6),(qi 82 (.call 185 [.v 80,.v 81]) [0,1])]) (.ghost (.canC (1000000,0) 0 (999990,1)) (.ghost (.canC (1000000,0) 3 (999991,1)) (qk [0] (qr [(ym 83 0),(qi 84 (.call 183 [.v 83,.c (.int .i64 24),.c (.int .i64 0)]) [0])]))))))))))))))) .skip))) (.ghost (.canC (1000000,0) 0 (999980,1)) (.ghost (.canC (1000000,0) 3 (999981,0)) (qk [0] xc182g)))) y)=>y
 dsimp
def xc182e:AC:=by
 apply fun (y:AC) (_:@Eq AC (qs (qr [(ym 65 0),(qi 66 (.call 183 [.v 65,.c (.int .i64 23),.c (.int .i64 0)]) [0])]) (.ghost (.canC (1000000,0) 0 (999990,1)) (.ghost (.canC (1000000,0) 3 (999991,1)) (qk [0,2] xc182f)))) y)=>y
 dsimp
def xc182d:AC:=by
 apply fun (y:AC) (_:@Eq AC (qs (qs (qr [(ym 50 0),(qi 51 (.nilck (.v 50)) [0]),(yf 52 1 51 [1]),(yk 53 52 [2]),(yc 54 .eql 53 (qz 0) [3]),(yn 55 54 [4]),(qg 56 (qm 2) 55 false [5]),(qg 57 (qc .rem 56 (qz 3)) 55 false [6,5]),(qg 58 (qc .eql 57 (qz 0)) 55 false [7,5]),(qi 59 (.pick (.v 55) (.c (.bool true)) (.v 58)) [5,8])]) (qk [0,2,59] (qq (.v 59) (qr [(ym 60 0),(ym 61 2),(yc 62 .quo 61 (qz 3) [1]),(yc 63 .rem 62 (qz 2) [2]),(qi 64 (.call 183 [.v 60,.c (.int .i64 1),.v 63]) [0,3])]) .skip))) (.ghost (.canC (1000000,0) 0 (999990,1)) (.ghost (.canC (1000000,0) 3 (999991,1)) (qk [0,2] xc182e)))) y)=>y
 dsimp
def xc182r:AC:=(.ghost (.canC (1000000,0) 3 (999981,1)) (.ghost (.canC (1000000,0) 0 (999980,1)) .ret))
def ac182:AC:=by
 apply fun (y:AC) (_:@Eq AC (let e0:=[28,36,46,47,64,66,75,79,82,84,94,95,999980,999981,999982,999983,999990,999991,999992,999993];let e1:=[37,38,39,40,41];let e2:=[37,42,43,44,45,46];let e3:=[0,1,2,3,4];(qk [0,1,2] (qs (qs (qr [(ym 7 1),(yc 8 .eql 7 (qz 25) [0]),(yn 9 8 [1]),(qg 10 (qm 1) 9 false [2]),(qg 11 (qc .eql 10 (qz 24)) 9 false [3,2]),(qi 12 (.pick (.v 9) (.c (.bool true)) (.v 11)) [2,4]),(yn 13 12 [5,2]),(qg 14 (qm 0) 13 false [6]),(qg 15 (.nilck (.v 14)) 13 false [7,6]),(qg 16 (qf 3 15) 13 false [8,6]),(qg 17 (ql 16) 13 false [9,6]),(qg 18 (qn 17) 13 false [10,6]),(qg 19 (qc .gtr 18 (qz 2)) 13 false [11,6]),(qi 20 (.pick (.v 13) (.c (.bool true)) (.v 19)) [6,12])]) (qk [0,1,2,20] (qq (.v 20) (qs (qs (qr [(ym 21 0),(qi 22 (.nilck (.v 21)) [0]),(yf 23 3 22 [1]),(yk 24 23 [2]),(yh 25 24 [3]),(yc 26 .gtr 25 (qz 0) [4])]) (qk [0,26] (qq (.v 26) (qr [(ym 27 0),(qi 28 (.call 164 [.v 27]) [0])]) .skip))) (qk [0] xc182r)) .skip))) (qk [0,1,2] (qs (qs (qr [(ym 29 1),(yc 30 .eql 29 (qz 26) [0])]) (qk [0,1,2,30] (qq (.v 30) (qs (qr [(ym 31 0),(ym 32 1),(ym 33 2),(yc 34 .rem 33 (qz 4) [2]),(qi 35 (.bin .add (qz 1) (.v 34)) [3]),(qi 36 (.call 183 [.v 31,.v 32,.v 35]) [0,1,4])]) (qk [0] (qs (qd [(qa (ym 37 0) [38,39,40,41,42,43,44,45,46,47] e0 [] [] 2),(qa (ym 38 0) e2 [46] [] [0] 2),(qa (qi 39 (.nilck (.v 38)) [1]) e2 [46] [] [0] 2),(qa (yf 40 3 39 [2]) e2 [46] [] [0] 2),(qa (yk 41 40 [3]) e2 [46] [] [0] 0),(qe (ym 42 0) e1 e3 2),(qe (qi 43 (.nilck (.v 42)) [5]) e1 e3 2),(qe (yf 44 1 43 [6]) e1 e3 2),(qe (yk 45 44 [7]) e1 e3 2),(qa (qi 46 (.bslice 3 1 1 [.int .i64 0] [(0,1,.v 45)]) [8]) e1 [] [46] e3 1),(qa (qi 47 (.app 3 1 8 (.v 41) (.v 46)) [4,9]) [37] [] e0 [0] 1),(qe (qi 48 (.nilck (.v 37)) [0,0,1,2,3,4,5,6,7,8,9,10]) [] [] 2),(qe (yf 49 3 48 [11,0,1,2,3,4,5,6,7,8,9,10]) [] [] 2),(qa (qo (.store 1 (.v 49) (.v 47)) [12,10,10,0,1,2,3,4,5,6,7,8,9,10]) [] [] [1000000,1000001,1000002,1000003,1000004,1000005] [] 1)]) (qk [0] (.ghost (.canC (1000000,0) 3 (999981,1)) (.ghost (.canC (1000000,0) 0 (999980,1)) .ret)))))) .skip))) (qk [0,2] xc182d)))))) y)=>y
 dsimp
theorem fn182:factOf Tryz.prog 182=some (ac182.strip,[],98):=by kernel_rfl
theorem ok182:ac182.okAll=true:=by kernel_rfl
def xc163e:AC:=by
 apply fun (y:AC) (_:@Eq AC (qr [(ym 113 0),(ym 114 8),(ym 115 11),(qi 116 (.call 183 [.v 113,.v 114,.v 115]) [0,1,2])]) y)=>y
 dsimp
def xc163g:AC:=by
 apply fun (y:AC) (_:@Eq AC (let e0:=[0,3,8,9,11,89,100];(qs (qs (qr [(ym 89 8)]) (qk [0,2,3,8,9,11,89] (.block 2 (qs (qr [(qp 91 (qc .eql 89 (qz 1))),(yn 90 91 [0])]) (qk [0,2,3,8,9,11,89,90] (qq (.v 90) (qr [(ym 92 9),(yc 93 .rem 92 (qz 400) [0]),(yc 94 .sub 93 (qz 200) [1]),(yn 11 94 [2,0,1,2])]) (qs (qr [(qp 96 (qc .eql 89 (qz 14))),(yn 95 96 [0])]) (qk [0,2,3,8,9,11,89,95] (qq (.v 95) (qr [(ym 97 9),(ym 98 2),(yb 99 .rem 97 98 [0,1]),(yn 11 99 [2,0,1,2])]) (qs (qs (qr [(qp 101 (qc .eql 89 (qz 15))),(yn 100 101 [0])]) (qk e0 (qq (.v 100) .skip (qs (qr [(qp 102 (qc .eql 89 (qz 16))),(yn 100 102 [0])]) (qk e0 (qq (.v 100) .skip (qs (qr [(qp 103 (qc .eql 89 (qz 17))),(yn 100 103 [0])]) (qk e0 (qq (.v 100) .skip (qr [(qp 104 (qc .eql 89 (qz 18))),(yn 100 104 [0])])))))))))) (qk e0 (qq (.v 100) (qr [(ym 105 9),(ym 106 3),(yb 107 .rem 105 106 [0,1]),(yn 11 107 [2,0,1,2])]) (qs (qs (qr [(qp 109 (qc .eql 89 (qz 21))),(yn 108 109 [0])]) (qk [0,8,9,11,89,108] (qq (.v 108) .skip (qr [(qp 110 (qc .eql 89 (qz 22))),(yn 108 110 [0])])))) (qk [0,8,9,11,108] (qq (.v 108) (qr [(ym 111 9),(yc 112 .rem 111 (qz 8) [0]),(yn 11 112 [1,0,1])]) .skip))))))))))))))) (qk [0,8,11] (.ghost (.canC (1000000,0) 3 (999991,1)) (.ghost (.canC (1000000,0) 0 (999990,1)) xc163e))))) y)=>y
 dsimp
def xc163d:AC:=by
 apply fun (y:AC) (_:@Eq AC (qs (qr [(qp 11 (.mov (qz 0)))]) (qk [0,2,3,8,9,11] xc163g)) y)=>y
 dsimp
def xc163c:AC:=by
 apply fun (y:AC) (_:@Eq AC (let e0:=[0,2,3,8,9];(qs (qs (qr [(ym 54 8),(yc 55 .eql 54 (qz 19) [0]),(yn 56 55 [1]),(qg 57 (qm 8) 56 false [2]),(qg 58 (qc .eql 57 (qz 20)) 56 false [3,2]),(qi 59 (.pick (.v 56) (.c (.bool true)) (.v 58)) [2,4])]) (qk [0,2,3,8,9,59] (qq (.v 59) (qs (qr [(ym 60 0),(ym 61 9),(ym 62 3),(yb 63 .rem 61 62 [1,2]),(qi 64 (.call 183 [.v 60,.c (.int .i64 1),.v 63]) [0,3])]) (qk [0,3,8,9] (.ghost (.canC (1000000,0) 3 (999991,1)) (.ghost (.canC (1000000,0) 0 (999990,1)) (qs (qs (qr [(ym 65 8),(yc 66 .eql 65 (qz 20) [0])]) (qk [0,3,8,9,66] (qq (.v 66) (qr [(ym 67 0),(ym 68 9),(ym 69 3),(yb 70 .quo 68 69 [1,2]),(yc 71 .rem 70 (qz 100) [3]),(yc 72 .sub 71 (qz 40) [4]),(qi 73 (.call 183 [.v 67,.c (.int .i64 1),.v 72]) [0,5])]) .skip))) (qk [0,8] (.ghost (.canC (1000000,0) 3 (999991,1)) (.ghost (.canC (1000000,0) 0 (999990,1)) (qs (qr [(ym 74 0),(ym 75 8),(qi 76 (.call 183 [.v 74,.v 75,.c (.int .i64 0)]) [0,1])]) (qk [0] .ret)))))))))) .skip))) (qk e0 (qs (.block 0 (.loop (qk e0 (.ghost (.canC (1000000,0) 3 (999981,1)) (.ghost (.canC (1000000,0) 0 (999980,1)) (qs (qs (qd [(qa (ym 77 0) [81,82] [82] [] [] 2),(qa (qi 78 (.nilck (.v 77)) [0]) [81,82] [82] [] [] 2),(qa (yf 79 1 78 [1]) [81,82] [82] [] [] 2),(qa (yk 80 79 [2]) [81,82] [82] [] [] 0),(qe (ym 81 8) [77,78,79,80] [0,1,2,3] 2),(qa (qi 82 (.call 184 [.v 81]) [4]) [77,78,79,80] [] [82] [0,1,2,3] 1),(qe (yb 83 .lss 80 82 [3,5]) [] [] 2)]) (qk [0,2,3,8,9,83] (qq (.v 83) .skip (.exit 0)))) (qk e0 (.block 1 (qr [(ym 84 0),(ym 85 9),(yc 86 .rem 85 (qz 300) [1]),(yc 87 .sub 86 (qz 100) [2]),(qi 88 (.call 183 [.v 84,.c (.int .i64 1),.v 87]) [0,3])]))))))))) (qk e0 xc163d))))) y)=>y
 dsimp
def xc163f:AC:=by
 apply fun (y:AC) (_:@Eq AC (qs (qs (qr [(ym 41 10),(yn 42 41 [0]),(qg 43 (qm 3) 42 true [1]),(qg 44 (qc .eql 43 (qz 0)) 42 true [2,1]),(qi 45 (.pick (.v 42) (.v 44) (.c (.bool false))) [1,3]),(yn 46 45 [4,1]),(qg 47 (qm 8) 46 false [5]),(qg 48 (qc .eql 47 (qz 14)) 46 false [6,5]),(qg 49 (qm 48) 46 false [7,5,5]),(qg 50 (qm 2) 49 true [8]),(qg 51 (qc .eql 50 (qz 0)) 49 true [9,8]),(qg 52 (.pick (.v 49) (.v 51) (.c (.bool false))) 46 false [8,10,5]),(qi 53 (.pick (.v 46) (.c (.bool true)) (.v 52)) [5,11])]) (qk [0,2,3,8,9,53] (qq (.v 53) (qr [(qp 8 (.mov (qz 13)))]) .skip))) (qk [0,2,3,8,9] xc163c)) y)=>y
 dsimp
def xc163b:AC:=by
 apply fun (y:AC) (_:@Eq AC (qs (qr [(ym 27 8),(yc 28 .geq 27 (qz 15) [0]),(yn 29 28 [1]),(qg 30 (qm 8) 29 true [2]),(qg 31 (qc .leq 30 (qz 18)) 29 true [3,2]),(qi 32 (.pick (.v 29) (.v 31) (.c (.bool false))) [2,4]),(yn 33 32 [5,2]),(qg 34 (qm 8) 33 false [6]),(qg 35 (qc .eql 34 (qz 19)) 33 false [7,6]),(qi 36 (.pick (.v 33) (.c (.bool true)) (.v 35)) [6,8]),(yn 37 36 [9,6]),(qg 38 (qm 8) 37 false [10]),(qg 39 (qc .eql 38 (qz 20)) 37 false [11,10]),(qi 40 (.pick (.v 37) (.c (.bool true)) (.v 39)) [10,12]),(yn 10 40 [13,10,0,1,2,3,4,5,6,7,8,9,10,11,12,13])]) (qk [0,2,3,8,9,10] xc163f)) y)=>y
 dsimp
def ac163:AC:=by
 apply fun (y:AC) (_:@Eq AC (qk [0,1,2,3] (qs (qr [(ym 12 1),(yc 13 .rem 12 (qz 26) [0]),(qi 14 (.bin .add (qz 1) (.v 13)) [1]),(yn 8 14 [2,0,1,2])]) (qk [0,1,2,3,8] (qs (qr [(ym 15 1),(yc 16 .quo 15 (qz 26) [0]),(yn 9 16 [1,0,1])]) (qk [0,2,3,8,9] (qs (qs (qr [(ym 17 8),(yc 18 .geq 17 (qz 23) [0]),(yn 19 18 [1]),(qg 20 (qm 8) 19 true [2]),(qg 21 (qc .leq 20 (qz 26)) 19 true [3,2]),(qi 22 (.pick (.v 19) (.v 21) (.c (.bool false))) [2,4])]) (qk [0,2,3,8,9,22] (qq (.v 22) (qs (qr [(ym 23 0),(ym 24 8),(ym 25 9),(qi 26 (.call 182 [.v 23,.v 24,.v 25]) [0,1,2])]) (qk [0] .ret)) .skip))) (qk [0,2,3,8,9] xc163b))))))) y)=>y
 dsimp
theorem fn163:factOf Tryz.prog 163=some (ac163.strip,[],117):=by kernel_rfl
theorem ok163:ac163.okAll=true:=by kernel_rfl
end
section
def takesF (n:Int):Nat:=if n=4∨n=5∨n=6∨n=7∨n=9∨n=10∨n=11∨n=20 then 2 else if n=2∨n=3∨n=8∨n=12∨n=17∨n=18∨n=19∨n=22∨n=23 then 1 else 0
def givesF (n:Int):Nat:=if n=3∨n=4 then 2 else if n=2∨n=17∨n=18∨n=20∨n=22∨n=23∨n=24∨n=25∨n=26 then 0 else 1
theorem takesF_le (n:Int):takesF n≤2:=by unfold takesF;split;omega;split<;>omega
theorem givesF_le (n:Int):givesF n≤2:=by unfold givesF;split;omega;split<;>omega
theorem b184 (n:Int):Best Tryz.prog 184 [.int .i64 n] (.p (.int .i64 (takesF n))):=by
 refine best mixed fn184 ok184 (by simp) ?_
 by_cases h:2≤n∧n≤23
 ·obtain ⟨h1,h2⟩:=h
  have:n=2∨n=3∨n=4∨n=5∨n=6∨n=7∨n=8∨n=9∨n=10∨n=11∨n=12∨n=13∨n=14∨n=15∨n=16∨n=17∨n=18∨n=19∨n=20∨n=21∨n=22∨n=23:=by omega
  rcases this with rfl | rfl | rfl | rfl | rfl | rfl | rfl | rfl | rfl | rfl | rfl | rfl | rfl | rfl | rfl | rfl | rfl | rfl | rfl | rfl | rfl | rfl
  all_goals simp -dsimp [ac184,takesF]
 ·have g:∀ m:Int,2≤m→m≤23→n≠m:=fun m h1 h2 e=>h (by omega)
  simp -dsimp [ac184,takesF,g]
theorem b194 (n:Int):Best Tryz.prog 194 [.int .i64 n] (.p (.int .i64 (givesF n))):=by
 refine best mixed fn194 ok194 (by simp) ?_
 by_cases h:2≤n∧n≤26
 ·obtain ⟨h1,h2⟩:=h
  have:n=2∨n=3∨n=4∨n=5∨n=6∨n=7∨n=8∨n=9∨n=10∨n=11∨n=12∨n=13∨n=14∨n=15∨n=16∨n=17∨n=18∨n=19∨n=20∨n=21∨n=22∨n=23∨n=24∨n=25∨n=26:=by omega
  rcases this with rfl | rfl | rfl | rfl | rfl | rfl | rfl | rfl | rfl | rfl | rfl | rfl | rfl | rfl | rfl | rfl | rfl | rfl | rfl | rfl | rfl | rfl | rfl | rfl | rfl
  all_goals simp -dsimp [ac194,givesF]
 ·have g:∀ m:Int,2≤m→m≤26→n≠m:=fun m h1 h2 e=>h (by omega)
  simp -dsimp [ac194,givesF,g]
end
section
structure Mk where
 p:List (Int×Int)
 h:Int
 most:Int
 op:List Int
def mkM (s:Slot) (n:Nat) (x:Mk):List (Slot×Blk):=[((n,1),.sl 243 2 (x.p.map mvRow)),((n+1,1),.sl 3 1 (x.op.map intRow)),(s,.box [.ref (n,1) 2 0 x.p.length,.p (.int .i64 x.h),.p (.int .i64 x.most),.ref (n+1,1) 1 0 x.op.length])]
attribute [local simp] mkM
def Mk.bd (x:Mk) (B Q:Nat):Prop:=-(B:Int)≤x.h∧x.h≤B∧(∀ o∈x.op,-(B:Int)≤o∧o≤B)∧x.p.length≤Q∧x.op.length≤Q∧B≤100000∧Q≤10000000
theorem mkRen {f:FuncId} {x y:Mk} {l:List AV} (h:BestF Tryz.prog f (mkM (BIG,0) 999990 x) (.ptr (BIG,0) 4 0 0 :: l) [(BIG,0)] (.p (.tup [])) (mkM (BIG,0) 999980 y)) (s:Slot) (n m:Nat) (hn:n≠m) (hn2:n+1≠m) (hn3:m+1≠n) (hs:s.1≠n) (hs2:s.1≠m) (hs3:s.1≠n+1) (hs4:s.1≠m+1) (hl:∀ ρ,AV.rnFL ρ l=l) :
  BestF Tryz.prog f (mkM s n x) (.ptr s 4 0 0 :: l) [s] (.p (.tup [])) (mkM s m y):=by
 have g:=h.ren (fun t=>if t=(BIG,0) then s else if t.1=999990 then (n,t.2) else if t.1=999991 then (n+1,t.2) else if t.1=999980 then (m,t.2) else (m+1,t.2)) (fun t=>if t=s then (BIG,0) else if t.1=n then (999990,t.2) else if t.1=n+1 then (999991,t.2) else if t.1=m then (999980,t.2) else (999981,t.2))
  (by simp [mkM];grind) (by simp [mkM];grind) (by simp) (by simp) (by simp [mkM])
 simpa [mkM,rnM,Blk.rnF,AV.rnFL,AV.rnF,hl] using g
theorem b183' (x:Mk) (a b:Int) (hp:x.p.length≤10000000) (hh:-1000000≤x.h∧x.h≤1000000):BestF Tryz.prog 183 (mkM (BIG,0) 999990 x) [.ptr (BIG,0) 4 0 0,.p (.int .i64 a),.p (.int .i64 b)] [(BIG,0)] (.p (.tup [])) (mkM (BIG,0) 999980 ⟨x.p++[(a,b)],x.h - takesF a+givesF a,x.most,x.op⟩):=by
 refine bestF mixed fn183 ok183 (by simp) (by simp) ?_
 have m1:x.p.length+1≤maxLen:=by unfold maxLen;omega
 have m2:(x.p.length+1)*16≤140737488355328:=by omega
 have ht:List.take x.op.length (x.op.map intRow)=x.op.map intRow:=List.take_of_length_le (by simp)
 have t1:=takesF_le a
 have t2:=givesF_le a
 have w1:R (x.h - takesF a):=⟨by omega,by omega⟩
 have w2:R (x.h - takesF a+givesF a):=⟨by omega,by omega⟩
 have ht2:List.take (x.p.length+1) (x.p.map mvRow++[[PV.int .i64 a,.int .i64 b]])=x.p.map mvRow++[[PV.int .i64 a,.int .i64 b]]:=List.take_of_length_le (by simp)
 simp -dsimp [ac183,xc183,List.range,List.range.loop,m1,m2,ht,ht2]
 refine call_p (b184 a) (by simp) (by simp) ?_
 simp -dsimp [wr w1]
 refine call_p (b194 a) (by simp) (by simp) ?_
 simp -dsimp [wr w1,wr w2,retF,mvRow]
theorem b183 (x:Mk) (a b:Int) (hp:x.p.length≤10000000) (hh:-1000000≤x.h∧x.h≤1000000) (s:Slot) (n m:Nat) (hn:n≠m) (hn2:n+1≠m) (hn3:m+1≠n) (hs:s.1≠n) (hs2:s.1≠m) (hs3:s.1≠n+1) (hs4:s.1≠m+1) :
  BestF Tryz.prog 183 (mkM s n x) [.ptr s 4 0 0,.p (.int .i64 a),.p (.int .i64 b)] [s] (.p (.tup [])) (mkM s m ⟨x.p++[(a,b)],x.h - takesF a+givesF a,x.most,x.op⟩):=
 mkRen (b183' x a b hp hh) s n m hn hn2 hn3 hs hs2 hs3 hs4 (fun _=>rfl)
theorem b185' (x:Mk) (t:Int) (hp:x.p.length≤5000000) (hh:-1000000≤x.h∧x.h≤1000000) (ht:-1000000≤t∧t≤1000000):∃ y:List (Int×Int),y.length≤x.p.length+(x.h - t).natAbs ∧
  BestF Tryz.prog 185 (mkM (BIG,0) 999990 x) [.ptr (BIG,0) 4 0 0,.p (.int .i64 t)] [(BIG,0)] (.p (.tup [])) (mkM (BIG,0) 999980 ⟨y,t,x.most,x.op⟩):=by
 refine bestEF mixed fn185 ok185 (by simp) (by simp) ?_
 have hto:List.take x.op.length (x.op.map intRow)=x.op.map intRow:=List.take_of_length_le (by simp)
 simp -dsimp [ac185]
 refine loopM (fun y:List (Int×Int)×Int=>(y.2 - t).toNat) (fun y=>⟨[(0,.ptr (1000000,0) 4 0 0),(1,.p (.int .i64 t))],mkM (1000000,0) 999990 ⟨y.1,y.2,x.most,x.op⟩⟩) (fun y=>(if x.h<t then y=(x.p,x.h) else t≤y.2∧y.2≤x.h∧y.1.length=x.p.length+(x.h - y.2).toNat)) (x.p,x.h) (fun y hQ=>?_) ?_ (by simp)
 rotate_left
 ·split
  ·rfl
  ·exact ⟨by omega,by omega,by simp⟩
 obtain ⟨y,v⟩:=y
 have hty:List.take y.length (y.map mvRow)=y.map mvRow:=List.take_of_length_le (by simp)
 dsimp only at hQ
 by_cases hv:t<v
 ·have hq:x.h<t→False:=fun h=>by rw [if_pos h] at hQ;simp only [Prod.mk.injEq] at hQ;omega
  rw [if_neg hq] at hQ
  have p:=b183 ⟨y,v,x.most,x.op⟩ 2 0 (by dsimp only;omega) (by dsimp only;omega) (1000000,0) 999980 999990 (by decide) (by decide) (by decide) (by decide) (by decide) (by decide) (by decide)
  rw [show takesF 2=1 from rfl,show givesF 2=0 from rfl,show v - ((1:Nat):Int)+((0:Nat):Int)=v - 1 by omega] at p
  simp -dsimp [hv,hto,hty]
  refine call_m p (by simp) (by simp) (by simp) ?_
  simp -dsimp
  refine ⟨y++[(2,0)],v - 1,by omega,?_,by simp⟩
  rw [if_neg hq]
  exact ⟨by omega,by omega,by simp;omega⟩
 ·simp -dsimp [hv,hto,hty]
  have hy:y.length≤x.p.length+(x.h - t).natAbs:=by
   by_cases h:x.h<t
   ·rw [if_pos h] at hQ;simp only [Prod.mk.injEq] at hQ;rw [hQ.1];omega
   ·rw [if_neg h] at hQ;omega
  have hvt:v≤t∧-1000000≤v∧y.length+(t - v).natAbs≤x.p.length+(x.h - t).natAbs:=by
   by_cases h:x.h<t
   ·rw [if_pos h] at hQ;simp only [Prod.mk.injEq] at hQ;rw [hQ.1,hQ.2];omega
   ·rw [if_neg h] at hQ;omega
  refine loopM (fun z:List (Int×Int)×Int=>(t - z.2).toNat) (fun y=>⟨[(0,.ptr (1000000,0) 4 0 0),(1,.p (.int .i64 t))],mkM (1000000,0) 999990 ⟨y.1,y.2,x.most,x.op⟩⟩) (fun z=>v≤z.2∧z.2≤t∧z.1.length+(t - z.2).natAbs≤x.p.length+(x.h - t).natAbs) (y,v) (fun z hQ=>?_) ⟨by omega,hvt.1,hvt.2.2⟩ (by simp)
  obtain ⟨z,u⟩:=z
  have htz:List.take z.length (z.map mvRow)=z.map mvRow:=List.take_of_length_le (by simp)
  dsimp only at hQ
  by_cases hu:u<t
  ·have p:=b183 ⟨z,u,x.most,x.op⟩ 1 1 (by dsimp only;omega) (by dsimp only;omega) (1000000,0) 999980 999990 (by decide) (by decide) (by decide) (by decide) (by decide) (by decide) (by decide)
   rw [show takesF 1=0 from rfl,show givesF 1=1 from rfl,show u - ((0:Nat):Int)+((1:Nat):Int)=u+1 by omega] at p
   simp -dsimp [hu,hto,htz]
   refine call_m p (by simp) (by simp) (by simp) ?_
   simp -dsimp
   exact ⟨z++[(1,1)],u+1,by omega,⟨by omega,by omega,by simp;omega⟩,by simp⟩
  ·have:u=t:=by omega
   subst this
   simp -dsimp [hu,hto,htz,retEF]
   exact ⟨z,⟨rfl,rfl⟩,by omega⟩
theorem b185 (x:Mk) (t:Int) (hp:x.p.length≤5000000) (hh:-1000000≤x.h∧x.h≤1000000) (ht:-1000000≤t∧t≤1000000) (s:Slot) (n m:Nat) (hn:n≠m) (hn2:n+1≠m) (hn3:m+1≠n) (hs:s.1≠n) (hs2:s.1≠m) (hs3:s.1≠n+1) (hs4:s.1≠m+1):∃ y:List (Int×Int),y.length≤x.p.length+(x.h - t).natAbs ∧
  BestF Tryz.prog 185 (mkM s n x) [.ptr s 4 0 0,.p (.int .i64 t)] [s] (.p (.tup [])) (mkM s m ⟨y,t,x.most,x.op⟩):=by
 obtain ⟨y,h1,h2⟩:=b185' x t hp hh ht
 exact ⟨y,h1,mkRen h2 s n m hn hn2 hn3 hs hs2 hs3 hs4 (fun _=>rfl)⟩
end
section
attribute [local simp] mkM
theorem b164' (x:Mk) (ops:List Int) (o:Int) (ho:x.op=ops++[o]) (hp:x.p.length≤1000000) (hh:-1000000≤x.h∧x.h≤1000000) (ht:-1000000≤o∧o≤1000000) (hl:ops.length≤1000000):∃ y:List (Int×Int),y.length≤x.p.length+(x.h - o).natAbs+1 ∧
  BestF Tryz.prog 164 (mkM (BIG,0) 999990 x) [.ptr (BIG,0) 4 0 0] [(BIG,0)] (.p (.tup [])) (mkM (BIG,0) 999980 ⟨y,o,x.most,ops⟩):=by
 refine bestEF mixed fn164 ok164 (by simp) (by simp) ?_
 obtain ⟨p,h,most,op⟩:=x
 dsimp only at ho hp hh
 subst ho
 have w1:R (ops.length:Int):=⟨by omega,by omega⟩
 obtain ⟨y,hy,q⟩:=b185 ⟨p,h,most,ops++[o]⟩ o (by dsimp only;omega) hh ht (1000000,0) 999990 999980 (by decide) (by decide) (by decide) (by decide) (by decide) (by decide) (by decide)
 have hl1:(ops.length:Int)<ops.length+1:=by omega
 have ht1:List.take ops.length (ops.map intRow++[[PV.int .i64 o]])=ops.map intRow:=by simp
 have hty:List.take y.length (y.map mvRow)=y.map mvRow:=List.take_of_length_le (by simp)
 simp -dsimp [ac164,wr w1,hl1,intRow]
 refine call_m q (by simp [intRow]) (by simp) (by simp) ?_
 have hl2:(ops.length:Int)≤ops.length+1:=by omega
 simp -dsimp [wr w1,hl1,hl2,intRow,ht1,hty]
 dsimp only at hy
 have q2:=b183 ⟨y,o,most,ops⟩ 25 0 (by dsimp only;omega) (by dsimp only;omega) (1000000,0) 999990 999980 (by decide) (by decide) (by decide) (by decide) (by decide) (by decide) (by decide)
 rw [show takesF 25=0 from rfl,show givesF 25=0 from rfl,show o - ((0:Nat):Int)+((0:Nat):Int)=o by omega] at q2
 refine call_m q2 (by simp) (by simp) (by simp) ?_
 simp -dsimp [retEF]
 exact ⟨y++[(25,0)],by simp [mvRow],by simp;omega⟩
theorem Mk.bd.mono {x:Mk} {B Q B' Q':Nat} (h:x.bd B Q) (h1:B≤B') (h2:Q≤Q') (h3:B'≤100000) (h4:Q'≤10000000):x.bd B' Q':=
 ⟨by have:=h.1;omega,by have:=h.2.1;omega,fun o ho=>by have:=h.2.2.1 o ho;omega,by have:=h.2.2.2.1;omega,by have:=h.2.2.2.2.1;omega,h3,h4⟩
theorem b182' (x:Mk) (B Q:Nat) (hx:x.bd B Q) (hB:B≤1000) (hQ:Q≤100000) (op:Int) (k:Nat) (hk:k≤1000000):∃ y:Mk,y.bd (B+2) (Q+2*B+10) ∧
  BestF Tryz.prog 182 (mkM (BIG,0) 999990 x) [.ptr (BIG,0) 4 0 0,.p (.int .i64 op),.p (.int .i64 k)] [(BIG,0)] (.p (.tup [])) (mkM (BIG,0) 999980 y):=by
 refine bestEF mixed fn182 ok182 (by simp) (by simp) ?_
 obtain ⟨p,h,most,ops⟩:=x
 obtain ⟨b1,b2,b3,b4,b5,b6,b7⟩:=hx
 dsimp only at b1 b2 b3 b4 b5
 have hto:List.take ops.length (ops.map intRow)=ops.map intRow:=List.take_of_length_le (by simp)
 have htp:List.take p.length (p.map mvRow)=p.map mvRow:=List.take_of_length_le (by simp)
 by_cases c1:op=25∨op=24∨2<ops.length
 ·rcases List.eq_nil_or_concat ops with e0 | ⟨ops',o,e0⟩
  ·subst e0
   have c2:op=25∨(op≠25∧op=24):=by simp at c1;omega
   rcases c2 with c2 | ⟨c2,c3⟩
   ·simp -dsimp [ac182,xc182r,c2,htp,retEF]
    exact ⟨⟨p,h,most,[]⟩,by simp,by dsimp only;omega,by dsimp only;omega,by simp,by dsimp only;omega,by simp,by omega,by omega⟩
   ·simp -dsimp [ac182,xc182r,c2,c3,htp,retEF]
    exact ⟨⟨p,h,most,[]⟩,by simp,by dsimp only;omega,by dsimp only;omega,by simp,by dsimp only;omega,by simp,by omega,by omega⟩
  ·rw [List.concat_eq_append] at e0
   subst e0
   have bo:=b3 o (by simp)
   simp only [List.length_append,List.length_cons,List.length_nil] at c1 b5
   have hpos:(0:Int)<(ops'.length:Int)+1:=by omega
   obtain ⟨y,hy,q⟩:=b164' ⟨p,h,most,ops'++[o]⟩ ops' o rfl (by dsimp only;omega) (by dsimp only;omega) (by omega) (by omega)
   dsimp only at hy
   have hty:List.take y.length (y.map mvRow)=y.map mvRow:=List.take_of_length_le (by simp)
   have hto:List.take ops'.length (ops'.map intRow)=ops'.map intRow:=List.take_of_length_le (by simp)
   have fin:Mk.bd ⟨y,o,most,ops'⟩ (B+2) (Q+2*B+10):=⟨by dsimp only;omega,by dsimp only;omega,fun z hz=>by have:=b3 z (by simp [show z∈ops' from hz]);omega,by dsimp only;omega,by dsimp only;omega,by omega,by omega⟩
   have c2:op=25∨(op≠25∧op=24)∨(op≠25∧op≠24∧2<(ops'.length:Int)+1):=by omega
   rcases c2 with c2 | ⟨c2,c3⟩ | ⟨c2,c3,c4⟩
   ·simp -dsimp [ac182,xc182r,c2,hpos]
    refine call_m q (by simp [intRow]) (by simp) (by simp) ?_
    simp -dsimp [hty,hto,retEF]
    exact ⟨⟨y,o,most,ops'⟩,by simp,fin⟩
   ·simp -dsimp [ac182,xc182r,c2,c3,hpos]
    refine call_m q (by simp [intRow]) (by simp) (by simp) ?_
    simp -dsimp [hty,hto,retEF]
    exact ⟨⟨y,o,most,ops'⟩,by simp,fin⟩
   ·simp -dsimp [ac182,xc182r,c2,c3,c4,hpos]
    refine call_m q (by simp [intRow]) (by simp) (by simp) ?_
    simp -dsimp [hty,hto,retEF]
    exact ⟨⟨y,o,most,ops'⟩,by simp,fin⟩
 ·obtain ⟨c2,c3,c4⟩:op≠25∧op≠24∧¬(2<(ops.length:Int)):=by omega
  by_cases c5:op=26
  ·have t1:(k:Int).tmod 4=((k % 4:Nat):Int):=by rw [Int.tmod_eq_emod_of_nonneg (by omega)];omega
   obtain ⟨r,er⟩:∃ r:Nat,k % 4=r:=⟨_,rfl⟩
   rw [er] at t1
   have w1:R ((1:Int)+r):=⟨by omega,by omega⟩
   have q:=b183' ⟨p,h,most,ops⟩ 26 (1+r) (by dsimp only;omega) (by dsimp only;omega)
   rw [show takesF 26=0 from rfl,show givesF 26=0 from rfl,show h - ((0:Nat):Int)+((0:Nat):Int)=h by omega] at q
   simp -dsimp [ac182,xc182r,c5,c4,t1,wr w1]
   refine call_m q (by simp) (by simp) (by simp) ?_
   have m1:ops.length+1≤maxLen:=by unfold maxLen;omega
   have m2:(ops.length+1)*8≤140737488355328:=by omega
   have hto2:List.take (ops.length+1) (ops.map intRow++[[PV.int .i64 h]])=ops.map intRow++[[PV.int .i64 h]]:=List.take_of_length_le (by simp)
   have htp2:List.take (p.length+1) (p.map mvRow++[mvRow (26,1+(r:Int))])=p.map mvRow++[mvRow (26,1+(r:Int))]:=List.take_of_length_le (by simp)
   simp -dsimp [m1,m2,List.range,List.range.loop,hto2,htp2,retEF]
   refine ⟨⟨p++[(26,1+(r:Int))],h,most,ops++[h]⟩,by simp [intRow],by dsimp only;omega,by dsimp only;omega,fun z hz=>?_,by simp;omega,by simp;omega,by omega,by omega⟩
   rcases List.mem_append.1 hz with g | g
   ·have:=b3 z g;omega
   ·rw [List.mem_singleton.1 g];omega
  ·simp -dsimp [ac182,c2,c3,c4,c5,↓ awpC_of xc182d]
   refine awpC_in (seqG3 (α:=List (Int×Int)×Int) (fun y=>⟨[(0,.ptr (1000000,0) 4 0 0),(2,.p (.int .i64 k))],mkM (1000000,0) 999990 ⟨y.1,y.2,most,ops⟩⟩) (fun y=>y.1.length≤Q+1∧-((B:Int)+1)≤y.2∧y.2≤B+1) ?_ ?_)
   ·by_cases d1:h=0∨(k:Int).tmod 3=0
    ·have w3:R ((k:Int) / 3):=⟨by omega,by omega⟩
     obtain ⟨r,er⟩:∃ r:Nat,k / 3 % 2=r:=⟨_,rfl⟩
     have t1:((k:Int) / 3).tmod 2=r:=by
      rw [Int.tmod_eq_emod_of_nonneg (by omega)];omega
     have q:=b183' ⟨p,h,most,ops⟩ 1 r (by dsimp only;omega) (by dsimp only;omega)
     rw [show takesF 1=0 from rfl,show givesF 1=1 from rfl,show h - ((0:Nat):Int)+((1:Nat):Int)=h+1 by omega] at q
     have htp2:List.take (p.length+1) (p.map mvRow++[mvRow (1,(r:Int))])=p.map mvRow++[mvRow (1,(r:Int))]:=List.take_of_length_le (by simp)
     have d2:h=0∨(h≠0∧(k:Int).tmod 3=0):=by omega
     rcases d2 with d2 | ⟨d2,d3⟩
     ·subst d2
      simp -dsimp [t1,wr w3]
      refine call_m q (by simp) (by simp) (by simp) ?_
      simp -dsimp [htp2,hto]
      exact ⟨p++[(1,(r:Int))],1,⟨by simp;omega,by omega,by omega⟩,by simp⟩
     ·simp -dsimp [d2,d3,t1,wr w3]
      refine call_m q (by simp) (by simp) (by simp) ?_
      simp -dsimp [htp2,hto]
      exact ⟨p++[(1,(r:Int))],h+1,⟨by simp;omega,by omega,by omega⟩,by simp⟩
    ·have d2:h≠0:=fun e=>d1 (.inl e)
     have d3:¬(k:Int).tmod 3=0:=fun e=>d1 (.inr e)
     simp -dsimp [d2,d3,hto,htp]
     exact ⟨p,h,⟨by omega,by omega,by omega⟩,by simp⟩
   ·rintro ⟨p1,g⟩ ⟨q1,q2,q3⟩
    dsimp only at q1 q2 q3 ⊢
    simp -dsimp [xc182e,↓ awpC_of xc182f]
    have q:=b183' ⟨p1,g,most,ops⟩ 23 0 (by dsimp only;omega) (by dsimp only;omega)
    rw [show takesF 23=1 from rfl,show givesF 23=0 from rfl,show g - ((1:Nat):Int)+((0:Nat):Int)=g - 1 by omega] at q
    refine call_m q (by simp) (by simp) (by simp) ?_
    have htp3:List.take (p1.length+1) (p1.map mvRow++[mvRow (23,0)])=p1.map mvRow++[mvRow (23,0)]:=List.take_of_length_le (by simp)
    simp -dsimp [htp3,hto,↓ awpC_of xc182f]
    refine awpC_in (seqG3 (α:=List (Int×Int)) (fun y=>⟨[(0,.ptr (1000000,0) 4 0 0)],[((999980,1),.sl 243 2 (y.map mvRow)),((999981,0),.sl 3 1 (ops.map intRow)),((1000000,0),.box [.ref (999980,1) 2 0 y.length,.p (.int .i64 (g - 1)),.p (.int .i64 most),.ref (999981,0) 1 0 ops.length])]⟩) (fun y=>y.length≤Q+6) ?_ ?_)
    ·by_cases d1:(1:Int)<(k:Int).tmod 5
     ·simp -dsimp [d1]
      have q:=b183' ⟨p1++[(23,0)],g - 1,most,ops⟩ 13 0 (by simp;omega) (by dsimp only;omega)
      rw [show takesF 13=0 from rfl,show givesF 13=1 from rfl,show g - 1 - ((0:Nat):Int)+((1:Nat):Int)=g by omega] at q
      refine call_m q (by simp) (by simp) (by simp) ?_
      have e1:List.take (p1.length+1+1) (p1.map mvRow++[mvRow (23,0),mvRow (13,0)])=p1.map mvRow++[mvRow (23,0),mvRow (13,0)]:=List.take_of_length_le (by simp)
      have t8:(k:Int).tmod 8=((k % 8:Nat):Int):=by rw [Int.tmod_eq_emod_of_nonneg (by omega)];omega
      obtain ⟨r8,er8⟩:∃ r:Nat,k % 8=r:=⟨_,rfl⟩
      rw [er8] at t8
      simp -dsimp [e1,hto,t8]
      have q:=b183' ⟨p1++[(23,0)]++[(13,0)],g,most,ops⟩ 22 r8 (by simp;omega) (by dsimp only;omega)
      rw [show takesF 22=1 from rfl,show givesF 22=0 from rfl,show g - ((1:Nat):Int)+((0:Nat):Int)=g - 1 by omega] at q
      refine call_m q (by simp) (by simp) (by simp) ?_
      have e2:List.take (p1.length+1+1+1) (p1.map mvRow++[mvRow (23,0),mvRow (13,0),mvRow (22,(r8:Int))])=p1.map mvRow++[mvRow (23,0),mvRow (13,0),mvRow (22,(r8:Int))]:=List.take_of_length_le (by simp)
      simp -dsimp [e2,hto]
      obtain ⟨y,hy,q⟩:=b185' ⟨p1++[(23,0)]++[(13,0)]++[(22,(r8:Int))],g - 1,most,ops⟩ (g - 1) (by simp;omega) (by dsimp only;omega) (by omega)
      simp only [List.length_append,List.length_cons,List.length_nil] at hy
      refine call_m q (by simp) (by simp) (by simp) ?_
      have hty:List.take y.length (y.map mvRow)=y.map mvRow:=List.take_of_length_le (by simp)
      simp -dsimp [hty,hto]
      have q:=b183' ⟨y,g - 1,most,ops⟩ 24 0 (by dsimp only;omega) (by dsimp only;omega)
      rw [show takesF 24=0 from rfl,show givesF 24=0 from rfl,show g - 1 - ((0:Nat):Int)+((0:Nat):Int)=g - 1 by omega] at q
      refine call_m q (by simp) (by simp) (by simp) ?_
      have hty2:List.take (y.length+1) (y.map mvRow++[mvRow (24,0)])=y.map mvRow++[mvRow (24,0)]:=List.take_of_length_le (by simp)
      simp -dsimp [hty2,hto]
      exact ⟨y++[(24,0)],by simp;omega,by simp⟩
     ·have htp4:List.take (p1.length+1) (p1.map mvRow++[mvRow (23,0)])=p1.map mvRow++[mvRow (23,0)]:=List.take_of_length_le (by simp)
      simp -dsimp [d1,hto,htp4]
      exact ⟨p1++[(23,0)],by simp;omega,by simp⟩
    ·intro y hy
     have m1:ops.length+1≤maxLen:=by unfold maxLen;omega
     have m2:(ops.length+1)*8≤140737488355328:=by omega
     simp -dsimp [xc182g,m1,m2,List.range,List.range.loop,retEF]
     refine ⟨⟨y,g - 1,most,ops++[g - 1]⟩,by simp [intRow],by dsimp only;omega,by dsimp only;omega,fun z hz=>?_,by dsimp only;omega,by simp;omega,by omega,by omega⟩
     rcases List.mem_append.1 hz with g1 | g1
     ·have:=b3 z g1;omega
     ·rw [List.mem_singleton.1 g1];omega
end
section
set_option maxHeartbeats 4000000
attribute [local simp] mkM
theorem b163' (x:Mk) (B Q:Nat) (hx:x.bd B Q) (hB:B≤1000) (hQ:Q≤100000) (n axes points:Nat) (hn:n≤65535) (ha:axes≤1000) (hp:points≤2000000):∃ y:Mk,y.bd (B+4) (Q+2*B+20) ∧
  BestF Tryz.prog 163 (mkM (BIG,0) 999990 x) [.ptr (BIG,0) 4 0 0,.p (.int .i64 n),.p (.int .i64 axes),.p (.int .i64 points)] [(BIG,0)] (.p (.tup [])) (mkM (BIG,0) 999980 y):=by
 refine bestEF mixed fn163 ok163 (by simp) (by simp) ?_
 have t1:(n:Int).tmod 26=((n % 26:Nat):Int):=by rw [Int.tmod_eq_emod_of_nonneg (by omega)];omega
 have t2:(n:Int).tdiv 26=((n / 26:Nat):Int):=by rw [Int.tdiv_eq_ediv_of_nonneg (by omega)];omega
 obtain ⟨o,eo⟩:∃ o:Nat,1+n % 26=o:=⟨_,rfl⟩
 obtain ⟨k,ek⟩:∃ k:Nat,n / 26=k:=⟨_,rfl⟩
 have ho:o≤26∧1≤o:=by omega
 have hk:k≤2600:=by omega
 have t3:(n:Int) / 26=k:=by omega
 have t4:(1:Int)+n % 26=o:=by omega
 have t5:(n:Int).tmod 26=(n:Int) % 26:=Int.tmod_eq_emod_of_nonneg (by omega)
 have w1:R (o:Int):=⟨by omega,by omega⟩
 have w2:R (k:Int):=⟨by omega,by omega⟩
 clear t1 t2 eo ek
 by_cases c1:23≤o
 ·have c1':(23:Int)≤o∧(o:Int)≤26:=by omega
  obtain ⟨y,hy,q⟩:=b182' x B Q hx hB hQ o k (by omega)
  simp -dsimp [ac163,t3,t4,t5,wr w1,wr w2,c1'.1,c1'.2]
  refine call_m q (by simp) (by simp) (by simp) ?_
  simp -dsimp [retEF]
  exact ⟨y,by simp,hy.mono (by omega) (by omega) (by omega) (by omega)⟩
 ·have c1':¬(23:Int)≤o:=by omega
  simp -dsimp [ac163,t3,t4,t5,wr w1,wr w2,c1',↓ awpC_of xc163b]
  obtain ⟨p,h,most,ops⟩:=x
  have hto:List.take ops.length (ops.map intRow)=ops.map intRow:=List.take_of_length_le (by simp)
  have htp:List.take p.length (p.map mvRow)=p.map mvRow:=List.take_of_length_le (by simp)
  refine awpC_in (seqG1 (α:=Bool) (fun b=>⟨[(0,.ptr (1000000,0) 4 0 0),(2,.p (.int .i64 axes)),(3,.p (.int .i64 points)),(8,.p (.int .i64 o)),(9,.p (.int .i64 k)),(10,.p (.bool b))],mkM (1000000,0) 999990 ⟨p,h,most,ops⟩⟩) (fun b=>b=true↔15≤o∧o≤20) ?_ ?_)
  ·by_cases e1:15≤o
   ·have e1':(15:Int)≤o:=by omega
    by_cases e2:o≤18
    ·have e2':(o:Int)≤18:=by omega
     simp -dsimp [e1',e2']
     omega
    ·have e2':¬(o:Int)≤18:=by omega
     by_cases e3:o=19
     ·have e3':(o:Int)=19:=by omega
      simp -dsimp [e1',e2',e3']
      omega
     ·have e3':¬(o:Int)=19:=by omega
      by_cases e4:o=20
      ·have e4':(o:Int)=20:=by omega
       simp -dsimp [e1',e2',e3',e4']
       omega
      ·have e4':¬(o:Int)=20:=by omega
       simp -dsimp [e1',e2',e3',e4']
       omega
   ·have e1':¬(15:Int)≤o:=by omega
    have e3':¬(o:Int)=19:=by omega
    have e4':¬(o:Int)=20:=by omega
    simp -dsimp [e1',e3',e4']
    omega
  ·intro b hb
   refine seqG1 (α:=Nat) (fun o=>⟨[(0,.ptr (1000000,0) 4 0 0),(2,.p (.int .i64 axes)),(3,.p (.int .i64 points)),(8,.p (.int .i64 o)),(9,.p (.int .i64 k))],mkM (1000000,0) 999990 ⟨p,h,most,ops⟩⟩) (fun o=>o≤22∧(15≤o∧o≤20→0<points)∧(o=14→0<axes)) ?_ ?_
   ·cases b with
    | true=>
     have hb':=hb.1 rfl
     by_cases hz:points=0
     ·simp -dsimp [hz]
      exact ⟨13,by omega,rfl⟩
     ·have hz':¬(points:Int)=0:=by omega
      have e14:¬(o:Int)=14:=by omega
      simp -dsimp [hz,hz',e14]
      refine ⟨o,⟨by omega,fun _=>by omega,fun _=>by omega⟩,rfl⟩
    | false=>
     have hb':¬(15≤o∧o≤20):=fun e=>by have:=hb.2 e;simp at this
     by_cases e14:o=14
     ·by_cases hz:axes=0
      ·simp -dsimp [e14,hz]
       exact ⟨13,by omega,rfl⟩
      ·have hz':¬(axes:Int)=0:=by omega
       simp -dsimp [e14,hz,hz']
       refine ⟨14,⟨by omega,by omega⟩,rfl⟩
     ·have e14':¬(o:Int)=14:=by omega
      simp -dsimp [e14']
      refine ⟨o,⟨by omega,fun _=>by omega,fun _=>by omega⟩,rfl⟩
   ·clear ho t4 w1 c1 c1' hb
    rintro o ⟨ho,g1,g2⟩
    obtain ⟨b1,b2,b3,b4,b5,b6,b7⟩:=hx
    dsimp only at b1 b2 b3 b4 b5
    by_cases d1:o=19∨o=20
    ·have hp0:0<points:=g1 (by omega)
     have hp0':(points:Int)≠0:=by omega
     have m1:(k:Int).tmod points=((k % points:Nat):Int):=by rw [Int.tmod_eq_emod_of_nonneg (by omega)];omega
     obtain ⟨r,er⟩:∃ r:Nat,k % points=r:=⟨_,rfl⟩
     rw [er] at m1
     have m2:(k:Int) % points=r:=by omega
     have hp1:points≠0:=by omega
     have q:=b183' ⟨p,h,most,ops⟩ 1 r (by dsimp only;omega) (by dsimp only;omega)
     rw [show takesF 1=0 from rfl,show givesF 1=1 from rfl,show h - ((0:Nat):Int)+((1:Nat):Int)=h+1 by omega] at q
     have ht1:List.take (p.length+1) (p.map mvRow++[mvRow (1,(r:Int))])=p.map mvRow++[mvRow (1,(r:Int))]:=List.take_of_length_le (by simp)
     rcases d1 with d1 | d1
     ·subst d1
      simp -dsimp [xc163c,hp0',hp1,m1,m2]
      refine call_m q (by simp) (by simp) (by simp) ?_
      simp -dsimp [ht1,hto]
      have q:=b183' ⟨p++[(1,(r:Int))],h+1,most,ops⟩ 19 0 (by simp;omega) (by dsimp only;omega)
      rw [show takesF 19=1 from rfl,show givesF 19=1 from rfl,show h+1 - ((1:Nat):Int)+((1:Nat):Int)=h+1 by omega] at q
      refine call_m q (by simp) (by simp) (by simp) ?_
      simp -dsimp [retEF]
      refine ⟨⟨p++[(1,(r:Int))]++[(19,0)],h+1,most,ops⟩,by simp,by dsimp only;omega,by dsimp only;omega,fun z hz=>by have:=b3 z hz;omega,by simp;omega,by dsimp only;omega,by omega,by omega⟩
     ·subst d1
      obtain ⟨kq,ekq⟩:∃ v:Nat,k / points=v:=⟨_,rfl⟩
      have n1:(k:Int) / points=kq:=by omega
      have n5:kq≤k:=by rw [←ekq];exact Nat.div_le_self _ _
      have n2:R (kq:Int):=⟨by omega,by omega⟩
      have n3:(kq:Int).tmod 100=((kq % 100:Nat):Int):=by rw [Int.tmod_eq_emod_of_nonneg (by omega)];omega
      obtain ⟨r2,er2⟩:∃ v:Nat,kq % 100=v:=⟨_,rfl⟩
      rw [er2] at n3
      have n4:R ((r2:Int) - 40):=⟨by omega,by omega⟩
      simp -dsimp [xc163c,hp0',hp1,m1,m2]
      refine call_m q (by simp) (by simp) (by simp) ?_
      simp -dsimp [ht1,hto,hp0',hp1,n1,wr n2,n3,wr n4]
      have q:=b183' ⟨p++[(1,(r:Int))],h+1,most,ops⟩ 1 (r2 - 40) (by simp;omega) (by dsimp only;omega)
      rw [show takesF 1=0 from rfl,show givesF 1=1 from rfl,show h+1 - ((0:Nat):Int)+((1:Nat):Int)=h+2 by omega] at q
      refine call_m q (by simp) (by simp) (by simp) ?_
      have ht2:List.take (p.length+1+1) (p.map mvRow++[mvRow (1,(r:Int)),mvRow (1,(r2:Int) - 40)])=p.map mvRow++[mvRow (1,(r:Int)),mvRow (1,(r2:Int) - 40)]:=List.take_of_length_le (by simp)
      simp -dsimp [ht2,hto]
      have q:=b183' ⟨p++[(1,(r:Int))]++[(1,(r2:Int) - 40)],h+2,most,ops⟩ 20 0 (by simp;omega) (by dsimp only;omega)
      rw [show takesF 20=2 from rfl,show givesF 20=0 from rfl,show h+2 - ((2:Nat):Int)+((0:Nat):Int)=h by omega] at q
      refine call_m q (by simp) (by simp) (by simp) ?_
      simp -dsimp [retEF]
      refine ⟨⟨p++[(1,(r:Int))]++[(1,(r2:Int) - 40)]++[(20,0)],h,most,ops⟩,by simp,by dsimp only;omega,by dsimp only;omega,fun z hz=>by have:=b3 z hz;omega,by simp;omega,by dsimp only;omega,by omega,by omega⟩
    ·have d2:¬(o:Int)=19:=by omega
     have d3:¬(o:Int)=20:=by omega
     have tk:=takesF_le o
     have n3:(k:Int).tmod 300=((k % 300:Nat):Int):=by rw [Int.tmod_eq_emod_of_nonneg (by omega)];omega
     obtain ⟨r2,er2⟩:∃ v:Nat,k % 300=v:=⟨_,rfl⟩
     rw [er2] at n3
     have n4:R ((r2:Int) - 100):=⟨by omega,by omega⟩
     simp -dsimp [xc163c,d2,d3,↓ awpC_of xc163d]
     refine loopM (fun z:List (Int×Int)×Int=>(2 - z.2).toNat) (fun y=>⟨[(0,.ptr (1000000,0) 4 0 0),(2,.p (.int .i64 axes)),(3,.p (.int .i64 points)),(8,.p (.int .i64 o)),(9,.p (.int .i64 k))],mkM (1000000,0) 999990 ⟨y.1,y.2,most,ops⟩⟩) (fun z=>h≤z.2∧z.2≤B+2∧z.1.length≤Q+(z.2 - h).natAbs) (p,h) (fun z hQ=>?_) ⟨by omega,by dsimp only;omega,by dsimp only;omega⟩ (by simp)
     obtain ⟨z,u⟩:=z
     have htz:List.take z.length (z.map mvRow)=z.map mvRow:=List.take_of_length_le (by simp)
     dsimp only at hQ
     simp -dsimp [htz,hto,↓ awpC_of xc163d]
     refine call_p (b184 o) (by simp) (by simp) ?_
     by_cases hu:u<takesF o
     ·have q:=b183 ⟨z,u,most,ops⟩ 1 (r2 - 100) (by dsimp only;omega) (by dsimp only;omega) (1000000,0) 999980 999990 (by decide) (by decide) (by decide) (by decide) (by decide) (by decide) (by decide)
      rw [show takesF 1=0 from rfl,show givesF 1=1 from rfl,show u - ((0:Nat):Int)+((1:Nat):Int)=u+1 by omega] at q
      have n5:(k:Int) % 300=r2:=by omega
      simp -dsimp [hu,htz,hto,n3,n5,wr n4,↓ awpC_of xc163d]
      refine call_m q (by simp) (by simp) (by simp) ?_
      simp -dsimp
      exact ⟨z++[(1,(r2:Int) - 100)],u+1,by omega,⟨by omega,by omega,by simp;omega⟩,by simp⟩
     ·simp -dsimp [hu,htz,hto,↓ awpC_of xc163d]
      refine awpC_in ?_
      simp -dsimp [xc163d,↓ awpC_of xc163g]
      refine awpC_in (seqG3 (α:=Int) (fun v=>⟨[(0,.ptr (1000000,0) 4 0 0),(8,.p (.int .i64 o)),(11,.p (.int .i64 v))],mkM (1000000,0) 999990 ⟨z,u,most,ops⟩⟩) (fun v=>True) ?_ ?_)
      ·have hkp:∀ m:Nat,(k:Int).tmod m=(k:Int) % m:=fun m=>Int.tmod_eq_emod_of_nonneg (by omega)
       have c:o=1∨o=14∨o=15∨o=16∨o=17∨o=18∨o=21∨o=22∨(o≠1∧o≠14∧o≠15∧o≠16∧o≠17∧o≠18∧o≠21∧o≠22):=by omega
       rcases c with rfl | rfl | rfl | rfl | rfl | rfl | rfl | rfl | ⟨c1,c2,c3,c4,c5,c6,c7,c8⟩
       ·simp -dsimp [htz,hto]
       ·have g:axes≠0:=by have:=g2 rfl;omega
        simp -dsimp [htz,hto,g]
       ·have g:points≠0:=by have:=g1 (by omega);omega
        simp -dsimp [htz,hto,g]
       ·have g:points≠0:=by have:=g1 (by omega);omega
        simp -dsimp [htz,hto,g]
       ·have g:points≠0:=by have:=g1 (by omega);omega
        simp -dsimp [htz,hto,g]
       ·have g:points≠0:=by have:=g1 (by omega);omega
        simp -dsimp [htz,hto,g]
       ·simp -dsimp [htz,hto]
       ·simp -dsimp [htz,hto]
       ·have c1':¬(o:Int)=1:=by omega
        have c2':¬(o:Int)=14:=by omega
        have c3':¬(o:Int)=15:=by omega
        have c4':¬(o:Int)=16:=by omega
        have c5':¬(o:Int)=17:=by omega
        have c6':¬(o:Int)=18:=by omega
        have c7':¬(o:Int)=21:=by omega
        have c8':¬(o:Int)=22:=by omega
        simp -dsimp [htz,hto,c1',c2',c3',c4',c5',c6',c7',c8']
      ·intro v _
       have tg:=givesF_le o
       have q:=b183' ⟨z,u,most,ops⟩ o v (by dsimp only;omega) (by dsimp only;omega)
       simp -dsimp [xc163e]
       refine call_m q (by simp) (by simp) (by simp) ?_
       simp -dsimp [retEF]
       refine ⟨⟨z++[((o:Int),v)],u - takesF o+givesF o,most,ops⟩,by simp,by dsimp only;omega,by dsimp only;omega,fun z hz=>by have:=b3 z hz;omega,by simp;omega,by dsimp only;omega,by omega,by omega⟩
end
section
def ac134:AC:=by
 apply fun (y:AC) (_:@Eq AC (let e0:=[21,22,23,24];let e1:=[16,17,18,19,20];let e2:=[0,1,2,7,8];let e3:=[5,6,7,8,9];(qk [0,1,2] (qs (qr [(qp 6 (.mov (.c .nsl)))]) (qk [0,1,2] (qs (qr [(qp 9 (.build [.nsl,.int .i64 0,.int .i64 0,.nsl] [])),(qi 10 (.box (.v 9)) [0]),(yn 7 10 [1,0,1])]) (qk [0,1,2,7] (.ghost (.ownC (10,0) 3 (999991,1) 3 1) (.ghost (.ownC (10,0) 0 (999990,1) 243 2) (qs (qs (qr [(qp 8 (.mov (qz 0)))]) (qk e2 (.block 0 (.loop (qk e2 (qs (qs (qd [(qe (ym 11 8) [12,13] [] 2),(qe (ym 12 0) [11] [0] 2),(qe (yh 13 12 [1]) [11] [0] 2),(qe (yb 14 .lss 11 13 [0,2]) [] [] 2),(qe (yn 15 14 [3]) [] [] 2),(qe (qg 16 (qm 7) 15 true [4]) e0 [] 2),(qe (qg 17 (.nilck (.v 16)) 15 true [5,4]) e0 [] 2),(qe (qg 18 (qf 0 17) 15 true [6,4]) e0 [] 2),(qe (qg 19 (ql 18) 15 true [7,4]) e0 [] 2),(qe (qg 20 (qn 19) 15 true [8,4]) e0 [] 2),(qe (qg 21 (qm 7) 15 true [4]) e1 e3 2),(qe (qg 22 (.nilck (.v 21)) 15 true [10,4]) e1 e3 2),(qe (qg 23 (qf 1 22) 15 true [11,4]) e1 e3 2),(qe (qg 24 (ql 23) 15 true [12,4]) e1 e3 2),(qe (qg 25 (qb .add 20 24) 15 true [9,13,4]) [] [] 2),(qe (qg 26 (qc .add 25 (qz 12)) 15 true [14,4]) [] [] 2),(qe (qg 27 (qc .lss 26 (qz 40)) 15 true [15,4]) [] [] 2),(qe (qi 28 (.pick (.v 15) (.v 27) (.c (.bool false))) [4,16]) [] [] 2)]) (qk [0,1,2,7,8,28] (qq (.v 28) .skip (.exit 0)))) (qk e2 (qs (.block 1 (qr [(ym 31 7),(ym 32 0),(ym 33 8),(yj 34 1 32 33 [1,2]),(yk 35 34 [3]),(yc 36 .and 35 (qz 65535) [4]),(ym 37 1),(ym 38 2),(qi 39 (.call 163 [.v 31,.v 36,.v 37,.v 38]) [0,5,6,7])])) (qk e2 (.ghost (.canC (10,0) 3 (999991,1)) (.ghost (.canC (10,0) 0 (999990,1)) (qr [(ym 29 8),(yc 30 .add 29 (qz 1) [0]),(yn 8 30 [1,0,1])])))))))))))) (qk [7] (qs (.block 2 (.loop (qk [7] (.ghost (.canC (10,0) 3 (999981,1)) (.ghost (.canC (10,0) 0 (999980,1)) (qs (qs (qr [(ym 40 7),(qi 41 (.nilck (.v 40)) [0]),(yf 42 3 41 [1]),(yk 43 42 [2]),(yh 44 43 [3]),(yc 45 .gtr 44 (qz 0) [4])]) (qk [7,45] (qq (.v 45) .skip (.exit 2)))) (qk [7] (.block 3 (qr [(ym 46 7),(qi 47 (.call 164 [.v 46]) [0])]))))))))) (qk [7] (qs (qs (qr [(ym 48 7),(qi 49 (.nilck (.v 48)) [0]),(yf 50 0 49 [1]),(yk 51 50 [2]),(yh 52 51 [3]),(yc 53 .gtr 52 (qz 60) [4])]) (qk [7,53] (qq (.v 53) (qs (qr [(qp 6 (.mov (.c .nsl)))]) (qk [6] (.ghost (.zsl 6 2) .ret))) .skip))) (.ghost (.canC (10,0) 0 (10,1)) (.ghost (.freeze (10,1)) (qk [7] (qs (qr [(ym 54 7),(qi 55 (.nilck (.v 54)) [0]),(yf 56 0 55 [1]),(yk 57 56 [2]),(yn 6 57 [3,0,1,2,3])]) (qk [6] .ret)))))))))))))))))) y)=>y
 dsimp
theorem fn134:factOf Tryz.prog 134=some (ac134.strip,[.tmp 6],58):=by kernel_rfl
theorem ok134:ac134.okAll=true:=by kernel_rfl
end
section
set_option maxHeartbeats 2000000
attribute [local simp] mkM
theorem b163 (x:Mk) (B Q:Nat) (hx:x.bd B Q) (hB:B≤1000) (hQ:Q≤100000) (n axes points:Nat) (hn:n≤65535) (ha:axes≤1000) (hp:points≤2000000) (s:Slot) (i m:Nat) (g1:i≠m) (g2:i+1≠m) (g3:m+1≠i) (g4:s.1≠i) (g5:s.1≠m) (g6:s.1≠i+1) (g7:s.1≠m+1):∃ y:Mk,y.bd (B+4) (Q+2*B+20) ∧
  BestF Tryz.prog 163 (mkM s i x) [.ptr s 4 0 0,.p (.int .i64 n),.p (.int .i64 axes),.p (.int .i64 points)] [s] (.p (.tup [])) (mkM s m y):=by
 obtain ⟨y,h1,h2⟩:=b163' x B Q hx hB hQ n axes points hn ha hp
 exact ⟨y,h1,mkRen h2 s i m g1 g2 g3 g4 g5 g6 g7 (fun _=>rfl)⟩
theorem b164 (x:Mk) (ops:List Int) (o:Int) (ho:x.op=ops++[o]) (hp:x.p.length≤1000000) (hh:-1000000≤x.h∧x.h≤1000000) (ht:-1000000≤o∧o≤1000000) (hl:ops.length≤1000000) (s:Slot) (i m:Nat) (g1:i≠m) (g2:i+1≠m) (g3:m+1≠i) (g4:s.1≠i) (g5:s.1≠m) (g6:s.1≠i+1) (g7:s.1≠m+1):∃ y:List (Int×Int),y.length≤x.p.length+(x.h - o).natAbs+1 ∧
  BestF Tryz.prog 164 (mkM s i x) [.ptr s 4 0 0] [s] (.p (.tup [])) (mkM s m ⟨y,o,x.most,ops⟩):=by
 obtain ⟨y,h1,h2⟩:=b164' x ops o ho hp hh ht hl
 exact ⟨y,h1,mkRen h2 s i m g1 g2 g3 g4 g5 g6 g7 (fun _=>rfl)⟩
theorem b134 (l:List Int) (hl:l.length≤20) (axes points:Nat) (ha:axes≤1000) (hp:points≤2000000):∃ x:List (Int×Int),x.length≤60 ∧
  Best Tryz.prog 134 [.sl 1 (l.map intRow),.int .i64 axes,.int .i64 points] (.p (.sl 2 (x.map mvRow))):=by
 obtain ⟨v,⟨x,rfl,hx⟩,h⟩:=bestE (Q:=fun v=>∃ x:List (Int×Int),v=.sl 2 (x.map mvRow)∧x.length≤60) mixed fn134 ok134 (args:=[.sl 1 (l.map intRow),.int .i64 axes,.int .i64 points]) (by simp) (by
  simp -dsimp [ac134]
  refine loopE l.length (fun k (y:Mk)=>⟨[(0,.p (.sl 1 (l.map intRow))),(1,.p (.int .i64 axes)),(2,.p (.int .i64 points)),(7,.ptr (10,0) 4 0 0),(8,.p (.int .i64 k))],[((10,0),.box [.ref (999990,1) 2 0 y.p.length,.p (.int .i64 y.h),.p (.int .i64 y.most),.ref (999991,1) 1 0 y.op.length]),((999990,1),.sl 243 2 (y.p.map mvRow)),((999991,1),.sl 3 1 (y.op.map intRow))]⟩) (fun k y=>y.bd (4*k) (200*k)) ⟨[],0,0,[]⟩ (fun k y hk hQ=>?_) ⟨by dsimp only;omega,by dsimp only;omega,by simp,by simp,by simp,by omega,by omega⟩ (by simp)
  obtain ⟨b1,b2,b3,b4,b5,b6,b7⟩:=hQ
  have hto:List.take y.op.length (y.op.map intRow)=y.op.map intRow:=List.take_of_length_le (by simp)
  have htp:List.take y.p.length (y.p.map mvRow)=y.p.map mvRow:=List.take_of_length_le (by simp)
  have w1:R ((y.p.length:Int)+y.h):=⟨by omega,by omega⟩
  have w2:R ((y.p.length:Int)+y.h+12):=⟨by omega,by omega⟩
  by_cases h:k<l.length∧(y.p.length:Int)+y.h+12<40
  ·obtain ⟨h1,h2⟩:=h
   have wk:R ((k:Int)+1):=⟨by omega,by omega⟩
   obtain ⟨x,ex⟩:∃ x,l[k]=x:=⟨_,rfl⟩
   have ab:=andS_bd x
   obtain ⟨n,hn⟩:∃ n:Nat,andS x=n:=⟨(andS x).toNat,by omega⟩
   have hw:IntKind.i64.wrap (((x % 2 ^ IntKind.i64.bits).toNat &&& 65535 % 2 ^ IntKind.i64.bits:Nat):Int)=n:=by rw [←hn];exact and_wrap x
   obtain ⟨z,hz,q⟩:=b163 y (4*k) (200*k) ⟨b1,b2,b3,b4,b5,b6,b7⟩ (by omega) (by omega) n axes points (by omega) ha hp (10,0) 999990 999980 (by decide) (by decide) (by decide) (by decide) (by decide) (by decide) (by decide)
   simp -dsimp [h1,h2,wr w1,wr w2,ex,intRow,hw]
   refine call_m q (by simp) (by simp) (by simp) ?_
   have hto:List.take z.op.length (z.op.map intRow)=z.op.map intRow:=List.take_of_length_le (by simp)
   have htp:List.take z.p.length (z.p.map mvRow)=z.p.map mvRow:=List.take_of_length_le (by simp)
   simp -dsimp [hto,htp,wr wk,h1]
   refine ⟨z,hz.mono (by omega) (by omega) (by omega) (by omega),?_⟩
   simp
  ·have c:¬(k<l.length)∨(k<l.length∧¬((y.p.length:Int)+y.h+12<40)):=by omega
   rcases c with c | ⟨c,c'⟩
   ·simp -dsimp [c,hto,htp]
    have hk4:4*k≤80:=by omega
    refine loopM (fun z:Mk=>z.op.length) (fun y=>⟨[(7,.ptr (10,0) 4 0 0)],[((10,0),.box [.ref (999990,1) 2 0 y.p.length,.p (.int .i64 y.h),.p (.int .i64 y.most),.ref (999991,1) 1 0 y.op.length]),((999990,1),.sl 243 2 (y.p.map mvRow)),((999991,1),.sl 3 1 (y.op.map intRow))]⟩) (fun z=>-80≤z.h∧z.h≤80∧(∀ o∈z.op,-80≤o∧o≤80)∧z.p.length+161*z.op.length≤648000∧z.op.length≤4000) y (fun z hQ=>?_) ⟨by omega,by omega,fun o ho=>by have:=b3 o ho;omega,by omega,by omega⟩ (by simp)
    obtain ⟨q1,q2,q3,q4,q5⟩:=hQ
    have hzp:List.take z.p.length (z.p.map mvRow)=z.p.map mvRow:=List.take_of_length_le (by simp)
    rcases List.eq_nil_or_concat z.op with e0 | ⟨ops,o,e0⟩
    ·by_cases h60:(60:Int)<z.p.length
     ·simp -dsimp [e0,hzp,h60,retE]
     ·have h60':¬60<z.p.length:=by omega
      simp -dsimp [e0,hzp,h60,h60',retE]
      exact ⟨z.p,rfl,by omega⟩
    ·rw [List.concat_eq_append] at e0
     have ho:=q3 o (by rw [e0];simp)
     rw [e0] at q4 q5
     simp only [List.length_append,List.length_cons,List.length_nil] at q4 q5
     obtain ⟨v,hv,q⟩:=b164 z ops o e0 (by omega) (by omega) (by omega) (by omega) (10,0) 999980 999990 (by decide) (by decide) (by decide) (by decide) (by decide) (by decide) (by decide)
     have hto2:List.take (ops.length+1) (ops.map intRow++[intRow o])=ops.map intRow++[intRow o]:=List.take_of_length_le (by simp)
     have hpos:(0:Int)<(ops.length:Int)+1:=by omega
     simp -dsimp [e0,hzp,hto2,hpos]
     refine call_m q (by simp [e0]) (by simp) (by simp) ?_
     simp -dsimp
     exact ⟨⟨v,o,z.most,ops⟩,by dsimp only;rw [e0];simp,⟨by dsimp only;omega,by dsimp only;omega,fun x hx=>q3 x (by rw [e0];simp [show x∈ops from hx]),by dsimp only;omega,by dsimp only;omega⟩,by simp⟩
   ·simp -dsimp [c,c',wr w1,wr w2,hto,htp]
    have hk4:4*k≤80:=by omega
    refine loopM (fun z:Mk=>z.op.length) (fun y=>⟨[(7,.ptr (10,0) 4 0 0)],[((10,0),.box [.ref (999990,1) 2 0 y.p.length,.p (.int .i64 y.h),.p (.int .i64 y.most),.ref (999991,1) 1 0 y.op.length]),((999990,1),.sl 243 2 (y.p.map mvRow)),((999991,1),.sl 3 1 (y.op.map intRow))]⟩) (fun z=>-80≤z.h∧z.h≤80∧(∀ o∈z.op,-80≤o∧o≤80)∧z.p.length+161*z.op.length≤648000∧z.op.length≤4000) y (fun z hQ=>?_) ⟨by omega,by omega,fun o ho=>by have:=b3 o ho;omega,by omega,by omega⟩ (by simp)
    obtain ⟨q1,q2,q3,q4,q5⟩:=hQ
    have hzp:List.take z.p.length (z.p.map mvRow)=z.p.map mvRow:=List.take_of_length_le (by simp)
    rcases List.eq_nil_or_concat z.op with e0 | ⟨ops,o,e0⟩
    ·by_cases h60:(60:Int)<z.p.length
     ·simp -dsimp [e0,hzp,h60,retE]
     ·have h60':¬60<z.p.length:=by omega
      simp -dsimp [e0,hzp,h60,h60',retE]
      exact ⟨z.p,rfl,by omega⟩
    ·rw [List.concat_eq_append] at e0
     have ho:=q3 o (by rw [e0];simp)
     rw [e0] at q4 q5
     simp only [List.length_append,List.length_cons,List.length_nil] at q4 q5
     obtain ⟨v,hv,q⟩:=b164 z ops o e0 (by omega) (by omega) (by omega) (by omega) (10,0) 999980 999990 (by decide) (by decide) (by decide) (by decide) (by decide) (by decide) (by decide)
     have hto2:List.take (ops.length+1) (ops.map intRow++[intRow o])=ops.map intRow++[intRow o]:=List.take_of_length_le (by simp)
     have hpos:(0:Int)<(ops.length:Int)+1:=by omega
     simp -dsimp [e0,hzp,hto2,hpos]
     refine call_m q (by simp [e0]) (by simp) (by simp) ?_
     simp -dsimp
     exact ⟨⟨v,o,z.most,ops⟩,by dsimp only;rw [e0];simp,⟨by dsimp only;omega,by dsimp only;omega,fun x hx=>q3 x (by rw [e0];simp [show x∈ops from hx]),by dsimp only;omega,by dsimp only;omega⟩,by simp⟩)
 exact ⟨x,hx,h⟩
end
end Go.Abs.A29
