/- A part of the proof: an abstract reading of the model, contracts of functions. -/
import Derived.Test.YtinblgdfhmllnaaGreatC17
import Derived.Test.YtinblgdfhmllnaaGreatProg
set_option linter.unusedVariables false
set_option linter.unusedSimpArgs false
namespace Go.Abs.A29
open Go Go.Abs Go.Proofs
set_option maxRecDepth 100000
set_option linter.unusedVariables false
set_option linter.unusedSimpArgs false
attribute [local simp ↓] awp_skip awp_seq awp_cond awp_block awp_exit awp_ret awp_reg awp_draw awp_ghost awp_loop awp_rfun awpR_nil awpR_cons awpX_nil awpX_0 awpX_1 awpX_2 awpI_eq awpI_t awpI_f awpStep_eq
attribute [local simp] condL_true condL_false condL_dec evDel evV evN evS evA initFr Ghost.app Fr.var Fr.blk Fr.ff FF.val Abs.look Fr.app Fr.erase Fr.noSlot AV.noSlot AV.noSlotL Blk.noSlot Fr.spoken AV.fz AV.fzL Blk.fz binV binI shI binS unV fillA FF.parts FF.vals headO intO boundO lenV scalarEq leavesEq AV.aggc AV.cells FF.read FF.rows AV.one PV.one chunk freshB newS pickV retK evRs evRl evR resOf mkTup mkAgg allP cloOf okP_nil okX_p okX okP addN Del.noSlot Del.owners Rnd reify_p normM insM Fr.back Fr.backV Fr.setPs normV insV
attribute [local simp] renF Fr.trim Blk.trim AV.rn AV.rnL Blk.rn AV.among AV.amongL Blk.among okF retM fixS BIG initFF
attribute [local simp] FF.reify FF.reifyL PV.flat
attribute [local simp] ym yn yl yk yb yc yf yj yh qp qe qi qo qg qa qk qz qm ql qt qf qj qn qb qc qs qr qq qd
section
def xc192l:AC:=by
 apply fun (y:AC) (_:@Eq AC (let e0:=[12,15,80,85,96,99,106,108,113,115,125,999970,999971,999972,999973,999980,999981,999982,999983,999990,999991,999992,999993,1000000,1000001,1000002,1000003,1000004,1000005,1000006,1000007];let e1:=[147,148,149];let e2:=[157,158,159];let e3:=[143,144,145,146,149];let e4:=[153,154,155,156,159];let e5:=[164,165,166];let e6:=[3,5,0,1,2,3,4,5,6];let e7:=[7,6,0,1,2,3,4,5,6];let e8:=[0,1,2,3];(qs (qr [(qp 139 (qf 0 3)),(yk 140 139 [0])]) (qk [0,3,5,140] (.block 2 (qs (qr [(qp 142 (qc .eql 140 (qz 17))),(yn 141 142 [0])]) (qk [0,3,5,140,141] (qq (.v 141) (qd [(qe (ym 143 0) e1 [] 2),(qe (qi 144 (.nilck (.v 143)) [0]) e1 [] 2),(qe (yf 145 20 144 [1]) e1 [] 2),(qe (yk 146 145 [2]) e1 [] 2),(qe (qp 147 (qf 1 3)) e3 e8 2),(qe (yk 148 147 [4]) e3 e8 2),(qe (qp 149 (qt 2 5)) [143,144,145,146,147,148] [0,1,2,3,4,5] 2),(qe (yj 150 2 146 148 e6) [] [] 2),(qa (qo (.store 2 (.v 150) (.v 149)) e7) [] [] e0 [] 1)]) (qs (qr [(qp 152 (qc .eql 140 (qz 18))),(yn 151 152 [0])]) (qk [0,3,5,140,151] (qq (.v 151) (qd [(qe (ym 153 0) e2 [] 2),(qe (qi 154 (.nilck (.v 153)) [0]) e2 [] 2),(qe (yf 155 21 154 [1]) e2 [] 2),(qe (yk 156 155 [2]) e2 [] 2),(qe (qp 157 (qf 1 3)) e4 e8 2),(qe (yk 158 157 [4]) e4 e8 2),(qe (qp 159 (qt 2 5)) [153,154,155,156,157,158] [0,1,2,3,4,5] 2),(qe (yj 160 2 156 158 e6) [] [] 2),(qa (qo (.store 2 (.v 160) (.v 159)) e7) [] [] e0 [] 1)]) (qs (qr [(qp 162 (qc .eql 140 (qz 22))),(yn 161 162 [0])]) (qk [0,3,5,161] (qq (.v 161) (qd [(qe (ym 163 0) e5 [] 2),(qe (qp 164 (qf 1 3)) [163,166,167,168] [0] 2),(qe (yk 165 164 [1]) [163,166,167,168] [0] 2),(qe (qp 166 (qt 2 5)) [163,164,165,167,168] [0,1,2] 2),(qe (qi 167 (.nilck (.v 163)) [0]) e5 [1,2,3] 2),(qe (yf 168 4 167 [4]) e5 [1,2,3] 2),(qe (qi 169 (.iaddrA 2 8 (.v 168) (.v 165)) [5,2,0,1,2,3]) [] [] 2),(qa (qo (.store 2 (.v 169) (.v 166)) [6,3,0,1,2,3]) [] [] e0 [] 1)]) .skip))))))))))))) y)=>y
 dsimp
def xc192k:AC:=(.seq (.draw [⟨⟨some 126,.mov (.v 0),none,[]⟩,[127,128,129,130,131,132,133,134,135,136],[],[],[],2⟩,
  ⟨⟨some 127,.mov (.v 0),none,[]⟩,[126,131,132,133,134,135],[],[],[0],2⟩,
  ⟨⟨some 128,.nilck (.v 127),none,[1]⟩,[126,131,132,133,134,135],[],[],[0],2⟩,
  ⟨⟨some 129,.faddr 22 (.v 128),none,[2]⟩,[126,131,132,133,134,135],[],[],[0],2⟩,
  ⟨⟨some 130,.load false 1 (.v 129),none,[3]⟩,[126,131,132,133,134,135],[],[],[0],2⟩,
  ⟨⟨some 131,.mov (.v 0),none,[]⟩,[126,127,128,129,130],[],[],[0,1,2,3,4],2⟩,
  ⟨⟨some 132,.nilck (.v 131),none,[5]⟩,[126,127,128,129,130],[],[],[0,1,2,3,4],2⟩,
  ⟨⟨some 133,.faddr 3 (.v 132),none,[6]⟩,[126,127,128,129,130],[],[],[0,1,2,3,4],2⟩,
  ⟨⟨some 134,.load false 1 (.v 133),none,[7]⟩,[126,127,128,129,130],[],[],[0,1,2,3,4],2⟩,
  ⟨⟨some 135,.len false (.v 134),none,[8]⟩,[126,127,128,129,130],[],[],[0,1,2,3,4],2⟩,
  ⟨⟨some 136,.mm true (.v 130) (.v 135),none,[4,9]⟩,[126],[],[],[0],2⟩,
  ⟨⟨some 137,.nilck (.v 126),none,[0,0,1,2,3,4,5,6,7,8,9,10]⟩,[],[],[],[],2⟩,
  ⟨⟨some 138,.faddr 22 (.v 137),none,[11,0,1,2,3,4,5,6,7,8,9,10]⟩,[],[],[],[],2⟩,
  ⟨⟨none,.store 1 (.v 138) (.v 136),none,[12,10,0,1,2,3,4,5,6,7,8,9,10]⟩,[],[],[1000000,1000001,1000002,1000003,1000004,1000005],[],1⟩])
 (.ghost (.keep [0,3,5]) xc192l))
def xc192j:AC:=by
 apply fun (y:AC) (_:@Eq AC (qs (qs (qr [(ym 118 0),(qi 119 (.nilck (.v 118)) [0]),(yf 120 3 119 [1]),(yk 121 120 [2]),(yh 122 121 [3]),(yc 123 .gtr 122 (qz 16) [4])]) (qk [0,3,5,123] (qq (.v 123) (qr [(ym 124 0),(qi 125 (.call 198 [.v 124,.c (.int .i64 21)]) [0])]) .skip))) (qk [0,3,5] xc192k)) y)=>y
 dsimp
def xc192i:AC:=by
 apply fun (y:AC) (_:@Eq AC (qs (qr [(ym 107 0),(qp 108 (.bslice 130 2 0 [] [])),(ym 109 0),(qi 110 (.nilck (.v 109)) [2]),(yf 111 3 110 [3]),(yk 112 111 [4]),(qi 113 (.app 130 2 16 (.v 108) (.v 112)) [1,5]),(ym 114 8),(qi 115 (.app 130 2 16 (.v 113) (.v 114)) [6,7,6]),(qi 116 (.nilck (.v 107)) [0,0,1,2,3,4,5,6,7,8]),(yf 117 3 116 [9,0,1,2,3,4,5,6,7,8]),(qo (.store 1 (.v 117) (.v 115)) [10,8,8,0,1,2,3,4,5,6,7,8])]) (qk [0,3,5] (qk [0,3,5] (.ghost (.canC (1000000,0) 3 (999980,1)) xc192j)))) y)=>y
 dsimp
def xc192h:AC:=by
 apply fun (y:AC) (_:@Eq AC (qs (qs (qr [(qp 100 (qf 0 3)),(yk 101 100 [0]),(yc 102 .eql 101 (qz 20) [1])]) (qk [0,3,5,6,8,102] (qq (.v 102) (qr [(ym 103 0),(qp 104 (qt 2 5)),(qp 105 (qt 2 6)),(qi 106 (.call 201 [.v 103,.v 104,.v 105]) [0,1,2])]) .skip))) (qk [0,3,5,8] xc192i)) y)=>y
 dsimp
def xc192g:AC:=by
 apply fun (y:AC) (_:@Eq AC (qs (qs (qr [(ym 86 9),(ym 87 8),(yh 88 87 [1]),(yb 89 .lss 86 88 [0,2])]) (qk [0,3,5,6,8,9,89] (qq (.v 89) .skip (.exit 0)))) (qk [0,3,5,6,8,9] (qs (.block 1 (qs (qr [(ym 92 8),(ym 93 9),(yj 94 2 92 93 [0,1]),(qi 95 (qt 2 94) [2]),(qi 96 (.call 186 [.v 95]) [3]),(qi 97 (.un .not (.v 96)) [4])]) (qk [0,3,5,6,8,9,97] (qq (.v 97) (qs (qr [(ym 98 0),(qi 99 (.call 198 [.v 98,.c (.int .i64 26)]) [0])]) (qk [0] .ret)) .skip)))) (qk [0,3,5,6,8,9] (qr [(ym 90 9),(yc 91 .add 90 (qz 1) [0]),(yn 9 91 [1,0,1])]))))) y)=>y
 dsimp
def xc192f:AC:=by
 apply fun (y:AC) (_:@Eq AC (qs (qr [(ym 81 0),(qp 82 (qt 2 3)),(qp 83 (qt 2 5)),(qp 84 (qt 2 6)),(qi 85 (.call 200 [.v 81,.v 82,.v 83,.v 84]) [0,1,2,3]),(yn 8 85 [4,4,0,1,2,3,4])]) (qk [0,3,5,6,8] (qs (qs (qr [(qp 9 (.mov (qz 0)))]) (qk [0,3,5,6,8,9] (.block 0 (.loop (qk [0,3,5,6,8,9] xc192g))))) (qk [0,3,5,6,8] xc192h)))) y)=>y
 dsimp
def xc192e:AC:=by
 apply fun (y:AC) (_:@Eq AC (let e0:=[69,70];let e1:=[13,14];(qs (qs (qd [(qe (qp 56 (qf 0 3)) [] [] 2),(qe (yk 57 56 [0]) [] [] 2),(qe (yc 58 .eql 57 (qz 19) [1]) [] [] 2),(qe (yn 59 58 [2]) [] [] 2),(qe (qg 60 (qf 0 3) 59 false [3]) [] [] 2),(qe (qg 61 (ql 60) 59 false [4,3]) [] [] 2),(qe (qg 62 (qc .eql 61 (qz 20)) 59 false [5,3]) [] [] 2),(qe (qi 63 (.pick (.v 59) (.c (.bool true)) (.v 62)) [3,6]) [] [] 2),(qe (yn 64 63 [7,3]) [] [] 2),(qe (qg 65 (.iaddrA 1 2 (.v 5) (qz 0)) 64 true [8]) [] [] 2),(qe (qg 66 (ql 65) 64 true [9,8]) [] [] 2),(qe (qg 67 (qc .lss 66 (qz 0)) 64 true [10,8]) [] [] 2),(qe (qg 68 (qm 67) 64 true [11,8,8]) [] [] 2),(qe (qg 69 (.iaddrA 1 2 (.v 5) (qz 1)) 68 false [12]) [71,72,73,74,75] [] 2),(qe (qg 70 (ql 69) 68 false [13,12]) [71,72,73,74,75] [] 2),(qe (qg 71 (qm 0) 68 false [12]) e0 e1 2),(qe (qg 72 (.nilck (.v 71)) 68 false [15,12]) e0 e1 2),(qe (qg 73 (qf 21 72) 68 false [16,12]) e0 e1 2),(qe (qg 74 (ql 73) 68 false [17,12]) e0 e1 2),(qe (qg 75 (qn 74) 68 false [18,12]) e0 e1 2),(qe (qg 76 (qb .geq 70 75) 68 false [14,19,12]) [] [] 2),(qe (qg 77 (.pick (.v 68) (.c (.bool true)) (.v 76)) 64 true [12,20,8]) [] [] 2),(qe (qi 78 (.pick (.v 64) (.v 77) (.c (.bool false))) [8,21]) [] [] 2)]) (qk [0,3,5,6,78] (qq (.v 78) (qs (qr [(ym 79 0),(qi 80 (.call 198 [.v 79,.c (.int .i64 23)]) [0])]) (qk [0] .ret)) .skip))) (qk [0,3,5,6] xc192f))) y)=>y
 dsimp
def xc192d:AC:=by
 apply fun (y:AC) (_:@Eq AC (qs (qr [(ym 47 0),(ym 48 0),(qi 49 (.nilck (.v 48)) [1]),(yf 50 3 49 [2]),(yk 51 50 [3]),(ym 52 7),(qi 53 (.slcV 2 (.v 51) none (some (.v 52))) [4,5]),(qi 54 (.nilck (.v 47)) [0,0,1,2,3,4,5,6]),(yf 55 3 54 [7,0,1,2,3,4,5,6]),(qo (.store 1 (.v 55) (.v 53)) [8,6,0,1,2,3,4,5,6])]) (qk [0,3,5,6] (.ghost (.canC (1000000,0) 3 (999980,1)) xc192e))) y)=>y
 dsimp
def xc192c:AC:=by
 apply fun (y:AC) (_:@Eq AC (qs (qs (qr [(ym 37 4),(yc 38 .gtr 37 (qz 1) [0])]) (qk [0,3,5,6,7,38] (qq (.v 38) (qr [(ym 39 0),(qi 40 (.nilck (.v 39)) [0]),(yf 41 3 40 [1]),(yk 42 41 [2]),(ym 43 7),(yc 44 .add 43 (qz 1) [4]),(yj 45 2 42 44 [3,5]),(qi 46 (qt 2 45) [6]),(qo (.store 2 (.v 6) (.v 46)) [7,0,1,2,3,4,5,6,7])]) .skip))) (qk [0,3,5,6,7] xc192d)) y)=>y
 dsimp
def xc192b:AC:=by
 apply fun (y:AC) (_:@Eq AC (qs (qs (qr [(ym 28 4),(yc 29 .gtr 28 (qz 0) [0])]) (qk [0,3,4,5,6,7,29] (qq (.v 29) (qr [(ym 30 0),(qi 31 (.nilck (.v 30)) [0]),(yf 32 3 31 [1]),(yk 33 32 [2]),(ym 34 7),(yj 35 2 33 34 [3,4]),(qi 36 (qt 2 35) [5]),(qo (.store 2 (.v 5) (.v 36)) [6,0,1,2,3,4,5,6])]) .skip))) (qk [0,3,4,5,6,7] xc192c)) y)=>y
 dsimp
def xc192a:AC:=by
 apply fun (y:AC) (_:@Eq AC (qs (qs (qr [(ym 16 0),(qi 17 (.nilck (.v 16)) [0]),(yf 18 24 17 [1]),(yk 19 18 [2]),(yc 20 .neq 19 (qz 0) [3])]) (qk [0,3,4,20] (qq (.v 20) .ret .skip))) (qk [0,3,4] (qs (qr [(qp 5 (.alloc [.int .i64 0,.int .i64 0]))]) (qk [0,3,4,5] (qs (qr [(qp 6 (.alloc [.int .i64 0,.int .i64 0]))]) (qk [0,3,4,5,6] (qs (qr [(ym 21 0),(qi 22 (.nilck (.v 21)) [0]),(yf 23 3 22 [1]),(yk 24 23 [2]),(yh 25 24 [3]),(ym 26 4),(yb 27 .sub 25 26 [4,5]),(yn 7 27 [6,0,1,2,3,4,5,6])]) (qk [0,3,4,5,6,7] xc192b)))))))) y)=>y
 dsimp
def ac192:AC:=by
 apply fun (y:AC) (_:@Eq AC (qk [0,1] (qs (qr [(qp 3 (.box (.v 1)))]) (qk [0,3] (qs (qr [(qp 10 (qf 0 3)),(yk 11 10 [0]),(qi 12 (.call 184 [.v 11]) [1]),(yn 4 12 [2,2,0,1,2])]) (qk [0,3,4] (qs (qr [(ym 13 0),(ym 14 4),(qi 15 (.call 191 [.v 13,.v 14]) [0,1])]) (qk [0,3,4] (.ghost (.canC (1000000,0) 3 (999980,1)) xc192a)))))))) y)=>y
 dsimp
theorem fn192:factOf Tryz.prog 192=some (ac192.strip,[],170):=by kernel_rfl
theorem ok192:ac192.okAll=true:=by kernel_rfl
def ac196:AC:=by
 apply fun (y:AC) (_:@Eq AC (qk [0,1,2,3] (qs (qr [(ym 10 1),(ym 11 2),(qi 12 (.call 190 [.v 10,.v 11,.c (.bool true)]) [0,1]),(yn 8 12 [2,2,0,1,2])]) (qk [0,1,2,3,8] (qs (qr [(ym 13 1),(ym 14 2),(qi 15 (.call 190 [.v 13,.v 14,.c (.bool false)]) [0,1]),(yn 9 15 [2,2,0,1,2])]) (qk [0,1,2,3,8,9] (qs (qr [(ym 16 3)]) (qk [0,1,2,8,9,16] (qq (.v 16) (qs (qr [(ym 17 0),(ym 18 1),(ym 19 2),(yc 20 .add 19 (qz 1) [2]),(ym 21 9),(qi 22 (.call 169 [.v 17,.v 18,.v 20,.v 21]) [0,1,3,4])]) (qk [0] (qr [(ym 23 0),(qi 24 (.call 191 [.v 23,.c (.int .i64 0)]) [0])]))) (qs (qr [(ym 25 9),(ym 26 8),(yb 27 .lss 25 26 [0,1])]) (qk [0,1,8,9,27] (qq (.v 27) (qs (qr [(ym 28 0),(ym 29 1),(ym 30 9),(yc 31 .add 30 (qz 1) [2]),(ym 32 8),(qi 33 (.call 169 [.v 28,.v 29,.v 31,.v 32]) [0,1,3,4])]) (qk [0] (qr [(ym 34 0),(qi 35 (.call 191 [.v 34,.c (.int .i64 0)]) [0])]))) (.ghost (.canC (1000000,0) 3 (999980,1)) .skip)))))))))))) y)=>y
 dsimp
theorem fn196:factOf Tryz.prog 196=some (ac196.strip,[],36):=by kernel_rfl
theorem ok196:ac196.okAll=true:=by kernel_rfl
def xc189d:AC:=by
 apply fun (y:AC) (_:@Eq AC (let e0:=[87,88,89,90,91];let e1:=[82,83,84,85,86];let e2:=[6,7,8,9,10];(qs (qr [(ym 70 0),(ym 71 7),(qi 72 (.nilck (.v 71)) [1]),(yf 73 24 72 [2]),(yk 74 73 [3]),(qi 75 (.call 198 [.v 70,.v 74]) [0,4])]) (qk [0,7] (qs (qs (qd [(qe (ym 76 0) [] [] 2),(qe (qi 77 (.nilck (.v 76)) [0]) [] [] 2),(qe (yf 78 24 77 [1]) [] [] 2),(qe (yk 79 78 [2]) [] [] 2),(qe (yc 80 .eql 79 (qz 0) [3]) [] [] 2),(qe (yn 81 80 [4]) [] [] 2),(qe (qg 82 (qm 0) 81 true [5]) e0 [] 2),(qe (qg 83 (.nilck (.v 82)) 81 true [6,5]) e0 [] 2),(qe (qg 84 (qf 3 83) 81 true [7,5]) e0 [] 2),(qe (qg 85 (ql 84) 81 true [8,5]) e0 [] 2),(qe (qg 86 (qn 85) 81 true [9,5]) e0 [] 2),(qe (qg 87 (qm 7) 81 true [5]) e1 e2 2),(qe (qg 88 (.nilck (.v 87)) 81 true [11,5]) e1 e2 2),(qe (qg 89 (qf 3 88) 81 true [12,5]) e1 e2 2),(qe (qg 90 (ql 89) 81 true [13,5]) e1 e2 2),(qe (qg 91 (qn 90) 81 true [14,5]) e1 e2 2),(qe (qg 92 (qb .neq 86 91) 81 true [10,15,5]) [] [] 2),(qe (qi 93 (.pick (.v 81) (.v 92) (.c (.bool false))) [5,16]) [] [] 2)]) (qk [0,7,93] (qq (.v 93) (qr [(ym 94 0),(qi 95 (.call 198 [.v 94,.c (.int .i64 21)]) [0])]) .skip))) (qk [0,7] (qs (qs (qr [(ym 96 0),(qi 97 (.nilck (.v 96)) [0]),(yf 98 24 97 [1]),(yk 99 98 [2]),(yc 100 .neq 99 (qz 0) [3])]) (qk [0,7,100] (qq (.v 100) .ret .skip))) (qk [0,7] (qr [(ym 101 0),(ym 102 7),(qi 103 (.call 199 [.v 101,.v 102]) [0,1])])))))))) y)=>y
 dsimp
def xc189c:AC:=by
 apply fun (y:AC) (_:@Eq AC (qs (qr [(ym 60 0),(qi 61 (.call 197 [.v 60]) [0]),(yn 7 61 [1,1,0,1])]) (qk [0,1,2,7] (qs (qr [(ym 62 0),(ym 63 1),(ym 64 2),(qi 65 (.call 196 [.v 62,.v 63,.v 64,.c (.bool true)]) [0,1,2])]) (qk [0,1,2,7] (qs (qr [(ym 66 7),(ym 67 1),(ym 68 2),(qi 69 (.call 196 [.v 66,.v 67,.v 68,.c (.bool false)]) [0,1,2])]) (qk [0,7] xc189d)))))) y)=>y
 dsimp
def xc189b:AC:=by
 apply fun (y:AC) (_:@Eq AC (qs (qs (qr [(qp 41 (.iaddrA 1 2 (.v 6) (qz 0))),(yk 42 41 [0]),(yc 43 .gtr 42 (qz 0) [1]),(yn 44 43 [2]),(qg 45 (.iaddrA 1 2 (.v 6) (qz 1)) 44 false [3]),(qg 46 (ql 45) 44 false [4,3]),(qg 47 (qc .lss 46 (qz 0)) 44 false [5,3]),(qi 48 (.pick (.v 44) (.c (.bool true)) (.v 47)) [3,6])]) (qk [0,1,2,6,48] (qq (.v 48) (qs (qr [(ym 49 0),(ym 50 1),(ym 51 2),(qi 52 (.call 196 [.v 49,.v 50,.v 51,.c (.bool true)]) [0,1,2])]) (qk [0] .ret)) .skip))) (qk [0,1,2,6] (qs (qs (qr [(qp 53 (qt 2 6)),(qp 54 (.build [.int .i64 0,.int .i64 0] [])),(qi 55 (.eqs false 2 [(0,1),(1,1)] (.v 53) (.v 54)) [0,1])]) (qk [0,1,2,55] (qq (.v 55) (qs (qr [(ym 56 0),(ym 57 1),(ym 58 2),(qi 59 (.call 196 [.v 56,.v 57,.v 58,.c (.bool false)]) [0,1,2])]) (qk [0] .ret)) .skip))) (qk [0,1,2] xc189c)))) y)=>y
 dsimp
def ac189:AC:=by
 apply fun (y:AC) (_:@Eq AC (let e0:=[27,28,29,30,31];let e1:=[6,15,16,17,18];let e2:=[27,32,33,34,35,36,37];let e3:=[6,19,20,21,22,23,24];let e4:=[0,1,2,3,4];let e5:=[6];let e6:=[0,1,2,3];(qk [0,1,2] (qs (qr [(ym 8 0),(qi 9 (.call 191 [.v 8,.c (.int .i64 1)]) [0])]) (qk [0,1,2] (.ghost (.canC (1000000,0) 3 (999980,1)) (qs (qs (qr [(ym 10 0),(qi 11 (.nilck (.v 10)) [0]),(yf 12 24 11 [1]),(yk 13 12 [2]),(yc 14 .neq 13 (qz 0) [3])]) (qk [0,1,2,14] (qq (.v 14) .ret .skip))) (qk [0,1,2] (qs (qd [(qa (ym 15 0) e3 e5 [] [] 2),(qa (qi 16 (.nilck (.v 15)) [0]) e3 e5 [] [] 2),(qa (yf 17 3 16 [1]) e3 e5 [] [] 2),(qa (yk 18 17 [2]) e3 e5 [] [] 0),(qa (ym 19 0) e1 e5 [] e6 2),(qa (qi 20 (.nilck (.v 19)) [4]) e1 e5 [] e6 2),(qa (yf 21 3 20 [5]) e1 e5 [] e6 2),(qa (yk 22 21 e5) e1 e5 [] e6 0),(qa (yh 23 22 [7]) e1 e5 [] e6 2),(qa (yc 24 .sub 23 (qz 1) [8]) e1 e5 [] e6 2),(qa (yj 25 2 18 24 [3,9]) e5 e5 [] [] 2),(qa (qi 26 (qt 2 25) [10]) e5 e5 [] [] 0),(qa (qp 6 (.alloc [.int .i64 0,.int .i64 0])) [15,16,17,18,19,20,21,22,23,24,25,26] [] e5 [0,1,2,3,4,5,6,7,8,9,10,11] 1),(qa (qo (.store 2 (.v 6) (.v 26)) [12,11,0,1,2,3,4,5,6,7,8,9,10,11,12]) [] [] e5 [] 1)]) (qk [0,1,2,6] (qs (qd [(qe (ym 27 0) [28,29,30,31,32,33,34,35,36,37,38] [] 2),(qe (ym 28 0) e2 [0] 2),(qe (qi 29 (.nilck (.v 28)) [1]) e2 [0] 2),(qe (yf 30 3 29 [2]) e2 [0] 2),(qe (yk 31 30 [3]) e2 [0] 2),(qe (ym 32 0) e0 e4 2),(qe (qi 33 (.nilck (.v 32)) [5]) e0 e4 2),(qe (yf 34 3 33 e5) e0 e4 2),(qe (yk 35 34 [7]) e0 e4 2),(qe (yh 36 35 [8]) e0 e4 2),(qe (yc 37 .sub 36 (qz 1) [9]) e0 e4 2),(qe (qi 38 (.slcV 2 (.v 31) none (some (.v 37))) [4,10]) [27] [0] 2),(qe (qi 39 (.nilck (.v 27)) [0,0,1,2,3,4,5,6,7,8,9,10,11]) [] [] 2),(qe (yf 40 3 39 [12,0,1,2,3,4,5,6,7,8,9,10,11]) [] [] 2),(qa (qo (.store 1 (.v 40) (.v 38)) [13,11,0,1,2,3,4,5,6,7,8,9,10,11]) [] [] [1000000,1000001,1000002,1000003,1000004,1000005] [] 1)]) (qk [0,1,2,6] (.ghost (.canC (1000000,0) 3 (999990,1)) xc189b)))))))))))) y)=>y
 dsimp
theorem fn189:factOf Tryz.prog 189=some (ac189.strip,[],104):=by kernel_rfl
theorem ok189:ac189.okAll=true:=by kernel_rfl
def xc169b:AC:=by
 apply fun (y:AC) (_:@Eq AC (let e0:=[0,1,3,8,9,10];(qs (qs (qr [(qp 10 (.mov (qz 0)))]) (qk e0 (.block 3 (.loop (qk e0 (qs (qs (qr [(ym 51 10),(ym 52 1),(ym 53 8),(yj 54 2 52 53 [1,2]),(yf 55 1 54 [3]),(yk 56 55 [4]),(yb 57 .lss 51 56 [0,5])]) (qk [0,1,3,8,9,10,57] (qq (.v 57) .skip (.exit 3)))) (qk e0 (.ghost (.canC (1000000,0) 3 (999990,1)) (qs (.block 4 (qs (qr [(ym 60 0),(ym 61 1),(ym 62 8),(yc 63 .add 62 (qz 1) [2]),(ym 64 9),(qi 65 (.call 169 [.v 60,.v 61,.v 63,.v 64]) [0,1,3,4])]) (qk e0 (qr [(ym 66 0),(qi 67 (.call 191 [.v 66,.c (.int .i64 0)]) [0])])))) (qk e0 (qr [(ym 58 10),(yc 59 .add 58 (qz 1) [0]),(yn 10 59 [1,0,1])]))))))))))) (qk [0,1,3,9] (qr [(ym 68 9),(yn 8 68 [0,0])])))) y)=>y
 dsimp
def ac169:AC:=by
 apply fun (y:AC) (_:@Eq AC (let e0:=[0,1,3,8];(qk [0,1,2,3] (qs (qr [(ym 11 2),(yn 8 11 [0,0])]) (qk e0 (.ghost (.canC (1000000,0) 3 (999980,1)) (.block 0 (.loop (qk e0 (qs (qs (qr [(ym 12 8),(ym 13 3),(yb 14 .lss 12 13 [0,1]),(yn 15 14 [2]),(qg 16 (qm 0) 15 true [3]),(qg 17 (.nilck (.v 16)) 15 true [4,3]),(qg 18 (qf 24 17) 15 true [5,3]),(qg 19 (ql 18) 15 true [6,3]),(qg 20 (qc .eql 19 (qz 0)) 15 true [7,3]),(qi 21 (.pick (.v 15) (.v 20) (.c (.bool false))) [3,8])]) (qk [0,1,3,8,21] (qq (.v 21) .skip (.exit 0)))) (qk e0 (.ghost (.canC (1000000,0) 3 (999990,1)) (qs (.block 1 (qs (qr [(ym 24 1),(ym 25 8),(yj 26 2 24 25 [0,1]),(yf 27 0 26 [2]),(yk 28 27 [3])]) (qk [0,1,3,8,28] (.block 2 (qs (qr [(qp 36 (qc .eql 28 (qz 23))),(yn 35 36 [0])]) (qk [0,1,3,8,28,35] (qq (.v 35) (qs (qr [(ym 37 0),(ym 38 1),(ym 39 8),(qi 40 (.call 189 [.v 37,.v 38,.v 39]) [0,1,2])]) (qk e0 (qr [(ym 41 1),(ym 42 8),(qi 43 (.call 190 [.v 41,.v 42,.c (.bool true)]) [0,1]),(yn 8 43 [2,2,0,1,2])]))) (qs (qr [(qp 45 (qc .eql 28 (qz 26))),(yn 44 45 [0])]) (qk [0,1,3,8,44] (qq (.v 44) (qs (qr [(ym 46 1),(ym 47 8),(qi 48 (.call 190 [.v 46,.v 47,.c (.bool true)]) [0,1]),(yn 9 48 [2,2,0,1,2])]) (qk [0,1,3,8,9] (qs (qr [(ym 49 0),(qi 50 (.call 191 [.v 49,.c (.int .i64 0)]) [0])]) (qk [0,1,3,8,9] (.ghost (.canC (1000000,0) 3 (999980,1)) xc169b))))) (qr [(ym 29 0),(ym 30 1),(ym 31 8),(yj 32 2 30 31 [1,2]),(qi 33 (qt 2 32) [3]),(qi 34 (.call 192 [.v 29,.v 33]) [0,4])]))))))))))) (qk e0 (qr [(ym 22 8),(yc 23 .add 22 (qz 1) [0]),(yn 8 23 [1,0,1])])))))))))))))) y)=>y
 dsimp
theorem fn169:factOf Tryz.prog 169=some (ac169.strip,[],69):=by kernel_rfl
theorem ok169:ac169.okAll=true:=by kernel_rfl
end
section
set_option maxHeartbeats 8000000
attribute [local simp] mcM mcBox
attribute [local simp ↓] oneM
theorem seqR1 {P:Program} {x z:AC} {g1:Ghost} {K:AE→Fr→Prop} {F:Fr} {α:Type} (fr:α→Fr) (Q:α→Prop) (h1:awp P x (Rnd (fun F'=>∃ a,Q a∧(g1.app F')=some (fr a)) K) F) (h2:∀ a,Q a→awp P z K (fr a)):awp P (.seq x (.ghost g1 z)) K F:=by
 rw [awp_seq]
 refine awp_mono (fun e F' q=>?_) h1
 cases e with
 | normal=>
  obtain ⟨a,q1,q2⟩:=q
  dsimp only
  rw [awp_ghost,q2];exact h2 a q1
 | exit i=>exact q
 | ret=>exact q
def fr192 (m:Mc) (vs:List (Nat×AV)) (M:List (Slot×Blk)):Fr:=⟨(0,.ptr (1000000,0) 25 0 0) :: vs,M++[((999980,1),.sl 130 2 (m.st.map mvRow)),((1000000,0),mcBox (999980,1) (1000002,0) (1000003,0) m),((1000002,0),.sl 130 2 (m.x.map mvRow)),((1000003,0),.sl 130 2 (m.y.map mvRow))]⟩
attribute [local simp] fr192
def m192 (o n:Int) (a b:Int×Int):List (Slot×Blk):=[((3,0),.box [.p (.int .i64 o),.p (.int .i64 n)]),((5,0),.box [.p (.int .i64 a.1),.p (.int .i64 a.2)]),((6,0),.box [.p (.int .i64 b.1),.p (.int .i64 b.2)])]
attribute [local simp] m192
theorem smallSO {a:Int×Int} (h:a.1≤a.2) (h1:smallB a.1=true) (h2:smallB a.2=true):SO a:=by
 unfold smallB at h1 h2
 rw [←Bool.decide_and,decide_eq_true_eq] at h1 h2
 exact ⟨h1.1,h,h2.2⟩
def Mc.ok2 (m:Mc) (axes points:Nat):Prop:=m.ok axes points∧(m.failed=0→m.st.length≤16)
def K192 (axes points:Nat):AE→Fr→Prop:=retEF [] (fun _=>.p (.tup [])) (fun m':Mc=>mcM (BIG,0) (999980,1) (BIG+2,0) (BIG+3,0) m') (fun m'=>m'.ok2 axes points)
theorem b192l (m:Mc) (axes points:Nat) (hm:m.ok2 axes points) (o n:Int) (hi:InsOk axes points (o,n)) (a:Int×Int) (ha:SO a):awp Tryz.prog xc192l (K192 axes points) (fr192 m [(3,.ptr (3,0) 2 0 0),(5,.ptr (5,0) 2 0 0)] [((3,0),.box [.p (.int .i64 o),.p (.int .i64 n)]),((5,0),.box [.p (.int .i64 a.1),.p (.int .i64 a.2)])]):=by
 have hm0:=hm
 obtain ⟨⟨k1,⟨k2,k3⟩,k4,k5,⟨k6,k7⟩,⟨k8,k9⟩,k10,k11,k12⟩,kf⟩:=hm
 obtain ⟨i1,i2,i3,i4,i5,i6,i7⟩:=hi
 dsimp only at i1 i2 i3 i4 i5 i6 i7
 obtain ⟨a1,a2⟩:=a
 by_cases c17:o=17
 ·obtain ⟨j1,j2⟩:=i5 (by omega)
  obtain ⟨j,ej⟩:∃ j:Nat,n=j:=⟨n.toNat,by omega⟩
  subst c17 ej
  have hj:j<m.x.length:=by omega
  simp -dsimp [xc192l,hj,K192,retEF]
  exact ⟨{ m with x:=m.x.set j (a1,a2) },⟨rfl,by simp,by rw [List.map_set];simp [mvRow],rfl⟩,⟨k1,⟨k2,k3⟩,k4,k5,⟨by simpa using k6,setSO k7 ha⟩,⟨k8,k9⟩,k10,k11,k12⟩,kf⟩
 by_cases c18:o=18
 ·obtain ⟨j1,j2⟩:=i5 (by omega)
  obtain ⟨j,ej⟩:∃ j:Nat,n=j:=⟨n.toNat,by omega⟩
  subst c18 ej
  have hj:j<m.y.length:=by omega
  simp -dsimp [xc192l,hj,K192,retEF]
  exact ⟨{ m with y:=m.y.set j (a1,a2) },⟨rfl,by simp,rfl,by rw [List.map_set];simp [mvRow]⟩,⟨k1,⟨k2,k3⟩,k4,k5,⟨k6,k7⟩,⟨by simpa using k8,setSO k9 ha⟩,k10,k11,k12⟩,kf⟩
 by_cases c22:o=22
 ·obtain ⟨j1,j2⟩:=i6 (.inr c22)
  subst c22
  have:n=0∨n=1∨n=2∨n=3∨n=4∨n=5∨n=6∨n=7:=by omega
  rcases this with rfl | rfl | rfl | rfl | rfl | rfl | rfl | rfl
  ·simp -dsimp [xc192l,K192,retEF]
   exact ⟨{ m with sl:=fun i=>if i=0 then (a1,a2) else m.sl i },by simp,⟨k1,⟨k2,k3⟩,k4,fun i=>ifSO ha (k5 i),⟨k6,k7⟩,⟨k8,k9⟩,k10,k11,k12⟩,kf⟩
  ·simp -dsimp [xc192l,K192,retEF]
   exact ⟨{ m with sl:=fun i=>if i=1 then (a1,a2) else m.sl i },by simp,⟨k1,⟨k2,k3⟩,k4,fun i=>ifSO ha (k5 i),⟨k6,k7⟩,⟨k8,k9⟩,k10,k11,k12⟩,kf⟩
  ·simp -dsimp [xc192l,K192,retEF]
   exact ⟨{ m with sl:=fun i=>if i=2 then (a1,a2) else m.sl i },by simp,⟨k1,⟨k2,k3⟩,k4,fun i=>ifSO ha (k5 i),⟨k6,k7⟩,⟨k8,k9⟩,k10,k11,k12⟩,kf⟩
  ·simp -dsimp [xc192l,K192,retEF]
   exact ⟨{ m with sl:=fun i=>if i=3 then (a1,a2) else m.sl i },by simp,⟨k1,⟨k2,k3⟩,k4,fun i=>ifSO ha (k5 i),⟨k6,k7⟩,⟨k8,k9⟩,k10,k11,k12⟩,kf⟩
  ·simp -dsimp [xc192l,K192,retEF]
   exact ⟨{ m with sl:=fun i=>if i=4 then (a1,a2) else m.sl i },by simp,⟨k1,⟨k2,k3⟩,k4,fun i=>ifSO ha (k5 i),⟨k6,k7⟩,⟨k8,k9⟩,k10,k11,k12⟩,kf⟩
  ·simp -dsimp [xc192l,K192,retEF]
   exact ⟨{ m with sl:=fun i=>if i=5 then (a1,a2) else m.sl i },by simp,⟨k1,⟨k2,k3⟩,k4,fun i=>ifSO ha (k5 i),⟨k6,k7⟩,⟨k8,k9⟩,k10,k11,k12⟩,kf⟩
  ·simp -dsimp [xc192l,K192,retEF]
   exact ⟨{ m with sl:=fun i=>if i=6 then (a1,a2) else m.sl i },by simp,⟨k1,⟨k2,k3⟩,k4,fun i=>ifSO ha (k5 i),⟨k6,k7⟩,⟨k8,k9⟩,k10,k11,k12⟩,kf⟩
  ·simp -dsimp [xc192l,K192,retEF]
   exact ⟨{ m with sl:=fun i=>if i=7 then (a1,a2) else m.sl i },by simp,⟨k1,⟨k2,k3⟩,k4,fun i=>ifSO ha (k5 i),⟨k6,k7⟩,⟨k8,k9⟩,k10,k11,k12⟩,kf⟩
 ·simp -dsimp [xc192l,c17,c18,c22,K192,retEF]
  exact ⟨m,by simp,hm0⟩
def v35:List (Nat×AV):=[(3,.ptr (3,0) 2 0 0),(5,.ptr (5,0) 2 0 0)]
def m35 (o n:Int) (a:Int×Int):List (Slot×Blk):=[((3,0),.box [.p (.int .i64 o),.p (.int .i64 n)]),((5,0),.box [.p (.int .i64 a.1),.p (.int .i64 a.2)])]
attribute [local simp] v35 m35
theorem b192k (m:Mc) (axes points:Nat) (hm:m.ok2 axes points) (o n:Int) (hi:InsOk axes points (o,n)) (a:Int×Int) (ha:SO a):awp Tryz.prog xc192k (K192 axes points) (fr192 m v35 (m35 o n a)):=by
 simp -dsimp [xc192k,↓ awpC_of xc192l]
 exact awpC_in (b192l { m with high:=max m.high m.st.length } axes points hm o n hi a ha)
theorem b192j (m:Mc) (axes points:Nat) (hm:m.ok axes points) (o n:Int) (hi:InsOk axes points (o,n)) (a:Int×Int) (ha:SO a):awp Tryz.prog xc192j (K192 axes points) (fr192 m v35 (m35 o n a)):=by
 have ht:List.take m.st.length (m.st.map mvRow)=m.st.map mvRow:=List.take_of_length_le (by simp)
 by_cases h:(16:Int)<m.st.length
 ·simp -dsimp [xc192j,h,↓ awpC_of xc192k]
  refine call_m (b198 m 21 (1000000,0) (999980,1) (1000002,0) (1000003,0) (by decide) (by decide) (by decide) (by decide) (by decide) (by decide)) (by simp) (by simp) (by simp) ?_
  simp -dsimp [↓ awpC_of xc192k]
  exact awpC_in (b192k { m with failed:=if m.failed=0 then 21 else m.failed } axes points ⟨hm,fun e=>absurd e (by dsimp only;split<;>omega)⟩ o n hi a ha)
 ·simp -dsimp [xc192j,h,↓ awpC_of xc192k]
  exact awpC_in (b192k m axes points ⟨hm,fun _=>by omega⟩ o n hi a ha)
theorem b192i (m:Mc) (axes points:Nat) (hm:m.ok axes points) (hl:m.st.length≤900) (o n:Int) (hi:InsOk axes points (o,n)) (a:Int×Int) (ha:SO a) (l:List (Int×Int)) (l2:l.length≤2) (hs:∀ z∈l,SO z):awp Tryz.prog xc192i (K192 axes points) (fr192 m ((3,.ptr (3,0) 2 0 0) :: (5,.ptr (5,0) 2 0 0) :: [(8,.p (.sl 2 (l.map mvRow)))]) (m35 o n a)):=by
 obtain ⟨k1,⟨k2,k3⟩,k4,k5,⟨k6,k7⟩,⟨k8,k9⟩,k10,k11,k12⟩:=hm
 have t1:List.take m.st.length (m.st.map mvRow)=m.st.map mvRow:=List.take_of_length_le (by simp)
 have m1:m.st.length≤maxLen:=by unfold maxLen;omega
 have m2:m.st.length+l.length≤maxLen:=by unfold maxLen;omega
 have e1:m.st.length*16≤140737488355328:=by omega
 have e2:(m.st.length+l.length)*16≤140737488355328:=by omega
 have t2:List.take (m.st.length+l.length) (m.st.map mvRow++l.map mvRow)=m.st.map mvRow++l.map mvRow:=List.take_of_length_le (by simp)
 simp -dsimp [xc192i,t1,t2,m1,m2,e1,e2,List.range,List.range.loop,-List.all_eq_true,↓ awpC_of xc192j]
 have:=b192j { m with st:=m.st++l } axes points ⟨k1,⟨k2,k3⟩,fun z hz=>by rcases List.mem_append.1 hz with g | g;exact k4 z g;exact hs z g,k5,⟨k6,k7⟩,⟨k8,k9⟩,by simp;omega,k11,k12⟩ o n hi a ha
 exact awpC_in (by simpa -dsimp using this)
theorem b192h (m:Mc) (axes points:Nat) (hm:m.ok axes points) (hl:m.st.length≤900) (o n:Int) (hi:InsOk axes points (o,n)) (a b:Int×Int) (ha:SO a) (hb:SO b) (hat:o=19∨o=20→0≤a.1∧a.2<points) (l:List (Int×Int)) (l2:l.length≤2) (hs:∀ z∈l,SO z):awp Tryz.prog xc192h (K192 axes points) (fr192 m ((3,.ptr (3,0) 2 0 0) :: (5,.ptr (5,0) 2 0 0) :: (6,.ptr (6,0) 2 0 0) :: [(8,.p (.sl 2 (l.map mvRow)))]) (m192 o n a b)):=by
 by_cases h:o=20
 ·obtain ⟨h1,h2⟩:=hat (.inr h)
  have hm0:=hm
  obtain ⟨k1,⟨k2,k3⟩,k4,k5,⟨k6,k7⟩,⟨k8,k9⟩,k10,k11,k12⟩:=hm
  obtain ⟨u,f,⟨g1,g2⟩,q⟩:=b201 m a b h1 ha.2.1 (by omega) hb k9 (by omega) (1000000,0) (999980,1) (1000002,0) (1000003,0) (by decide) (by decide) (by decide) (by decide) (by decide) (by decide)
  simp -dsimp [xc192h,h,↓ awpC_of xc192i]
  refine call_m q (by simp) (by simp) (by simp) ?_
  simp -dsimp [↓ awpC_of xc192i]
  have:=b192i { m with y:=u,failed:=f } axes points ⟨k1,⟨k2,k3⟩,k4,k5,⟨k6,k7⟩,⟨by dsimp only;omega,g2⟩,k10,k11,k12⟩ hl o n hi a ha l l2 hs
  exact awpC_in (by simpa -dsimp [h] using this)
 ·simp -dsimp [xc192h,h,↓ awpC_of xc192i]
  have:=b192i m axes points hm hl o n hi a ha l l2 hs
  exact awpC_in (by simpa -dsimp [h] using this)
theorem b192f (m:Mc) (axes points:Nat) (hm:m.ok axes points) (hl:m.st.length≤900) (o n:Int) (hi:InsOk axes points (o,n)) (a b:Int×Int) (ha:SO a) (hb:SO b) (hat:o=19∨o=20→0≤a.1∧a.2<points):awp Tryz.prog xc192f (K192 axes points) (fr192 m ((3,.ptr (3,0) 2 0 0) :: (5,.ptr (5,0) 2 0 0) :: [(6,.ptr (6,0) 2 0 0)]) (m192 o n a b)):=by
 obtain ⟨l,⟨l2,hs⟩,q⟩:=b200 m axes points hm o n hi a b ha hb (fun e=>hat (.inl e)) (1000000,0) (999980,1) (1000002,0) (1000003,0) (by decide) (by decide) (by decide) (by decide) (by decide) (by decide)
 simp -dsimp [xc192f,↓ awpC_of xc192g,↓ awpC_of xc192h]
 refine call_m q (by simp) (by simp) (by simp) ?_
 simp -dsimp [↓ awpC_of xc192g,↓ awpC_of xc192h]
 refine loopE l.length (fun k (_:Unit)=>fr192 m ((3,.ptr (3,0) 2 0 0) :: (5,.ptr (5,0) 2 0 0) :: (6,.ptr (6,0) 2 0 0) :: (8,.p (.sl 2 (l.map mvRow))) :: [(9,.p (.int .i64 k))]) (m192 o n a b)) (fun k _=>∀ z∈l.take k,SO z) () (fun k _ hk hQ=>?_) (by simp) (by simp)
 by_cases h:k<l.length
 ·obtain ⟨⟨u1,u2⟩,eu⟩:∃ u,l[k]=u:=⟨_,rfl⟩
  have hle:=hs (u1,u2) (by rw [←eu];simp)
  have w:R ((k:Int)+1):=⟨by omega,by omega⟩
  simp -dsimp [xc192g,h,eu,mvRow]
  refine call_p (b186 u1 u2) (by simp) (by simp) ?_
  by_cases hsm:smallB u1=true∧smallB u2=true
  ·obtain ⟨s1,s2⟩:=hsm
   have hso:SO (u1,u2):=smallSO hle s1 s2
   simp -dsimp [s1,s2,wr w]
   intro c d hx
   rw [List.take_add_one,List.getElem?_eq_getElem h,eu] at hx
   rcases List.mem_append.1 hx with g | g
   ·exact hQ _ g
   ·have:(c,d)=(u1,u2):=by simpa using g
    rw [this];exact hso
  ·have hsm':(smallB u1 && smallB u2)=false:=by simpa using hsm
   simp -dsimp [hsm']
   refine call_m (b198 m 26 (1000000,0) (999980,1) (1000002,0) (1000003,0) (by decide) (by decide) (by decide) (by decide) (by decide) (by decide)) (by simp) (by simp) (by simp) ?_
   simp -dsimp [K192,retEF]
   exact ⟨{ m with failed:=if m.failed=0 then 26 else m.failed },by simp,hm,fun e=>absurd e (by dsimp only;split<;>omega)⟩
 ·have:k=l.length:=by omega
  subst this
  rw [List.take_length] at hQ
  simp -dsimp [xc192g,h,↓ awpC_of xc192h]
  exact awpC_in (b192h m axes points hm hl o n hi a b ha hb hat l l2 hQ)
theorem b192e (m:Mc) (axes points:Nat) (hm:m.ok axes points) (hl:m.st.length≤900) (o n:Int) (hi:InsOk axes points (o,n)) (a b:Int×Int) (ha:SO a) (hb:SO b):awp Tryz.prog xc192e (K192 axes points) (fr192 m ((3,.ptr (3,0) 2 0 0) :: (5,.ptr (5,0) 2 0 0) :: [(6,.ptr (6,0) 2 0 0)]) (m192 o n a b)):=by
 have hm0:=hm
 obtain ⟨k1,⟨k2,k3⟩,k4,k5,⟨k6,k7⟩,⟨k8,k9⟩,k10,k11,k12⟩:=hm
 have fl:awpC Tryz.prog xc192f (K192 axes points) {} (fr192 m ((3,.ptr (3,0) 2 0 0) :: (5,.ptr (5,0) 2 0 0) :: [(6,.ptr (6,0) 2 0 0)]) (m192 o n a b))∨True:=.inr trivial
 by_cases h:o=19∨o=20
 ·by_cases h1:a.1<0
  ·have q:=b198 m 23 (1000000,0) (999980,1) (1000002,0) (1000003,0) (by decide) (by decide) (by decide) (by decide) (by decide) (by decide)
   rcases h with rfl | rfl
   all_goals
    simp -dsimp [xc192e,h1]
    refine call_m q (by simp) (by simp) (by simp) ?_
    simp -dsimp [K192,retEF]
    exact ⟨{ m with failed:=if m.failed=0 then 23 else m.failed },by simp,hm0,fun e=>absurd e (by dsimp only;split<;>omega)⟩
  ·by_cases h2:(m.y.length:Int)≤a.2
   ·have q:=b198 m 23 (1000000,0) (999980,1) (1000002,0) (1000003,0) (by decide) (by decide) (by decide) (by decide) (by decide) (by decide)
    rcases h with rfl | rfl
    all_goals
     simp -dsimp [xc192e,h1,h2]
     refine call_m q (by simp) (by simp) (by simp) ?_
     simp -dsimp [K192,retEF]
     exact ⟨{ m with failed:=if m.failed=0 then 23 else m.failed },by simp,hm0,fun e=>absurd e (by dsimp only;split<;>omega)⟩
   ·have:=b192f m axes points hm0 hl o n hi a b ha hb (fun _=>⟨by omega,by omega⟩)
    rcases h with rfl | rfl
    all_goals
     simp -dsimp [xc192e,h1,h2,↓ awpC_of xc192f]
     exact awpC_in (by simpa -dsimp using this)
 ·have c1:o≠19:=fun e=>h (.inl e)
  have c2:o≠20:=fun e=>h (.inr e)
  have:=b192f m axes points hm0 hl o n hi a b ha hb (fun e=>absurd e h)
  simp -dsimp [xc192e,c1,c2,↓ awpC_of xc192f]
  exact awpC_in (by simpa -dsimp using this)
theorem b192' (m:Mc) (axes points:Nat) (hm:m.ok2 axes points) (o n:Int) (hi:InsOk axes points (o,n)):∃ m':Mc,m'.ok2 axes points ∧
  BestF Tryz.prog 192 (mcM (BIG,0) (999990,1) (BIG+2,0) (BIG+3,0) m) [.ptr (BIG,0) 25 0 0,.p (.agg [.int .i64 o,.int .i64 n])] [(BIG,0),(BIG+2,0),(BIG+3,0)] (.p (.tup [])) (mcM (BIG,0) (999980,1) (BIG+2,0) (BIG+3,0) m'):=by
 refine bestEF mixed fn192 ok192 (by simp) (by simp) ?_
 change awp Tryz.prog ac192 (K192 axes points) _
 obtain ⟨hm0,hs⟩:=hm
 have hm:=hm0
 obtain ⟨k1,⟨k2,k3⟩,k4,k5,⟨k6,k7⟩,⟨k8,k9⟩,k10,k11,k12⟩:=hm
 simp -dsimp [ac192,↓ awpC_of xc192a]
 refine call_p (b184 o) (by simp) (by simp) ?_
 have tk:=takesF_le o
 simp -dsimp [↓ awpC_of xc192a]
 obtain ⟨st,f,hf,q⟩:=b191 m (takesF o) (by omega) (1000000,0) (999990,1) (1000002,0) (1000003,0) (by decide) (by decide) (by decide) (by decide) (by decide) (by decide)
 refine call_m q (by simp) (by simp) (by simp) ?_
 have ht:List.take m.st.length (m.st.map mvRow)=m.st.map mvRow:=List.take_of_length_le (by simp)
 simp -dsimp [ht,↓ awpC_of xc192a]
 refine awpC_in ?_
 by_cases hf0:f=0
 ·obtain ⟨h0,h1⟩:=hf hf0
  have hs':=hs h0
  clear q
  generalize takesF o=t at *
  have w1:R ((m.st.length:Int) - t):=⟨by omega,by omega⟩
  simp -dsimp [xc192a,hf0,wr w1,↓ awpC_of xc192b]
  obtain ⟨v,ev⟩:∃ v:Nat,(m.st.length:Int) - t=v:=⟨m.st.length - t,by omega⟩
  rw [ev]
  refine awpC_in (seqR1 (α:=Int×Int) (fun a=>fr192 { m with steps:=st,failed:=0 } [(3,.ptr (3,0) 2 0 0),(4,.p (.int .i64 t)),(5,.ptr (5,0) 2 0 0),(6,.ptr (6,0) 2 0 0),(7,.p (.int .i64 v))] (m192 o n a (0,0))) SO ?_ ?_)
  ·by_cases ht0:0<t
   ·have hv:v<m.st.length:=by omega
    obtain ⟨⟨u1,u2⟩,eu⟩:∃ u,m.st[v]=u:=⟨_,rfl⟩
    have hso:=k4 (u1,u2) (by rw [←eu];simp)
    simp -dsimp [ht0,hv,eu,mvRow]
    exact hso
   ·simp -dsimp [ht0]
    exact ⟨by decide,by decide,by decide⟩
  ·intro a ha
   refine seqR1 (α:=Int×Int) (fun b=>fr192 { m with steps:=st,failed:=0 } [(3,.ptr (3,0) 2 0 0),(5,.ptr (5,0) 2 0 0),(6,.ptr (6,0) 2 0 0),(7,.p (.int .i64 v))] (m192 o n a b)) SO ?_ ?_
   ·by_cases ht1:(1:Int)<t
    ·obtain ⟨q,eq⟩:∃ q:Nat,(v:Int)+1=q:=⟨v+1,by omega⟩
     have hv:q<m.st.length:=by omega
     obtain ⟨⟨u1,u2⟩,eu⟩:∃ u,m.st[q]=u:=⟨_,rfl⟩
     have hso:=k4 (u1,u2) (by rw [←eu];simp)
     have w2:R (q:Int):=⟨by omega,by omega⟩
     simp -dsimp [ht1,eq,wr w2,hv,eu,mvRow]
     exact hso
    ·simp -dsimp [ht1]
     exact ⟨by decide,by decide,by decide⟩
   ·intro b hb
    have hvl:v≤m.st.length:=by omega
    have t1:List.take m.st.length (m.st.map mvRow)=m.st.map mvRow:=List.take_of_length_le (by simp)
    have:=b192e { m with st:=m.st.take v,steps:=st,failed:=0 } axes points ⟨k1,⟨k2,k3⟩,fun z hz=>k4 z (List.mem_of_mem_take hz),k5,⟨k6,k7⟩,⟨k8,k9⟩,by simp;omega,k11,k12⟩ (by simp;omega) o n hi a b ha hb
    simp -dsimp [xc192d,hvl,t1,↓ awpC_of xc192e]
    exact awpC_in (by simpa -dsimp [hvl,Nat.min_eq_left hvl] using this)
 ·simp -dsimp [xc192a,hf0,K192,retEF]
  exact ⟨{ m with steps:=st,failed:=f },by simp,hm0,fun e=>absurd e hf0⟩
end
section
set_option maxHeartbeats 8000000
attribute [local simp] mcM mcBox
attribute [local simp ↓] oneM
theorem takeM (z:List (Int×Int)):List.take z.length (z.map mvRow)=z.map mvRow:=List.take_of_length_le (by simp)
attribute [local simp ↓] takeM
def mc9 (m:Mc):List (Slot×Blk):=mcM (BIG,0) (999990,1) (BIG+2,0) (BIG+3,0) m
def mc8 (m:Mc):List (Slot×Blk):=mcM (BIG,0) (999980,1) (BIG+2,0) (BIG+3,0) m
def kpM:List Slot:=[(BIG,0),(BIG+2,0),(BIG+3,0)]
attribute [local simp] mc9 mc8 kpM
def RunS (p:List (Int×Int)) (axes points:Nat) (fr:Nat):Prop:=∀ (m:Mc) (to:Nat),m.ok2 axes points→to≤p.length→∃ m':Mc,m'.ok2 axes points ∧
 BestF Tryz.prog 169 (mc9 m) [.ptr (BIG,0) 25 0 0,.p (.sl 2 (p.map mvRow)),.p (.int .i64 fr),.p (.int .i64 to)] kpM (.p (.tup [])) (mc8 m')
def WayS (p:List (Int×Int)) (axes points:Nat) (at_:Nat):Prop:=∀ (m:Mc) (yes:Bool),m.ok2 axes points→∃ m':Mc,m'.ok2 axes points ∧
 BestF Tryz.prog 196 (mc9 m) [.ptr (BIG,0) 25 0 0,.p (.sl 2 (p.map mvRow)),.p (.int .i64 at_),.p (.bool yes)] kpM (.p (.tup [])) (mc8 m')
def BrS (p:List (Int×Int)) (axes points:Nat) (at_:Nat):Prop:=∀ (m:Mc),m.ok2 axes points→∃ m':Mc,m'.ok2 axes points ∧
 BestF Tryz.prog 189 (mc9 m) [.ptr (BIG,0) 25 0 0,.p (.sl 2 (p.map mvRow)),.p (.int .i64 at_)] kpM (.p (.tup [])) (mc8 m')
theorem ok2_begin {m:Mc} {axes points:Nat} (hm:m.ok2 axes points) {st f:Int} {t:Nat} (h:f=0→m.failed=0∧t≤m.st.length):Mc.ok2 { m with steps:=st,failed:=f } axes points:=⟨hm.1,fun e=>hm.2 (h e).1⟩
theorem b196 (p:List (Int×Int)) (hp:p.length≤1000) (axes points at_:Nat) (ha:at_<p.length) (h:∀ fr,at_<fr→fr≤p.length→RunS p axes points fr):WayS p axes points at_:=by
 intro m yes hm
 refine bestEF mixed fn196 ok196 (by simp) (by simp) ?_
 obtain ⟨v1,a1,a2,q1⟩:=b190 p hp at_ ha true
 obtain ⟨v2,b1,b2,q2⟩:=b190 p hp at_ ha false
 have w1:R ((at_:Int)+1):=⟨by omega,by omega⟩
 have w2:R ((v2:Int)+1):=⟨by omega,by omega⟩
 simp -dsimp [ac196]
 refine call_p q1 (by simp) (by simp) ?_
 simp -dsimp
 refine call_p q2 (by simp) (by simp) ?_
 cases yes with
 | true=>
  obtain ⟨m',k1,r1⟩:=h (at_+1) (by omega) (by omega) m v2 hm b2
  obtain ⟨st,f,hf,r2⟩:=b191 m' 0 (by omega) (1000000,0) (999980,1) (1000002,0) (1000003,0) (by decide) (by decide) (by decide) (by decide) (by decide) (by decide)
  simp -dsimp [wr w1]
  refine call_m r1 (by simp) (by simp) (by simp) ?_
  simp -dsimp
  refine call_m r2 (by simp) (by simp) (by simp) ?_
  simp -dsimp [retEF]
  exact ⟨{ m' with steps:=st,failed:=f },by simp,ok2_begin k1 hf⟩
 | false=>
  by_cases hlt:(v2:Int)<v1
  ·obtain ⟨m',k1,r1⟩:=h (v2+1) (by omega) (by omega) m v1 hm a2
   obtain ⟨st,f,hf,r2⟩:=b191 m' 0 (by omega) (1000000,0) (999980,1) (1000002,0) (1000003,0) (by decide) (by decide) (by decide) (by decide) (by decide) (by decide)
   simp -dsimp [wr w2,hlt]
   refine call_m r1 (by simp) (by simp) (by simp) ?_
   simp -dsimp
   refine call_m r2 (by simp) (by simp) (by simp) ?_
   simp -dsimp [retEF]
   exact ⟨{ m' with steps:=st,failed:=f },by simp,ok2_begin k1 hf⟩
  ·simp -dsimp [hlt,retEF]
   exact ⟨m,by simp,hm⟩
end
section
set_option maxHeartbeats 8000000
attribute [local simp] mcM mcBox mc9 mc8 kpM
attribute [local simp ↓] oneM takeM
theorem b197x (m:Mc) (h1:m.st.length≤100000) (h2:m.x.length≤100000) (h3:m.y.length≤100000):BestF Tryz.prog 197 (mcM (BIG,0) (999990,1) (BIG+2,0) (BIG+3,0) m) [.ptr (BIG,0) 25 0 0] [(BIG,0),(999990,1),(BIG+2,0),(BIG+3,0)] (.ptr (999970,0) 25 0 0) (mcM (BIG,0) (999990,1) (BIG+2,0) (BIG+3,0) m++mcM (999970,0) (999971,0) (999972,0) (999973,0) m):=by
 have g:=(b197' m h1 h2 h3).ren (fun t=>if t=(BIG+1,0) then (999990,1) else t) (fun t=>if t=(999990,1) then (BIG+1,0) else t) (by simp) (by simp) (by simp) (by simp) (by simp)
 simpa [rnM,Blk.rnF,AV.rnFL,AV.rnF] using g
def K189 (axes points:Nat):AE→Fr→Prop:=retEF [] (fun _=>.p (.tup [])) (fun m':Mc=>mc8 m') (fun m'=>m'.ok2 axes points)
theorem way2 {p:List (Int×Int)} {axes points at_:Nat} (h:WayS p axes points at_) (m:Mc) (yes:Bool) (hm:m.ok2 axes points):∃ m':Mc,m'.ok2 axes points ∧
 BestF Tryz.prog 196 (mcM (999970,0) (999971,0) (999972,0) (999973,0) m) [.ptr (999970,0) 25 0 0,.p (.sl 2 (p.map mvRow)),.p (.int .i64 at_),.p (.bool yes)] [(999970,0),(999972,0),(999973,0)] (.p (.tup [])) (mcM (999970,0) (999981,1) (999972,0) (999973,0) m'):=by
 obtain ⟨m',h1,h2⟩:=h m yes hm
 refine ⟨m',h1,?_⟩
 have g:=h2.ren (fun t=>if t=(BIG,0) then (999970,0) else if t=(999990,1) then (999971,0) else if t=(999980,1) then (999981,1) else if t=(BIG+2,0) then (999972,0) else if t=(BIG+3,0) then (999973,0) else t)
  (fun t=>if t=(999970,0) then (BIG,0) else if t=(999971,0) then (999990,1) else if t=(999981,1) then (999980,1) else if t=(999972,0) then (BIG+2,0) else if t=(999973,0) then (BIG+3,0) else t) (by simp) (by simp) (by simp) (by simp) (by simp)
 simpa [rnM,Blk.rnF,AV.rnFL,AV.rnF] using g
theorem b199x (m b:Mc) (axes points:Nat) (hm:m.ok axes points) (hb:b.ok axes points) (hl:m.st.length=b.st.length):∃ m':Mc,(m'.ok axes points∧m'.failed=m.failed∧m'.st.length=m.st.length) ∧
  BestF Tryz.prog 199 (mc8 m++mcM (999970,0) (999981,1) (999972,0) (999973,0) b) [.ptr (BIG,0) 25 0 0,.ptr (999970,0) 25 0 0] [(BIG,0),(999980,1),(BIG+2,0),(BIG+3,0)] (.p (.tup [])) (mc8 m'):=by
 obtain ⟨m',h1,h2⟩:=b199' m b axes points hm hb hl
 refine ⟨m',h1,?_⟩
 have g:=h2.ren (fun t=>if t=(BIG+1,0) then (999980,1) else if t=(BIG+4,0) then (999970,0) else if t=(BIG+5,0) then (999981,1) else if t=(BIG+6,0) then (999972,0) else if t=(BIG+7,0) then (999973,0) else t)
  (fun t=>if t=(999980,1) then (BIG+1,0) else if t=(999970,0) then (BIG+4,0) else if t=(999981,1) then (BIG+5,0) else if t=(999972,0) then (BIG+6,0) else if t=(999973,0) then (BIG+7,0) else t) (by simp [mB,mB2]) (by simp [mB]) (by simp) (by simp) (by simp [mB])
 simpa [mB,mB2,rnM,Blk.rnF,AV.rnFL,AV.rnF] using g
theorem b189d (m b:Mc) (axes points:Nat) (hm:m.ok2 axes points) (hb:b.ok2 axes points):awp Tryz.prog xc189d (K189 axes points) ⟨[(0,.ptr (1000000,0) 25 0 0),(7,.ptr (999970,0) 25 0 0)],
  [((999970,0),mcBox (999981,1) (999972,0) (999973,0) b),((999972,0),.sl 130 2 (b.x.map mvRow)),((999973,0),.sl 130 2 (b.y.map mvRow)),((999980,1),.sl 130 2 (m.st.map mvRow)),((999981,1),.sl 130 2 (b.st.map mvRow)),((1000000,0),mcBox (999980,1) (1000002,0) (1000003,0) m),((1000002,0),.sl 130 2 (m.x.map mvRow)),((1000003,0),.sl 130 2 (m.y.map mvRow))]⟩:=by
 have q:=b198 m b.failed (1000000,0) (999980,1) (1000002,0) (1000003,0) (by decide) (by decide) (by decide) (by decide) (by decide) (by decide)
 simp -dsimp [xc189d]
 refine call_m q (by simp) (by simp) (by simp) ?_
 obtain ⟨f,ef⟩:∃ f,(if m.failed=0 then b.failed else m.failed)=f:=⟨_,rfl⟩
 have hf:f=0→m.failed=0:=fun e=>by
  by_cases h:m.failed=0
  ·exact h
  ·rw [if_neg h] at ef;omega
 rw [ef]
 by_cases h0:f=0
 ·have hm0:=hf h0
  by_cases hl:m.st.length=b.st.length
  ·obtain ⟨m',⟨g1,g2,g3⟩,r⟩:=b199x { m with failed:=0 } b axes points hm.1 hb.1 hl
   simp -dsimp [h0,hl]
   refine call_m r (by simp [hl]) (by simp) (by simp) ?_
   simp -dsimp [K189,retEF]
   exact ⟨m',by simp,g1,fun _=>by rw [g3];exact hm.2 hm0⟩
  ·have q2:=b198 { m with failed:=0 } 21 (1000000,0) (999980,1) (1000002,0) (1000003,0) (by decide) (by decide) (by decide) (by decide) (by decide) (by decide)
   rw [if_pos rfl] at q2
   have hl':¬(m.st.length:Int)=b.st.length:=by omega
   simp -dsimp [h0,hl,hl']
   refine call_m q2 (by simp) (by simp) (by simp) ?_
   simp -dsimp [K189,retEF]
   exact ⟨{ m with failed:=21 },by simp,hm.1,fun e=>absurd e (show (21:Int)≠0 by decide)⟩
 ·simp -dsimp [h0,K189,retEF]
  exact ⟨{ m with failed:=f },by simp,hm.1,fun e=>absurd e h0⟩
theorem b189 (p:List (Int×Int)) (axes points at_:Nat) (h:WayS p axes points at_):BrS p axes points at_:=by
 intro m hm
 refine bestEF mixed fn189 ok189 (by simp) (by simp) ?_
 change awp Tryz.prog ac189 (K189 axes points) _
 obtain ⟨st,f,hf,q⟩:=b191 m 1 (by omega) (1000000,0) (999990,1) (1000002,0) (1000003,0) (by decide) (by decide) (by decide) (by decide) (by decide) (by decide)
 simp -dsimp [ac189,↓ awpC_of xc189b]
 refine call_m q (by simp) (by simp) (by simp) ?_
 by_cases hf0:f=0
 ·obtain ⟨h0,h1⟩:=hf hf0
  have hs:=hm.2 h0
  obtain ⟨v,ev⟩:∃ v:Nat,(m.st.length:Int) - 1=v:=⟨m.st.length - 1,by omega⟩
  have hv:v<m.st.length:=by omega
  have hvl:v≤m.st.length:=by omega
  have w1:R (v:Int):=⟨by omega,by omega⟩
  obtain ⟨⟨a1,a2⟩,eu⟩:∃ u,m.st[v]=u:=⟨_,rfl⟩
  obtain ⟨m1,em1⟩:∃ m1:Mc,m1={ m with st:=m.st.take v,steps:=st,failed:=0 }:=⟨_,rfl⟩
  have hm1:m1.ok2 axes points:=by
   obtain ⟨⟨k1,⟨k2,k3⟩,k4,k5,⟨k6,k7⟩,⟨k8,k9⟩,k10,k11,k12⟩,kf⟩:=hm
   subst em1
   exact ⟨⟨k1,⟨k2,k3⟩,fun z hz=>k4 z (List.mem_of_mem_take hz),k5,⟨k6,k7⟩,⟨k8,k9⟩,by simp;omega,k11,k12⟩,fun _=>by simp;omega⟩
  simp -dsimp [hf0,ev,wr w1,hv,hvl,eu,mvRow,↓ awpC_of xc189b]
  have key:awp Tryz.prog xc189b (K189 axes points) ⟨[(0,.ptr (1000000,0) 25 0 0),(1,.p (.sl 2 (p.map mvRow))),(2,.p (.int .i64 at_)),(6,.ptr (6,0) 2 0 0)],
    [((6,0),.box [.p (.int .i64 a1),.p (.int .i64 a2)]),((999990,1),.sl 130 2 (m1.st.map mvRow)),((1000000,0),mcBox (999990,1) (1000002,0) (1000003,0) m1),((1000002,0),.sl 130 2 (m1.x.map mvRow)),((1000003,0),.sl 130 2 (m1.y.map mvRow))]⟩:=by
   clear em1 eu
   by_cases c1:0<a1∨a2<0
   ·obtain ⟨m',g1,g2⟩:=h m1 true hm1
    by_cases c2:0<a1
    ·simp -dsimp [xc189b,c2]
     refine call_m g2 (by simp) (by simp) (by simp) ?_
     simp -dsimp [K189,retEF]
     exact ⟨m',by simp,g1⟩
    ·have c3:a2<0:=by omega
     simp -dsimp [xc189b,c2,c3]
     refine call_m g2 (by simp) (by simp) (by simp) ?_
     simp -dsimp [K189,retEF]
     exact ⟨m',by simp,g1⟩
   ·have c2:¬0<a1:=fun e=>c1 (.inl e)
    have c3:¬a2<0:=fun e=>c1 (.inr e)
    by_cases c4:a1=0∧a2=0
    ·obtain ⟨m',g1,g2⟩:=h m1 false hm1
     obtain ⟨rfl,rfl⟩:=c4
     simp -dsimp [xc189b]
     refine call_m g2 (by simp) (by simp) (by simp) ?_
     simp -dsimp [K189,retEF]
     exact ⟨m',by simp,g1⟩
    ·have c5:(decide (a1=0) && decide (a2=0))=false:=by simpa using c4
     obtain ⟨m2,g1,g2⟩:=h m1 true hm1
     obtain ⟨m3,g3,g4⟩:=way2 h m1 false hm1
     have gc:=b197x m1 (by have:=hm1.1.2.2.2.2.2.2.1;omega) (by have:=hm1.1.2.2.2.2.1.1;have:=hm1.1.2.2.2.2.2.2.2.2;omega) (by have:=hm1.1.2.2.2.2.2.1.1;have:=hm1.1.2.2.2.2.2.2.2.2;omega)
     simp -dsimp [xc189b,c2,c3,c5,xc189c,↓ awpC_of xc189d]
     refine call_m gc (by simp) (by simp) (by simp) ?_
     simp -dsimp [↓ awpC_of xc189d]
     refine call_m g2 (by simp) (by simp) (by simp) ?_
     simp -dsimp [↓ awpC_of xc189d]
     refine call_m g4 (by simp) (by simp) (by simp) ?_
     simp -dsimp [↓ awpC_of xc189d]
     exact awpC_in (b189d m2 m3 axes points g1 g3)
  exact awpC_in (by simpa -dsimp [em1,hvl,Nat.min_eq_left hvl] using key)
 ·simp -dsimp [hf0,K189,retEF]
  exact ⟨{ m with steps:=st,failed:=f },by simp,hm.1,fun e=>absurd e hf0⟩
end
section
set_option maxHeartbeats 8000000
attribute [local simp] mcM mcBox mc9 mc8 kpM
attribute [local simp ↓] oneM takeM
def fr169 (m:Mc) (p:List (Int×Int)) (to a:Nat) (vs:List (Nat×AV)):Fr:=⟨(0,.ptr (1000000,0) 25 0 0) :: (1,.p (.sl 2 (p.map mvRow))) :: (3,.p (.int .i64 to)) :: (8,.p (.int .i64 a)) :: vs,[((999980,1),.sl 130 2 (m.st.map mvRow)),((1000000,0),mcBox (999980,1) (1000002,0) (1000003,0) m),((1000002,0),.sl 130 2 (m.x.map mvRow)),((1000003,0),.sl 130 2 (m.y.map mvRow))]⟩
attribute [local simp] fr169
theorem b169 (p:List (Int×Int)) (hp:p.length≤1000) (axes points fr_:Nat) (hi:∀ x∈p,InsOk axes points x) (hfr:fr_≤p.length) (h:∀ fr,fr_<fr→fr≤p.length→RunS p axes points fr):RunS p axes points fr_:=by
 intro m to hm hto
 refine bestEF mixed fn169 ok169 (by simp) (by simp) ?_
 simp -dsimp [ac169]
 refine loopM (fun (z:Mc×Nat)=>p.length+2 - z.2) (fun z=>fr169 z.1 p to z.2 []) (fun z=>z.1.ok2 axes points∧fr_≤z.2∧z.2≤p.length+1) (m,fr_) (fun z hz=>?_) ⟨hm,Nat.le_refl _,by dsimp only;omega⟩ (by simp)
 clear hm m
 obtain ⟨m,a⟩:=z
 obtain ⟨hm,z1,z2⟩:=hz
 dsimp only at hm z1 z2
 by_cases h1:(a:Int)<to
 ·by_cases h2:m.failed=0
  ·have ha:a<p.length:=by omega
   obtain ⟨⟨o,n⟩,ex⟩:∃ x,p[a]=x:=⟨_,rfl⟩
   have hins:=hi (o,n) (by rw [←ex];simp)
   have wa:R ((a:Int)+1):=⟨by omega,by omega⟩
   by_cases c23:o=23
   ·obtain ⟨m',g1,g2⟩:=b189 p axes points a (b196 p hp axes points a ha (fun fr f1 f2=>h fr (by omega) f2)) m hm
    obtain ⟨v,v1,v2,q⟩:=b190 p hp a ha true
    have wv:R ((v:Int)+1):=⟨by omega,by omega⟩
    simp -dsimp [h1,h2,ha,ex,mvRow,c23]
    refine call_m g2 (by simp [h2]) (by simp) (by simp) ?_
    simp -dsimp
    refine call_p q (by simp) (by simp) ?_
    simp -dsimp [wr wv]
    exact ⟨m',v+1,by omega,⟨g1,by omega,by omega⟩,by simp⟩
   ·by_cases c26:o=26
    ·obtain ⟨v,v1,v2,q⟩:=b190 p hp a ha true
     obtain ⟨st,f,hf,r2⟩:=b191 m 0 (by omega) (1000000,0) (999990,1) (1000002,0) (1000003,0) (by decide) (by decide) (by decide) (by decide) (by decide) (by decide)
     have hm1:=ok2_begin (st:=st) hm hf
     have wv:R ((v:Int)+1):=⟨by omega,by omega⟩
     obtain ⟨n1,n2⟩:=hins.2.2.2.2.2.2 c26
     dsimp only at n1 n2
     simp -dsimp [h1,h2,ha,ex,mvRow,c26,xc169b]
     refine call_p q (by simp) (by simp) ?_
     simp -dsimp [xc169b]
     refine call_m r2 (by simp [h2]) (by simp) (by simp) ?_
     simp -dsimp [xc169b]
     refine loopE n.toNat (fun k (z:Mc)=>fr169 z p to a [(9,.p (.int .i64 v)),(10,.p (.int .i64 k))]) (fun _ z=>z.ok2 axes points) { m with steps:=st,failed:=f } (fun k z hk hz=>?_) hm1 (by simp)
     by_cases hkn:(k:Int)<n
     ·have wk:R ((k:Int)+1):=⟨by omega,by omega⟩
      obtain ⟨m',k1,r1⟩:=h (a+1) (by omega) (by omega) z v hz v2
      obtain ⟨st,f,hf,r2⟩:=b191 m' 0 (by omega) (1000000,0) (999980,1) (1000002,0) (1000003,0) (by decide) (by decide) (by decide) (by decide) (by decide) (by decide)
      simp -dsimp [hkn,ha,ex,mvRow,wr wa]
      refine call_m r1 (by simp) (by simp) (by simp) ?_
      simp -dsimp
      refine call_m r2 (by simp) (by simp) (by simp) ?_
      simp -dsimp [wr wk]
      exact ⟨by omega,{ m' with steps:=st,failed:=f },ok2_begin k1 hf,by simp⟩
     ·simp -dsimp [hkn,ha,ex,mvRow,wr wv]
      exact ⟨z,v+1,by omega,⟨hz,by omega,by omega⟩,by simp⟩
    ·obtain ⟨m',g1,g2⟩:=b192' m axes points hm o n hins
     simp -dsimp [h1,h2,ha,ex,mvRow,c23,c26]
     refine call_m g2 (by simp [h2]) (by simp) (by simp) ?_
     simp -dsimp [wr wa]
     exact ⟨m',a+1,by omega,⟨g1,by omega,by omega⟩,by simp⟩
  ·simp -dsimp [h1,h2,retEF]
   exact ⟨m,by simp,hm⟩
 ·simp -dsimp [h1,retEF]
  exact ⟨m,by simp,hm⟩
theorem runS (p:List (Int×Int)) (hp:p.length≤1000) (axes points:Nat) (hi:∀ x∈p,InsOk axes points x):∀ fr,fr≤p.length→RunS p axes points fr:=by
 have key:∀ n fr,p.length - fr=n→fr≤p.length→RunS p axes points fr:=by
  intro n
  induction n using Nat.strongRecOn with
  | _ n ih=>exact fun fr e hle=>b169 p hp axes points fr hi hle fun fr' h1 h2=>ih (p.length - fr') (by omega) fr' rfl h2
 exact fun fr h=>key _ fr rfl h
end
section
def ac97:AC:=by
 apply fun (y:AC) (_:@Eq AC (let e0:=[1,7,8,10,11];let e1:=[1,2,7,8,9];let e2:=[3,3,0,1,2,3];(qk [0,1,2] (qs (qr [(qp 6 (.mov (.c .nsl)))]) (qk [0,1,2] (qs (qr [(ym 14 0),(ym 15 1),(ym 16 2),(qi 17 (.call 134 [.v 14,.v 15,.v 16]) [0,1,2]),(yn 7 17 e2)]) (qk [1,2,7] (qs (qr [(qp 8 (.mov (.c .nsl)))]) (.ghost (.own 8 26 185 4) (qk [1,2,7,8] (qs (qs (qr [(qp 9 (.mov (qz 0)))]) (qk e1 (.block 0 (.loop (qk e1 (qs (qs (qr [(ym 18 9),(ym 19 2),(yb 20 .lss 18 19 [0,1])]) (qk [1,2,7,8,9,20] (qq (.v 20) .skip (.exit 0)))) (qk e1 (qs (.block 1 (qr [(ym 23 8),(qp 24 (.build [.int .i64 0,.int .i64 0,.int .i64 0,.int .i64 0] [(0,1,.c (.int .i64 (-20480))),(1,1,.c (.int .i64 (-20480))),(2,1,.c (.int .i64 20480)),(3,1,.c (.int .i64 20480))])),(qi 25 (.bslice 185 4 1 [.int .i64 0,.int .i64 0,.int .i64 0,.int .i64 0] [(0,4,.v 24)]) [1]),(qi 26 (.app 185 4 32 (.v 23) (.v 25)) [0,2]),(yn 8 26 e2)])) (qk e1 (.ghost (.canV 8 (26,0)) (qr [(ym 21 9),(yc 22 .add 21 (qz 1) [0]),(yn 9 22 [1,0,1])]))))))))))) (qk [1,7,8] (qs (qr [(qp 10 (.mov (.c .nsl)))]) (.ghost (.own 10 35 130 2) (qk [1,7,8,10] (qs (qs (qr [(qp 11 (.mov (qz 0)))]) (qk e0 (.block 2 (.loop (qk e0 (qs (qs (qr [(ym 27 11),(ym 28 1),(yb 29 .lss 27 28 [0,1])]) (qk [1,7,8,10,11,29] (qq (.v 29) .skip (.exit 2)))) (qk e0 (qs (.block 3 (qr [(ym 32 10),(qp 33 (.build [.int .i64 0,.int .i64 0] [(0,1,.c (.int .i64 (-64))),(1,1,.c (.int .i64 64))])),(qi 34 (.bslice 130 2 1 [.int .i64 0,.int .i64 0] [(0,2,.v 33)]) [1]),(qi 35 (.app 130 2 16 (.v 32) (.v 34)) [0,2]),(yn 10 35 e2)])) (qk e0 (.ghost (.canV 10 (35,0)) (qr [(ym 30 11),(yc 31 .add 30 (qz 1) [0]),(yn 11 31 [1,0,1])]))))))))))) (qk [7,8,10] (qs (qr [(ym 37 7),(ym 38 8),(qp 39 (.build [.int .i64 0,.int .i64 0] [(0,1,.c (.int .i64 4)),(1,1,.c (.int .i64 32))])),(ym 40 10),(qi 41 (.call 135 [.v 37,.v 38,.v 39,.v 40]) [0,1,2,3]),(yn 36 41 [4]),(qi 42 (.ext (.v 36) 0) [5]),(qi 43 (.ext (.v 36) 1) [5]),(qp 12 (.alloc [.int .i64 0,.int .i64 0])),(qo (.store 2 (.v 12) (.v 42)) [8,6,4,0,1,2,3,4,5,6,8]),(yn 13 43 [7,9,0,1,2,3,4,5,6,7,8,9])]) (qk [7,13] (qs (qs (qr [(ym 44 13),(yc 45 .neq 44 (qz 0) [0])]) (qk [7,45] (qq (.v 45) (qs (qr [(qp 6 (.mov (.c .nsl)))]) (qk [6] (.ghost (.zsl 6 2) .ret))) .skip))) (qk [7] (qs (qr [(ym 46 7),(yn 6 46 [0,0])]) (qk [6] (.ghost (.zsl 6 2) .ret))))))))))))))))))))))) y)=>y
 dsimp
theorem fn97:factOf Tryz.prog 97=some (ac97.strip,[.tmp 6],47):=by kernel_rfl
theorem ok97:ac97.okAll=true:=by kernel_rfl
def xc55b:AC:=by
 apply fun (y:AC) (_:@Eq AC (qr [(ym 41 9),(qp 42 (qt 8 12)),(qi 43 (.bslice 144 8 1 [.nsl,.nsl,.int .i64 0,.int .i64 0,.int .i64 0,.int .i64 0,.nsl,.nsl] [(0,8,.v 42)]) [1]),(qi 44 (.app 144 8 128 (.v 41) (.v 43)) [0,2]),(yn 9 44 [3,3,0,1,2,3])]) y)=>y
 dsimp
def ac55:AC:=by
 apply fun (y:AC) (_:@Eq AC (let e0:=[28,32,33,34,36,37,38];let e1:=[28,29,30,31,36,37,38];let e2:=[0,1,2,3,9,10];let e3:=[28,29,30,31,32,33,34,35,36];let e4:=[0,1,2,3];let e5:=[38];let e6:=[0,1,2,3,4,5,6,7,8];(qk e4 (qs (qr [(qp 8 (.mov (.c .nsl)))]) (qk e4 (qs (qr [(qp 9 (.mov (.c .nsl)))]) (.ghost (.own 9 44 144 8) (qk [0,1,2,3,9] (qs (qs (qr [(qp 10 (.mov (qz 0)))]) (qk e2 (.block 0 (.loop (qk e2 (qs (qs (qr [(ym 13 10),(ym 14 1),(yb 15 .lss 13 14 [0,1])]) (qk [0,1,2,3,9,10,15] (qq (.v 15) .skip (.exit 0)))) (qk e2 (qs (.block 1 (qs (qr [(ym 18 0),(ym 19 10),(qi 20 (.bin .add (qz 3) (.v 19)) [1]),(qi 21 (.call 49 [.v 18,.v 20]) [0,2]),(yn 11 21 [3,3,0,1,2,3])]) (qk [0,1,2,3,9,10,11] (qs (qr [(ym 22 11),(ym 23 3),(qi 24 (.call 96 [.v 22,.v 23]) [0,1]),(qp 12 (.alloc [.nsl,.nsl,.int .i64 0,.int .i64 0,.int .i64 0,.int .i64 0,.nsl,.nsl])),(qo (.store 8 (.v 12) (.v 24)) [3,2,2,0,1,2,3])]) (qk [0,1,2,3,9,10,11,12] (qs (qs (qr [(ym 25 10),(yc 26 .rem 25 (qz 3) [0]),(yc 27 .eql 26 (qz 1) [1])]) (qk [0,1,2,3,9,10,11,12,27] (qq (.v 27) (qd [(qa (ym 28 11) [29,30,31,32,33,34,36,37,38] e5 [] [] 2),(qa (ym 29 11) e0 e5 [] [0] 2),(qa (yh 30 29 [1]) e0 e5 [] [0] 2),(qa (qi 31 (.mm false (.v 30) (qz 5)) [2]) e0 e5 [] [0] 2),(qa (ym 32 11) e1 e5 [] e4 2),(qa (yh 33 32 [4]) e1 e5 [] e4 2),(qa (qi 34 (.mm false (.v 33) (qz 11)) [5]) e1 e5 [] e4 2),(qa (qi 35 (.slcV 1 (.v 28) (some (.v 31)) (some (.v 34))) [0,3,6]) [36,37,38] e5 [] [] 2),(qa (ym 36 2) [28,29,30,31,32,33,34,35,37,38] e5 [] [0,1,2,3,4,5,6,7] 2),(qe (qp 37 (qt 8 12)) e3 e6 2),(qa (qi 38 (.call 98 [.v 37]) [9]) e3 [] e5 e6 1),(qa (qi 39 (.call 97 [.v 35,.v 36,.v 38]) [7,8,10,10]) [] [] [39] [] 1),(qe (yf 40 7 12 [0,1,2,3,4,5,6,7,8,9,10,11]) [] [] 2),(qa (qo (.store 1 (.v 40) (.v 39)) [12,11,11,0,1,2,3,4,5,6,7,8,9,10,11]) [] [] [12] [] 1)]) .skip))) (qk [0,1,2,3,9,10,12] xc55b))))))) (qk e2 (.ghost (.canV 9 (44,0)) (qr [(ym 16 10),(yc 17 .add 16 (qz 1) [0]),(yn 10 17 [1,0,1])]))))))))))) (qk [9] (qs (qr [(ym 45 9),(yn 8 45 [0,0])]) (qk [8] .ret))))))))))) y)=>y
 dsimp
theorem fn55:factOf Tryz.prog 55=some (ac55.strip,[.tmp 8],46):=by kernel_rfl
theorem ok55:ac55.okAll=true:=by kernel_rfl
def xc135c:AC:=by
 apply fun (y:AC) (_:@Eq AC (let e0:=[105,106,107,108];let e1:=[101,102,103,104];let e2:=[0,1,2,3];(qs (qr [(ym 76 0),(ym 77 3),(yh 78 77 [1]),(ym 79 1),(yh 80 79 [3]),(qi 81 (.call 168 [.v 76,.v 78,.v 80]) [0,2,4]),(yn 13 81 [5,5,0,1,2,3,4,5])]) (qk [0,8,10,13] (qs (qs (qr [(ym 82 13),(yc 83 .neq 82 (qz 0) [0])]) (qk [0,8,10,13,83] (qq (.v 83) (qs (qr [(qp 84 (.build [.int .i64 0,.int .i64 0] [])),(ym 85 13),(qo (.store 2 (.v 8) (.v 84)) [0,0]),(yn 9 85 [1,2,0,1,2])]) (qk [8,9] .ret)) .skip))) (qk [0,8,10] (qs (qr [(ym 86 10),(ym 87 0),(ym 88 0),(yh 89 88 [2]),(qi 90 (.call 169 [.v 86,.v 87,.c (.int .i64 0),.v 89]) [0,1,3])]) (qk [8,10] (qs (qs (qr [(ym 91 10),(qi 92 (.nilck (.v 91)) [0]),(yf 93 24 92 [1]),(yk 94 93 [2]),(yc 95 .neq 94 (qz 0) [3])]) (qk [8,10,95] (qq (.v 95) (qs (qd [(qe (qp 96 (.build [.int .i64 0,.int .i64 0] [])) [97,98,99,100] [] 2),(qa (ym 97 10) [96] [8] [] [0] 2),(qa (qi 98 (.nilck (.v 97)) [1]) [96] [8] [] [0] 2),(qa (yf 99 24 98 [2]) [96] [8] [] [0] 2),(qa (yk 100 99 [3]) [96] [8] [] [0] 0),(qa (qo (.store 2 (.v 8) (.v 96)) [0,0]) [97,98,99,100] [] [8] [1,2,3,4] 1),(qe (yn 9 100 [4,5,0,1,2,3,4,5]) [] [] 2)]) (qk [8,9] .ret)) .skip))) (qk [8,10] (qs (qd [(qe (ym 101 10) e0 [] 2),(qe (qi 102 (.nilck (.v 101)) [0]) e0 [] 2),(qe (yf 103 22 102 [1]) e0 [] 2),(qe (yk 104 103 [2]) e0 [] 2),(qe (ym 105 10) e1 e2 2),(qe (qi 106 (.nilck (.v 105)) [4]) e1 e2 2),(qe (yf 107 23 106 [5]) e1 e2 2),(qe (yk 108 107 [6]) e1 e2 2),(qe (qi 109 (.build [.int .i64 0,.int .i64 0] [(0,1,.v 104),(1,1,.v 108)]) [3,7]) [] [] 2),(qa (qo (.store 2 (.v 8) (.v 109)) [8,0,1,2,3,4,5,6,7,8]) [] [] [8] [] 1),(qe (qi 9 (.mov (qz 0)) [9,0,1,2,3,4,5,6,7,8,9]) [] [] 2)]) (qk [8,9] .ret))))))))))) y)=>y
 dsimp
def xc135b:AC:=by
 apply fun (y:AC) (_:@Eq AC (let e0:=[15,21,45,58,59,72,73,81,90,999970,999971,999972,999973,999980,999981,999982,999983,999990,999991,999992,999993,1000000,1000001,1000002,1000003,1000004,1000005,1000006,1000007];let e1:=[0,1,2,3,4];let e2:=[48,53,54,55,56,57,58];let e3:=[62,67,68,69,70,71,72];let e4:=[13,11,11,0,1,2,3,4,5,6,7,8,9,10,11];let e5:=[0,1,3,8,10,11];let e6:=[0,1,2,3,4,5,6];let e7:=[12,0,1,2,3,4,5,6,7,8,9,10,11];let e8:=[0,0,1,2,3,4,5,6,7,8,9,10,11];let e9:=[0,1,3,8,10,11,12];let e10:=[48,49,50,51,52,55,56];let e11:=[48,49,50,51,52,53,54];let e12:=[62,63,64,65,66,69,70];let e13:=[62,63,64,65,66,67,68];(qs (qs (qr [(qp 11 (.mov (qz 0)))]) (qk e5 (.block 0 (.loop (qk e5 (qs (qs (qr [(ym 34 11),(ym 35 1),(yh 36 35 [1]),(yb 37 .lss 34 36 [0,2])]) (qk [0,1,3,8,10,11,37] (qq (.v 37) .skip (.exit 0)))) (qk e5 (qs (.block 1 (qs (qr [(ym 40 1),(ym 41 11),(yj 42 4 40 41 [0,1]),(qi 43 (qt 4 42) [2]),(qp 12 (.alloc [.int .i64 0,.int .i64 0,.int .i64 0,.int .i64 0])),(qo (.store 4 (.v 12) (.v 43)) [4,3,0,1,2,3,4])]) (qk e9 (qs (qs (qr [(qp 44 (qt 4 12)),(qi 45 (.call 167 [.v 44]) [0]),(qi 46 (.un .not (.v 45)) [1])]) (qk [0,1,3,8,10,11,12,46] (qq (.v 46) (qs (qr [(qp 47 (.build [.int .i64 0,.int .i64 0] [])),(qo (.store 2 (.v 8) (.v 47)) [0,0]),(qi 9 (.mov (qz 1)) [1,0,1])]) (qk [8,9] .ret)) .skip))) (qk e9 (qs (qd [(qa (ym 48 10) [49,50,51,52,53,54,55,56,57,58,59] e0 [] [] 2),(qa (ym 49 10) e2 [58] [] [0] 2),(qa (qi 50 (.nilck (.v 49)) [1]) e2 [58] [] [0] 2),(qa (yf 51 20 50 [2]) e2 [58] [] [0] 2),(qa (yk 52 51 [3]) e2 [58] [] [0] 0),(qe (qp 53 (.iaddrA 1 4 (.v 12) (qz 0))) e10 e1 2),(qe (yk 54 53 [5]) e10 e1 2),(qe (qp 55 (.iaddrA 1 4 (.v 12) (qz 2))) e11 e6 2),(qe (yk 56 55 [7]) e11 e6 2),(qe (qi 57 (.build [.int .i64 0,.int .i64 0] [(0,1,.v 54),(1,1,.v 56)]) [6,8]) [48,49,50,51,52] e1 2),(qa (qi 58 (.bslice 130 2 1 [.int .i64 0,.int .i64 0] [(0,2,.v 57)]) [9]) [48,49,50,51,52] [] [58] e1 1),(qa (qi 59 (.app 130 2 16 (.v 52) (.v 58)) [4,10]) [48] [] e0 [0] 1),(qe (qi 60 (.nilck (.v 48)) e8) [] [] 2),(qe (yf 61 20 60 e7) [] [] 2),(qa (qo (.store 1 (.v 61) (.v 59)) e4) [] [] [33] [] 1)]) (qk e9 (qd [(qa (ym 62 10) [63,64,65,66,67,68,69,70,71,72,73] e0 [] [] 2),(qa (ym 63 10) e3 [72] [] [0] 2),(qa (qi 64 (.nilck (.v 63)) [1]) e3 [72] [] [0] 2),(qa (yf 65 21 64 [2]) e3 [72] [] [0] 2),(qa (yk 66 65 [3]) e3 [72] [] [0] 0),(qe (qp 67 (.iaddrA 1 4 (.v 12) (qz 1))) e12 e1 2),(qe (yk 68 67 [5]) e12 e1 2),(qe (qp 69 (.iaddrA 1 4 (.v 12) (qz 3))) e13 e6 2),(qe (yk 70 69 [7]) e13 e6 2),(qe (qi 71 (.build [.int .i64 0,.int .i64 0] [(0,1,.v 68),(1,1,.v 70)]) [6,8]) [62,63,64,65,66] e1 2),(qa (qi 72 (.bslice 130 2 1 [.int .i64 0,.int .i64 0] [(0,2,.v 71)]) [9]) [62,63,64,65,66] [] [72] e1 1),(qa (qi 73 (.app 130 2 16 (.v 66) (.v 72)) [4,10]) [62] [] e0 [0] 1),(qe (qi 74 (.nilck (.v 62)) e8) [] [] 2),(qe (yf 75 21 74 e7) [] [] 2),(qa (qo (.store 1 (.v 75) (.v 73)) e4) [] [] [33] [] 1)])))))))) (qk e5 (.ghost (.canC (33,0) 21 (999993,1)) (.ghost (.canC (33,0) 20 (999992,1)) (qr [(ym 38 11),(yc 39 .add 38 (qz 1) [0]),(yn 11 39 [1,0,1])])))))))))))) (qk [0,1,3,8,10] xc135c))) y)=>y
 dsimp
def ac135:AC:=by
 apply fun (y:AC) (_:@Eq AC (qk [0,1,2,3] (qs (qr [(qp 6 (.box (.v 2))),(qp 8 (.alloc [.int .i64 0,.int .i64 0])),(qp 9 (.mov (qz 0)))]) (qk [0,1,3,6,8] (qs (qs (qr [(qp 14 (qt 2 6)),(qi 15 (.call 165 [.v 14]) [0]),(qi 16 (.un .not (.v 15)) [1]),(yn 17 16 [2,1]),(qg 18 (qm 3) 17 false [3]),(qg 19 (qm 3) 17 false [3]),(qg 20 (qn 19) 17 false [5,3]),(qg 21 (.call 166 [.v 18,.v 20]) 17 false [4,6,3,3]),(qg 22 (.un .not (.v 21)) 17 false [7,3]),(qi 23 (.pick (.v 17) (.c (.bool true)) (.v 22)) [3,8]),(yn 24 23 [9,7]),(qg 25 (qm 1) 24 false [10]),(qg 26 (qn 25) 24 false [11,10]),(qg 27 (qc .gtr 26 (qz 40)) 24 false [12,10]),(qi 28 (.pick (.v 24) (.c (.bool true)) (.v 27)) [10,13])]) (qk [0,1,3,6,8,28] (qq (.v 28) (qs (qr [(qp 29 (.build [.int .i64 0,.int .i64 0] [])),(qo (.store 2 (.v 8) (.v 29)) [0,0]),(qi 9 (.mov (qz 1)) [1,0,1])]) (qk [8,9] .ret)) .skip))) (qk [0,1,3,6,8] (qs (qr [(qp 30 (qt 2 6)),(ym 31 3),(qi 32 (.build [.int .i64 0,.int .i64 0,.nsl,.nsl,.int .i64 0,.int .i64 0,.int .i64 0,.int .i64 0,.int .i64 0,.int .i64 0,.int .i64 0,.int .i64 0,.int .i64 0,.int .i64 0,.int .i64 0,.int .i64 0,.int .i64 0,.int .i64 0,.int .i64 0,.int .i64 0,.nsl,.nsl,.int .i64 0,.int .i64 0,.int .i64 0] [(0,2,.v 30),(2,1,.v 31)]) [0,1]),(qi 33 (.box (.v 32)) [2]),(yn 10 33 [3,0,1,2,3])]) (qk [0,1,3,8,10] (.ghost (.ownC (33,0) 21 (999993,1) 130 2) (.ghost (.ownC (33,0) 20 (999992,1) 130 2) (.ghost (.ownC (33,0) 3 (999990,1) 130 2) xc135b)))))))))) y)=>y
 dsimp
theorem fn135:factOf Tryz.prog 135=some (ac135.strip,[.cell 8 true 2,.tmp 9],110):=by kernel_rfl
theorem ok135:ac135.okAll=true:=by kernel_rfl
end
end Go.Abs.A29
