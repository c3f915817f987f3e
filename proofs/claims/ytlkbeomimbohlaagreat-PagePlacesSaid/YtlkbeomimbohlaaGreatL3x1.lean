/- A part of the proof: an abstract reading of the model, contracts of functions. -/
import Derived.Test.YtlkbeomimbohlaaGreatC17
import Derived.Test.YtlkbeomimbohlaaGreatChecked
import Derived.Lib.Builder
import Derived.Lib.AppendStr
import Derived.Lib.Walk
import Derived.Lib.UnsafeStr
import Derived.WalkKit
import Derived.Laws.Externs
import Derived.Laws.IdiomCopy
import Derived.Shelf.RegionOpenPlain
import Derived.Shelf.Strings.Repeat
import Derived.Test.YtlkbeomimbohlaaGreatProg
import Derived.OpenShut
import Derived.Deep.Slices
import Derived.WideShapes
import Derived.Carry
import Derived.DataElems
import Derived.Test.YtlkbeomimbohlaaGreatRows
import Derived.ChangeSame
import Derived.ChangeVars
import Derived.JoinedOf
import Derived.RowKit
import Derived.RowKitTokens
import Derived.Stop.Joined
import Derived.ProofKit
import Derived.SizedLaws
import Derived.WitnessAt
set_option linter.unusedVariables false
set_option linter.unusedSimpArgs false
namespace Go.Abs.A30
open Go Go.Abs Go.Proofs
set_option maxRecDepth 100000
set_option maxHeartbeats 4000000
def ac201:AC:=by
 apply fun (y:AC) (_:@Eq AC (anF Tryz.prog 201 mu1 [] 0 0 []) y)=>y
 conv=>lhs;reduce;dsimp
theorem fn201:factOf Tryz.prog 201=some (ac201.strip,[.tmp 8,.tmp 9],91):=by kernel_rfl
theorem ok201:ac201.okAll=true:=by kernel_rfl
def ac234:AC:=by
 apply fun (y:AC) (_:@Eq AC (anF Tryz.prog 234 mu1 [] 0 0 []) y)=>y
 conv=>lhs;reduce;dsimp
theorem fn234:factOf Tryz.prog 234=some (ac234.strip,[.tmp 4],33):=by kernel_rfl
theorem ok234:ac234.okAll=true:=by kernel_rfl
def ac235:AC:=by
 apply fun (y:AC) (_:@Eq AC (anF Tryz.prog 235 mu1 [] 0 0 []) y)=>y
 conv=>lhs;reduce;dsimp
theorem fn235:factOf Tryz.prog 235=some (ac235.strip,[.tmp 4,.tmp 5],24):=by kernel_rfl
theorem ok235:ac235.okAll=true:=by kernel_rfl
def ac236:AC:=by
 apply fun (y:AC) (_:@Eq AC (anF Tryz.prog 236 mu1 [] 0 0 []) y)=>y
 conv=>lhs;reduce;dsimp
theorem fn236:factOf Tryz.prog 236=some (ac236.strip,[.cell 4 true 2],45):=by kernel_rfl
theorem ok236:ac236.okAll=true:=by kernel_rfl
def ac261:AC:=by
 apply fun (y:AC) (_:@Eq AC (anF Tryz.prog 261 mu1 [] 0 0 []) y)=>y
 conv=>lhs;reduce;dsimp
theorem fn261:factOf Tryz.prog 261=some (ac261.strip,[.tmp 2],40):=by kernel_rfl
theorem ok261:ac261.okAll=true:=by kernel_rfl
def ac262:AC:=by
 apply fun (y:AC) (_:@Eq AC (anF Tryz.prog 262 mu1 [] 0 0 []) y)=>y
 conv=>lhs;reduce;dsimp
theorem fn262:factOf Tryz.prog 262=some (ac262.strip,[.tmp 2],31):=by kernel_rfl
theorem ok262:ac262.okAll=true:=by kernel_rfl
def ac263:AC:=by
 apply fun (y:AC) (_:@Eq AC (anF Tryz.prog 263 mu1 [] 0 0 []) y)=>y
 conv=>lhs;reduce;dsimp
theorem fn263:factOf Tryz.prog 263=some (ac263.strip,[.cell 4 true 2,.tmp 5],43):=by kernel_rfl
theorem ok263:ac263.okAll=true:=by kernel_rfl
def ac264:AC:=by
 apply fun (y:AC) (_:@Eq AC (anF Tryz.prog 264 mu1 [] 0 0 []) y)=>y
 conv=>lhs;reduce;dsimp
theorem fn264:factOf Tryz.prog 264=some (ac264.strip,[.cell 4 true 2],62):=by kernel_rfl
theorem ok264:ac264.okAll=true:=by kernel_rfl
def ac273:AC:=by
 apply fun (y:AC) (_:@Eq AC (anF Tryz.prog 273 mu1 [] 0 0 []) y)=>y
 conv=>lhs;reduce;dsimp
theorem fn273:factOf Tryz.prog 273=some (ac273.strip,[.tmp 4],14):=by kernel_rfl
theorem ok273:ac273.okAll=true:=by kernel_rfl
def ac151:AC:=by
 apply fun (y:AC) (_:@Eq AC (anF Tryz.prog 151 mu1 [] 0 0 []) y)=>y
 conv=>lhs;reduce;dsimp
theorem fn151:factOf Tryz.prog 151=some (ac151.strip,[.tmp 2],8):=by kernel_rfl
theorem ok151:ac151.okAll=true:=by kernel_rfl
def ac190:AC:=by
 apply fun (y:AC) (_:@Eq AC (anF Tryz.prog 190 mu1 [] 0 0 []) y)=>y
 conv=>lhs;reduce;dsimp
theorem fn190:factOf Tryz.prog 190=some (ac190.strip,[.tmp 2],25):=by kernel_rfl
theorem ok190:ac190.okAll=true:=by kernel_rfl
def ac90:AC:=by
 apply fun (y:AC) (_:@Eq AC (anF Tryz.prog 90 mu1 [] 0 0 []) y)=>y
 conv=>lhs;reduce;dsimp
theorem fn90:factOf Tryz.prog 90=some (ac90.strip,[.tmp 2],9):=by kernel_rfl
theorem ok90:ac90.okAll=true:=by kernel_rfl
def ac47:AC:=by
 apply fun (y:AC) (_:@Eq AC (anF Tryz.prog 47 mu1 [] 0 0 []) y)=>y
 conv=>lhs;reduce;dsimp
theorem fn47:factOf Tryz.prog 47=some (ac47.strip,[.tmp 2],23):=by kernel_rfl
theorem ok47:ac47.okAll=true:=by kernel_rfl
def ac93:AC:=by
 apply fun (y:AC) (_:@Eq AC (anF Tryz.prog 93 mu1 [] 0 0 []) y)=>y
 conv=>lhs;reduce;dsimp
theorem fn93:factOf Tryz.prog 93=some (ac93.strip,[.cell 4 true 3],17):=by kernel_rfl
theorem ok93:ac93.okAll=true:=by kernel_rfl
def ac20:AC:=by
 apply fun (y:AC) (_:@Eq AC (anF Tryz.prog 20 mu1 [] 0 0 []) y)=>y
 conv=>lhs;reduce;dsimp
theorem fn20:factOf Tryz.prog 20=some (ac20.strip,[.tmp 2],16):=by kernel_rfl
theorem ok20:ac20.okAll=true:=by kernel_rfl
def ac166:AC:=by
 apply fun (y:AC) (_:@Eq AC (anD [⟨2,[],[.ownC (5,0) 1 (34,1) 3 1],none⟩,⟨10,[],[.canC (5,0) 1 (34,1)],none⟩] (anF Tryz.prog 166 mu1 [] 0 0 [])) y)=>y
 conv=>lhs;reduce;dsimp
theorem fn166:factOf Tryz.prog 166=some (ac166.strip,[.cell 4 true 3],37):=by kernel_rfl
theorem ok166:ac166.okAll=true:=by kernel_rfl
def ac36:AC:=by
 apply fun (y:AC) (_:@Eq AC (anF Tryz.prog 36 mu1 [] 0 0 []) y)=>y
 conv=>lhs;reduce;dsimp
theorem fn36:factOf Tryz.prog 36=some (ac36.strip,[.tmp 2],53):=by kernel_rfl
theorem ok36:ac36.okAll=true:=by kernel_rfl
def ac81:AC:=by
 apply fun (y:AC) (_:@Eq AC (anF Tryz.prog 81 mu1 [] 0 0 []) y)=>y
 conv=>lhs;reduce;dsimp
theorem fn81:factOf Tryz.prog 81=some (ac81.strip,[.tmp 6],15):=by kernel_rfl
theorem ok81:ac81.okAll=true:=by kernel_rfl
def ac125:AC:=by
 apply fun (y:AC) (_:@Eq AC (anF Tryz.prog 125 mu1 [] 0 0 []) y)=>y
 conv=>lhs;reduce;dsimp
theorem fn125:factOf Tryz.prog 125=some (ac125.strip,[.tmp 4],10):=by kernel_rfl
theorem ok125:ac125.okAll=true:=by kernel_rfl
def ac82:AC:=by
 apply fun (y:AC) (_:@Eq AC (anF Tryz.prog 82 mu1 [] 0 0 []) y)=>y
 conv=>lhs;reduce;dsimp
theorem fn82:factOf Tryz.prog 82=some (ac82.strip,[.tmp 2],28):=by kernel_rfl
theorem ok82:ac82.okAll=true:=by kernel_rfl
def ac74:AC:=by
 apply fun (y:AC) (_:@Eq AC (anF Tryz.prog 74 mu1 [] 0 0 []) y)=>y
 conv=>lhs;reduce;dsimp
theorem fn74:factOf Tryz.prog 74=some (ac74.strip,[.tmp 6],42):=by kernel_rfl
theorem ok74:ac74.okAll=true:=by kernel_rfl
def ac37:AC:=by
 apply fun (y:AC) (_:@Eq AC (anF Tryz.prog 37 mu1 [] 0 0 []) y)=>y
 conv=>lhs;reduce;dsimp
theorem fn37:factOf Tryz.prog 37=some (ac37.strip,[.tmp 4],42):=by kernel_rfl
theorem ok37:ac37.okAll=true:=by kernel_rfl
def ac75:AC:=by
 apply fun (y:AC) (_:@Eq AC (anF Tryz.prog 75 mu1 [] 0 0 []) y)=>y
 conv=>lhs;reduce;dsimp
theorem fn75:factOf Tryz.prog 75=some (ac75.strip,[.tmp 4],12):=by kernel_rfl
theorem ok75:ac75.okAll=true:=by kernel_rfl
def ac128:AC:=by
 apply fun (y:AC) (_:@Eq AC (anF Tryz.prog 128 mu1 [] 0 0 []) y)=>y
 conv=>lhs;reduce;dsimp
theorem fn128:factOf Tryz.prog 128=some (ac128.strip,[.tmp 4,.tmp 5],17):=by kernel_rfl
theorem ok128:ac128.okAll=true:=by kernel_rfl
def ac77:AC:=by
 apply fun (y:AC) (_:@Eq AC (anF Tryz.prog 77 mu1 [] 0 0 []) y)=>y
 conv=>lhs;reduce;dsimp
theorem fn77:factOf Tryz.prog 77=some (ac77.strip,[.tmp 4],25):=by kernel_rfl
theorem ok77:ac77.okAll=true:=by kernel_rfl
def ac164:AC:=by
 apply fun (y:AC) (_:@Eq AC (anD [⟨7,[],[.zslC (4,0) 3 2],none⟩,⟨10,[],[.zslC (4,0) 3 2],none⟩] (anF Tryz.prog 164 mu1 [] 0 0 [])) y)=>y
 conv=>lhs;reduce;dsimp
theorem fn164:factOf Tryz.prog 164=some (ac164.strip,[.cell 4 true 4,.tmp 5],28):=by kernel_rfl
theorem ok164:ac164.okAll=true:=by kernel_rfl
def xc33b:AC:=by
 apply fun (y:AC) (_:@Eq AC (anS 14 [] [] (anF Tryz.prog 33 mu1 [] 0 0 [])) y)=>y
 conv=>lhs;reduce;dsimp
def ac33:AC:=(fun (z0:AC)=>by
 apply fun (y:AC) (_:@Eq AC (anD [⟨13,[],[.canV 3 (28,0)],none⟩,⟨14,[],[],some z0⟩] (anF Tryz.prog 33 mu1 [] 0 0 [])) y)=>y
 conv=>lhs;reduce;dsimp) xc33b
theorem fn33:factOf Tryz.prog 33=some (ac33.strip,[.tmp 2],41):=by kernel_rfl
theorem ok33:ac33.okAll=true:=by kernel_rfl
def ac127:AC:=by
 apply fun (y:AC) (_:@Eq AC (anD [⟨13,[],[.canV 6 (56,0),.canV 5 (45,0)],none⟩] (anF Tryz.prog 127 mu1 [] 0 0 [])) y)=>y
 conv=>lhs;reduce;dsimp
theorem fn127:factOf Tryz.prog 127=some (ac127.strip,[.tmp 4],60):=by kernel_rfl
theorem ok127:ac127.okAll=true:=by kernel_rfl
def ac76:AC:=by
 apply fun (y:AC) (_:@Eq AC (anD [⟨8,[],[.canV 6 (27,0)],none⟩] (anF Tryz.prog 76 mu1 [] 0 0 [])) y)=>y
 conv=>lhs;reduce;dsimp
theorem fn76:factOf Tryz.prog 76=some (ac76.strip,[.tmp 4],29):=by kernel_rfl
theorem ok76:ac76.okAll=true:=by kernel_rfl
def xc34c:AC:=by
 apply fun (y:AC) (_:@Eq AC (anS 17 [] [] (anF Tryz.prog 34 mu1 [] 0 0 [])) y)=>y
 conv=>lhs;reduce;dsimp
def xc34b:AC:=(fun (z0:AC)=>by
 apply fun (y:AC) (_:@Eq AC (anS 10 [⟨17,[],[],some z0⟩] [] (anF Tryz.prog 34 mu1 [] 0 0 [])) y)=>y
 conv=>lhs;reduce;dsimp) xc34c
def ac34:AC:=(fun (z0:AC)=>by
 apply fun (y:AC) (_:@Eq AC (anD [⟨10,[],[],some z0⟩,⟨18,[],[.canV 6 (54,0)],none⟩] (anF Tryz.prog 34 mu1 [] 0 0 [])) y)=>y
 conv=>lhs;reduce;dsimp) xc34b
theorem fn34:factOf Tryz.prog 34=some (ac34.strip,[.tmp 4],56):=by kernel_rfl
theorem ok34:ac34.okAll=true:=by kernel_rfl
def ac140:AC:=by
 apply fun (y:AC) (_:@Eq AC (anF Tryz.prog 140 mu1 [] 0 0 []) y)=>y
 conv=>lhs;reduce;dsimp
theorem fn140:factOf Tryz.prog 140=some (ac140.strip,[.tmp 6],15):=by kernel_rfl
theorem ok140:ac140.okAll=true:=by kernel_rfl
def ac143:AC:=by
 apply fun (y:AC) (_:@Eq AC (anF Tryz.prog 143 mu1 [] 0 0 []) y)=>y
 conv=>lhs;reduce;dsimp
theorem fn143:factOf Tryz.prog 143=some (ac143.strip,[.tmp 4],19):=by kernel_rfl
theorem ok143:ac143.okAll=true:=by kernel_rfl
def ac92:AC:=by
 apply fun (y:AC) (_:@Eq AC (anF Tryz.prog 92 mu1 [] 0 0 []) y)=>y
 conv=>lhs;reduce;dsimp
theorem fn92:factOf Tryz.prog 92=some (ac92.strip,[.tmp 6,.tmp 7],49):=by kernel_rfl
theorem ok92:ac92.okAll=true:=by kernel_rfl
def ac94:AC:=by
 apply fun (y:AC) (_:@Eq AC (anF Tryz.prog 94 mu1 [] 0 0 []) y)=>y
 conv=>lhs;reduce;dsimp
theorem fn94:factOf Tryz.prog 94=some (ac94.strip,[.tmp 8],36):=by kernel_rfl
theorem ok94:ac94.okAll=true:=by kernel_rfl
def ac144:AC:=by
 apply fun (y:AC) (_:@Eq AC (anF Tryz.prog 144 mu1 [] 0 0 []) y)=>y
 conv=>lhs;reduce;dsimp
theorem fn144:factOf Tryz.prog 144=some (ac144.strip,[.tmp 4],15):=by kernel_rfl
theorem ok144:ac144.okAll=true:=by kernel_rfl
def ac167:AC:=by
 apply fun (y:AC) (_:@Eq AC (anF Tryz.prog 167 mu1 [] 0 0 []) y)=>y
 conv=>lhs;reduce;dsimp
theorem fn167:factOf Tryz.prog 167=some (ac167.strip,[.tmp 6,.tmp 7],54):=by kernel_rfl
theorem ok167:ac167.okAll=true:=by kernel_rfl
def ac168:AC:=by
 apply fun (y:AC) (_:@Eq AC (anF Tryz.prog 168 mu1 [] 0 0 []) y)=>y
 conv=>lhs;reduce;dsimp
theorem fn168:factOf Tryz.prog 168=some (ac168.strip,[.tmp 8],54):=by kernel_rfl
theorem ok168:ac168.okAll=true:=by kernel_rfl
def ac202:AC:=by
 apply fun (y:AC) (_:@Eq AC (anF Tryz.prog 202 mu1 [] 0 0 []) y)=>y
 conv=>lhs;reduce;dsimp
theorem fn202:factOf Tryz.prog 202=some (ac202.strip,[.tmp 2],9):=by kernel_rfl
theorem ok202:ac202.okAll=true:=by kernel_rfl
def ac48:AC:=by
 apply fun (y:AC) (_:@Eq AC (let e0:=[6,9,21,22];(qk [0,1,2] (qs (qr [(qp 3 (.box (.v 0))),(qp 4 (.box (.v 1))),(qp 5 (.box (.v 2))),(qp 6 (.mov (.c .nsl)))]) (.ghost (.own 6 30 3 1) (qk [3,4,5,6] (qs (qs (qr [(qp 11 (qt 3 5)),(qi 12 (.call 47 [.v 11]) [0]),(qi 13 (.un .not (.v 12)) [1])]) (qk [3,4,5,6,13] (qq (.v 13) (qs (qr [(qp 6 (.mov (.c .nsl)))]) (qk [6] (.ghost (.zsl 6 1) .ret))) .skip))) (qk [3,4,5,6] (qs (qd [(qa (yl 14 4) [7,8,16,17] [7,8] [] [] 0),(qa (qi 15 (.call 23 [.v 14]) [0]) [7,8,16,17] [7,8] [15] [] 0),(qa (yl 16 3) [7,8,14,15,17] [7,8,15] [] [0,1] 0),(qa (yl 17 4) [7,8,14,15,16] [7,8,15] [] [0,1,2] 0),(qa (qi 18 (.call 21 [.v 16,.v 17]) [2,3,1]) [7,8] [7,8] [18] [] 0),(qa (qp 7 (.alloc [.nsl])) [8,14,15,16,17,18] [8,15,18] [7] [0,1,2,3,4] 0),(qa (qp 8 (.alloc [.nsl])) [7,14,15,16,17,18] [7,15,18] [8] [0,1,2,3,4,5] 0),(qa (qo (.store 1 (.v 7) (.v 15)) [5,1,4,0,1,5,6]) [] [] [7] [] 1),(qa (qo (.store 1 (.v 8) (.v 18)) [6,4,7,0,1,2,3,4,5,6,7]) [] [] [8] [] 1)]) (qk [3,4,5,6,7,8] (qs (qr [(qp 19 (.mkfn (.func 91) [] [.v 4,.v 7,.v 8,.v 5,.v 3])),(yn 9 19 [0,0])]) (qk [6,7,9] (qs (qs (qr [(yl 20 7),(yh 21 20 [0]),(qp 22 (.mov (qz 0)))]) (qk e0 (.block 0 (.loop (qk e0 (qs (qr [(qp 23 (qb .lss 22 21))]) (qk [6,9,21,22,23] (qs (qq (.v 23) .skip (.exit 0)) (qk e0 (qs (.block 1 (qs (qr [(ym 24 22),(yn 10 24 [0,0])]) (qk [6,9,10,21,22] (qr [(ym 25 6),(ym 26 9),(ym 27 10),(qi 28 (.callv (.v 26) [.v 27]) [1,2]),(qi 29 (.bslice 3 1 1 [.int .i64 0] [(0,1,.v 28)]) [3]),(qi 30 (.app 3 1 8 (.v 25) (.v 29)) [0,4,3]),(yn 6 30 [5,5,0,1,2,3,4,5])])))) (qk e0 (.ghost (.canV 6 (30,0)) (qr [(qp 31 (qc .add 22 (qz 1))),(yn 22 31 [0])]))))))))))))) (qk [6] (qs (qr [(ym 32 6),(yn 6 32 [0,0])]) (qk [6] .ret))))))))))))))) y)=>y
 dsimp
theorem fn48:factOf Tryz.prog 48=some (ac48.strip,[.tmp 6],33):=by kernel_rfl
theorem ok48:ac48.okAll=true:=by kernel_rfl
def xc91b:AC:=by
 apply fun (y:AC) (_:@Eq AC (anS 12 [] [] (anF Tryz.prog 91 mu1 [] 0 0 [])) y)=>y
 conv=>lhs;reduce;dsimp
def ac91:AC:=(fun (z0:AC)=>by
 apply fun (y:AC) (_:@Eq AC (anD [⟨12,[],[],some z0⟩] (anF Tryz.prog 91 mu1 [] 0 0 [])) y)=>y
 conv=>lhs;reduce;dsimp) xc91b
theorem fn91:factOf Tryz.prog 91=some (ac91.strip,[.tmp 7],109):=by kernel_rfl
theorem ok91:ac91.okAll=true:=by kernel_rfl
def xc130d:AC:=by
 apply fun (y:AC) (_:@Eq AC (qr [(ym 149 9),(ym 150 15),(qi 151 (.mm true (.v 150) (qz 0)) [1]),(qi 152 (.bslice 3 1 1 [.int .i64 0] [(0,1,.v 151)]) [2]),(qi 153 (.app 3 1 8 (.v 149) (.v 152)) [0,3]),(yn 9 153 [4,4,0,1,2,3,4])]) y)=>y
 dsimp
def xc130c:AC:=by
 apply fun (y:AC) (_:@Eq AC (let e0:=[134,135,136,137,138,139,140,141,145,146];let e1:=[134,135,136,142,143,144,145,146];let e2:=[134,135,136,137,138,139,140,141,142,143,144];let e3:=[134,135,142,143,144,145,146];let e4:=[0,1,2,3,4,5,6,7];let e5:=[0,1,2,3,4,5,6,7,8,9,10];let e6:=[108,113,114,115,116];let e7:=[108,109,110,111,112];let e8:=[3,4,5,6,7];(qs (qs (qd [(qe (ym 105 10) [] [] 2),(qe (yc 106 .gtr 105 (qz 0) [0]) [] [] 2),(qe (yn 107 106 [1]) [] [] 2),(qe (qg 108 (qm 8) 107 true [2]) [109,110,113,114,115,116] [] 2),(qe (qg 109 (qm 10) 107 true [2]) e6 [3] 2),(qe (qg 110 (qc .sub 109 (qz 1)) 107 true [4,2]) e6 [3] 2),(qe (qg 111 (qj 1 108 110) 107 true [3,5,2]) [113,114,115,116] [] 2),(qe (qg 112 (ql 111) 107 true [6,2]) [113,114,115,116] [] 2),(qe (qg 113 (qm 8) 107 true [2]) [108,109,110,111,112,114] e8 2),(qe (qg 114 (qm 10) 107 true [2]) [108,109,110,111,112,113] [3,4,5,6,7,8] 2),(qe (qg 115 (qj 1 113 114) 107 true [8,9,2]) e7 e8 2),(qe (qg 116 (ql 115) 107 true [10,2]) e7 e8 2),(qe (qg 117 (qb .eql 112 116) 107 true [7,11,2]) [] [] 2),(qe (qi 118 (.pick (.v 107) (.v 117) (.c (.bool false))) [2,12]) [] [] 2),(qe (yn 119 118 [13,2]) [] [] 2),(qe (qg 120 (qm 14) 119 true [14]) [] [] 2),(qe (qg 121 (qn 120) 119 true [15,14]) [] [] 2),(qe (qg 122 (qc .gtr 121 (qz 0)) 119 true [16,14]) [] [] 2),(qe (qi 123 (.pick (.v 119) (.v 122) (.c (.bool false))) [14,17]) [] [] 2)]) (qk [0,1,5,7,8,9,10,12,14,15,123] (qq (.v 123) (qs (qr [(ym 124 1),(ym 125 7),(ym 126 10),(yc 127 .sub 126 (qz 1) [2]),(yj 128 2 125 127 [1,3]),(qi 129 (qt 2 128) [4]),(qi 130 (.call 76 [.v 124,.v 129]) [0,5]),(yn 19 130 [6,6,0,1,2,3,4,5,6])]) (qk [0,1,5,7,8,9,10,12,14,15,19] (qs (qr [(ym 131 19),(yh 132 131 [0]),(yc 133 .gtr 132 (qz 0) [1])]) (qk [0,1,5,7,8,9,10,12,14,15,19,133] (qq (.v 133) (qd [(qa (ym 134 15) [135,136,137,138,139,140,141,142,143,144,145,146,147] [147] [] [] 2),(qe (qp 135 (qt 9 12)) [134,136,137,138,139,140,141,142,143,144,145,146] [0] 2),(qe (ym 136 19) [134,135,137,138,139,142,143,144,145,146] [0,1] 2),(qe (ym 137 19) e1 [0,1,2] 2),(qe (yh 138 137 [3]) e1 [0,1,2] 2),(qe (yc 139 .sub 138 (qz 1) [4]) e1 [0,1,2] 2),(qe (yj 140 1 136 139 [2,5]) e3 [0,1] 2),(qe (yk 141 140 [6]) e3 [0,1] 2),(qe (ym 142 14) e0 e4 2),(qe (qi 143 (.iaddr 1 (.v 142) (qz 0)) [8]) e0 e4 2),(qe (yk 144 143 [9]) e0 e4 2),(qe (qp 145 (qf 0 5)) e2 e5 2),(qe (yk 146 145 [11]) e2 e5 2),(qa (qi 147 (.call 168 [.v 135,.v 141,.v 144,.v 146]) [1,7,10,12]) [134] [] [147] [0] 1),(qe (yb 148 .add 134 147 [0,13]) [] [] 2),(qe (yn 15 148 [14,13,0,1,2,3,4,5,6,7,8,9,10,11,12,13,14]) [] [] 2)]) .skip))))) .skip))) (qk [0,1,5,7,8,9,10,15] xc130d))) y)=>y
 dsimp
def xc130b:AC:=by
 apply fun (y:AC) (_:@Eq AC (let e0:=[0,1,5,7,8,9,10,12,13,14,15,16];let e1:=[90,91,92,93,94,95,96,97,98,99,100];let e2:=[90,91,92,97,98,99,100,101,102];let e3:=[90,91,92,93,94,95,96,101,102];let e4:=[90,91,97,98,99,100,101,102];let e5:=[0,1,2,3,4,5,6,7,8,9,10];let e6:=[0,1,2,3,4,5,6];(qs (qr [(ym 53 0),(ym 54 8),(ym 55 10),(yj 56 1 54 55 [1,2]),(yk 57 56 [3]),(yj 58 9 53 57 [0,4]),(qi 59 (qt 9 58) [5]),(qp 12 (.alloc [.str ⟨#[]⟩,.int .i64 0,.nsl,.nsl,.int .i64 0,.nsl,.nsl,.nsl,.str ⟨#[]⟩])),(qo (.store 9 (.v 12) (.v 59)) [7,6,0,1,2,3,4,5,6,7])]) (qk [0,1,5,7,8,9,10,12] (qs (qr [(qp 60 (qt 9 12)),(qp 61 (qt 3 5)),(qi 62 (.call 166 [.v 60,.v 61]) [0,1]),(qp 13 (.alloc [.int .i64 0,.nsl,.int .i64 0])),(qo (.store 3 (.v 13) (.v 62)) [3,2,2,0,1,2,3])]) (qk [0,1,5,7,8,9,10,12,13] (qs (qr [(ym 63 1),(ym 64 7),(ym 65 10),(yj 66 2 64 65 [1,2]),(qi 67 (qt 2 66) [3]),(qi 68 (.call 76 [.v 63,.v 67]) [0,4]),(yn 14 68 [5,5,0,1,2,3,4,5])]) (qk [0,1,5,7,8,9,10,12,13,14] (qs (qr [(qp 15 (.mov (qz 0)))]) (qk [0,1,5,7,8,9,10,12,13,14,15] (qs (qs (qr [(qp 16 (.mov (qz 0)))]) (qk e0 (.block 2 (.loop (qk e0 (qs (qs (qr [(ym 69 16),(ym 70 14),(yh 71 70 [1]),(yb 72 .lss 69 71 [0,2])]) (qk [0,1,5,7,8,9,10,12,13,14,15,16,72] (qq (.v 72) .skip (.exit 2)))) (qk e0 (qs (.block 3 (qs (qd [(qe (qp 76 (qt 9 12)) [77,78,79,80,81] [] 2),(qe (ym 77 14) [76,78,81] [0] 2),(qe (ym 78 16) [76,77,81] [0,1] 2),(qe (yj 79 1 77 78 [1,2]) [76,81] [0] 2),(qe (yk 80 79 [3]) [76,81] [0] 2),(qe (qp 81 (qt 3 13)) [76,77,78,79,80] [0,1,2,3,4] 2),(qa (qi 82 (.call 167 [.v 76,.v 80,.v 81]) [0,4,5]) [] [] [82] [] 1),(qe (yn 75 82 [6]) [] [] 2),(qe (qi 83 (.ext (.v 75) 0) [7]) [84] [] 2),(qe (qi 84 (.ext (.v 75) 1) [7]) [17,83] [8] 2),(qe (yn 17 83 [8,6,0,1,2,3,4,5,6,7,8]) [84] [9] 2),(qe (yn 18 84 [9,10,0,1,2,3,4,5,6,7,8,9,10]) [] [] 2)]) (qk [0,1,5,7,8,9,10,12,13,14,15,16,17] (qs (qr [(ym 85 15),(ym 86 17),(yb 87 .add 85 86 [0,1]),(yn 15 87 [2,0,1,2])]) (qk e0 (qs (qr [(ym 88 16),(yc 89 .gtr 88 (qz 0) [0])]) (qk [0,1,5,7,8,9,10,12,13,14,15,16,89] (qq (.v 89) (qd [(qa (ym 90 15) [91,92,93,94,95,96,97,98,99,100,101,102,103] [103] [] [] 2),(qe (qp 91 (qt 9 12)) [90,92,93,94,95,96,97,98,99,100,101,102] [0] 2),(qe (ym 92 14) [90,91,93,94,97,98,99,100,101,102] [0,1] 2),(qe (ym 93 16) e2 [0,1,2] 2),(qe (yc 94 .sub 93 (qz 1) [3]) e2 [0,1,2] 2),(qe (yj 95 1 92 94 [2,4]) e4 [0,1] 2),(qe (yk 96 95 [5]) e4 [0,1] 2),(qe (ym 97 14) [90,91,92,93,94,95,96,98,101,102] e6 2),(qe (ym 98 16) [90,91,92,93,94,95,96,97,101,102] [0,1,2,3,4,5,6,7] 2),(qe (yj 99 1 97 98 [7,8]) e3 e6 2),(qe (yk 100 99 [9]) e3 e6 2),(qe (qp 101 (qf 0 5)) e1 e5 2),(qe (yk 102 101 [11]) e1 e5 2),(qa (qi 103 (.call 168 [.v 91,.v 96,.v 100,.v 102]) [1,6,10,12]) [90] [] [103] [0] 1),(qe (yb 104 .add 90 103 [0,13]) [] [] 2),(qe (yn 15 104 [14,13,0,1,2,3,4,5,6,7,8,9,10,11,12,13,14]) [] [] 2)]) .skip)))))))) (qk e0 (qr [(ym 73 16),(yc 74 .add 73 (qz 1) [0]),(yn 16 74 [1,0,1])])))))))))) (qk [0,1,5,7,8,9,10,12,14,15] xc130c))))))))))) y)=>y
 dsimp
def ac130:AC:=by
 apply fun (y:AC) (_:@Eq AC (let e0:=[0,1,5,7,8,9,10];let e1:=[0,1,5,7,8,9,10,11];(qk [0,1,2] (qs (qr [(qp 5 (.box (.v 2))),(qp 6 (.mov (.c .nsl)))]) (qk [0,1,5] (qs (qs (qr [(qp 20 (qt 3 5)),(qi 21 (.call 20 [.v 20]) [0]),(qi 22 (.un .not (.v 21)) [1])]) (qk [0,1,5,22] (qq (.v 22) (qs (qr [(qp 6 (.mov (.c .nsl)))]) (qk [6] (.ghost (.zsl 6 1) .ret))) .skip))) (qk [0,1,5] (qs (qr [(ym 23 1),(qi 24 (.call 33 [.v 23]) [0]),(yn 7 24 [1,1,0,1])]) (qk [0,1,5,7] (qs (qr [(ym 25 0),(ym 26 1),(qi 27 (.call 34 [.v 25,.v 26]) [0,1]),(yn 8 27 [2,2,0,1,2])]) (qk [0,1,5,7,8] (qs (qr [(qp 9 (.mov (.c .nsl)))]) (.ghost (.own 9 52 3 1) (qk [0,1,5,7,8,9] (qs (qs (qr [(qp 10 (.mov (qz 0)))]) (qk e0 (.block 0 (.loop (qk e0 (qs (qs (qr [(ym 28 10),(ym 29 7),(yh 30 29 [1]),(yb 31 .lss 28 30 [0,2])]) (qk [0,1,5,7,8,9,10,31] (qq (.v 31) .skip (.exit 0)))) (qk e0 (qs (.block 1 (qs (qs (qr [(ym 34 8),(ym 35 10),(yj 36 1 34 35 [0,1]),(yk 37 36 [2]),(yc 38 .lss 37 (qz 0) [3])]) (qk [0,1,5,7,8,9,10,38] (qq (.v 38) (qs (qr [(qp 39 (qf 0 5)),(yk 40 39 [0]),(yc 41 .quo 40 (qz 2) [1]),(yn 11 41 [2,0,1,2])]) (qk e1 (qs (qs (qr [(ym 42 1),(ym 43 7),(ym 44 10),(yj 45 2 43 44 [1,2]),(qi 46 (qt 2 45) [3]),(qi 47 (.call 75 [.v 42,.v 46]) [0,4]),(yc 48 .eql 47 (qz 1) [5])]) (qk [0,1,5,7,8,9,10,11,48] (qq (.v 48) (qr [(qp 11 (.mov (qz 0)))]) .skip))) (qk e1 (qs (qr [(ym 49 9),(ym 50 11),(qi 51 (.bslice 3 1 1 [.int .i64 0] [(0,1,.v 50)]) [1]),(qi 52 (.app 3 1 8 (.v 49) (.v 51)) [0,2]),(yn 9 52 [3,3,0,1,2,3])]) (qk e0 (.exit 1))))))) .skip))) (qk e0 xc130b))) (qk e0 (.ghost (.canV 9 (52,0)) (qr [(ym 32 10),(yc 33 .add 32 (qz 1) [0]),(yn 10 33 [1,0,1])]))))))))))) (qk [9] (qs (qr [(ym 154 9),(yn 6 154 [0,0])]) (qk [6] (.ghost (.zsl 6 1) .ret)))))))))))))))))) y)=>y
 dsimp
theorem fn130:factOf Tryz.prog 130=some (ac130.strip,[.tmp 6],155):=by kernel_rfl
theorem ok130:ac130.okAll=true:=by kernel_rfl
def ac62:AC:=by
 apply fun (y:AC) (_:@Eq AC (anF Tryz.prog 62 mu1 [] 0 0 []) y)=>y
 conv=>lhs;reduce;dsimp
theorem fn62:factOf Tryz.prog 62=some (ac62.strip,[.tmp 2],24):=by kernel_rfl
theorem ok62:ac62.okAll=true:=by kernel_rfl
def ac52:AC:=by
 apply fun (y:AC) (_:@Eq AC (anF Tryz.prog 52 mu1 [] 0 0 []) y)=>y
 conv=>lhs;reduce;dsimp
theorem fn52:factOf Tryz.prog 52=some (ac52.strip,[.tmp 2],6):=by kernel_rfl
theorem ok52:ac52.okAll=true:=by kernel_rfl
def ac110:AC:=by
 apply fun (y:AC) (_:@Eq AC (anF Tryz.prog 110 mu1 [] 0 0 []) y)=>y
 conv=>lhs;reduce;dsimp
theorem fn110:factOf Tryz.prog 110=some (ac110.strip,[.tmp 2],5):=by kernel_rfl
theorem ok110:ac110.okAll=true:=by kernel_rfl
def ac109:AC:=by
 apply fun (y:AC) (_:@Eq AC (anF Tryz.prog 109 mu1 [] 0 0 []) y)=>y
 conv=>lhs;reduce;dsimp
theorem fn109:factOf Tryz.prog 109=some (ac109.strip,[.tmp 4],6):=by kernel_rfl
theorem ok109:ac109.okAll=true:=by kernel_rfl
def ac154:AY:=(.ghost (.keep [0,1,2])
 (.seq (.reg [⟨some 4,.mov (.c (.int .i64 0)),none,[]⟩])
 (.ghost (.keep [0,1,2,4]) (.block 0 (.loop (.ghost (.keep [0,1,2,4]) (.seq (.seq (.reg [⟨some 7,.mov (.v 4),none,[]⟩,
  ⟨some 8,.load false 1 (.v 1),none,[]⟩,
  ⟨some 9,.len false (.v 8),none,[1]⟩,
  ⟨some 10,.bin .lss (.v 7) (.v 9),none,[0,2]⟩])
 (.ghost (.keep [0,1,2,4,10]) (.cond (.v 10)
 .skip
 (.exit 0))))
 (.ghost (.keep [0,1,2,4]) (.block 1 (.seq (.draw [⟨⟨some 11,.load false 1 (.v 2),none,[]⟩,[12,13,14,15,17,18],[],[],[],2⟩,
  ⟨⟨some 12,.load false 1 (.v 1),none,[]⟩,[11,13,17,18],[],[],[0],2⟩,
  ⟨⟨some 13,.mov (.v 4),none,[]⟩,[11,12,17,18],[],[],[0,1],2⟩,
  ⟨⟨some 14,.iaddr 1 (.v 12) (.v 13),none,[1,2]⟩,[11,17,18],[],[],[0],2⟩,
  ⟨⟨some 15,.load false 1 (.v 14),none,[3]⟩,[11,17,18],[],[],[0],2⟩,
  ⟨⟨some 16,.callv (.v 11) [.v 15],none,[0,4]⟩,[17,18],[],[16],[],1⟩,
  ⟨⟨some 17,.mov (.v 4),none,[]⟩,[5,11,12,13,14,15,16],[16],[],[0,1,2,3,4,5],2⟩,
  ⟨⟨some 18,.bin .add (.v 17) (.c (.int .i64 1)),none,[6]⟩,[5,11,12,13,14,15,16],[16],[],[0,1,2,3,4,5],2⟩,
  ⟨⟨some 5,.mov (.v 16),none,[5,5,0,1,2,3,4,5]⟩,[17,18],[],[],[6,7],2⟩,
  ⟨⟨some 6,.mov (.v 18),none,[7,8,0,1,2,3,4,5,6,7,8]⟩,[],[],[],[],2⟩])
 (.ghost (.keep [0,1,2,4,5,6]) (.seq (.block 2 (.loop (.ghost (.keep [0,1,2,4,5,6]) (.seq (.seq (.draw [⟨⟨some 19,.mov (.v 6),none,[]⟩,[20,21],[],[],[],2⟩,
  ⟨⟨some 20,.load false 1 (.v 1),none,[]⟩,[19],[],[],[0],2⟩,
  ⟨⟨some 21,.len false (.v 20),none,[1]⟩,[19],[],[],[0],2⟩,
  ⟨⟨some 22,.bin .lss (.v 19) (.v 21),none,[0,2]⟩,[],[],[],[],2⟩,
  ⟨⟨some 23,.mov (.v 22),none,[3]⟩,[],[],[],[],2⟩,
  ⟨⟨some 24,.load false 1 (.v 2),some (23,true),[4]⟩,[25,26,27,28,30],[],[],[],2⟩,
  ⟨⟨some 25,.load false 1 (.v 1),some (23,true),[4]⟩,[24,26,30],[],[],[5],2⟩,
  ⟨⟨some 26,.mov (.v 6),some (23,true),[4]⟩,[24,25,30],[],[],[5,6],2⟩,
  ⟨⟨some 27,.iaddr 1 (.v 25) (.v 26),some (23,true),[6,7,4]⟩,[24,30],[],[],[5],2⟩,
  ⟨⟨some 28,.load false 1 (.v 27),some (23,true),[8,4]⟩,[24,30],[],[],[5],2⟩,
  ⟨⟨some 29,.callv (.v 24) [.v 28],some (23,true),[5,9,4,4]⟩,[30],[],[29],[],1⟩,
  ⟨⟨some 30,.mov (.v 5),some (23,true),[4]⟩,[24,25,26,27,28,29],[29],[],[5,6,7,8,9,10],2⟩,
  ⟨⟨some 31,.eqb false (.v 29) (.v 30),some (23,true),[10,11,4]⟩,[],[],[],[],2⟩,
  ⟨⟨some 32,.pick (.v 23) (.v 31) (.c (.bool false)),none,[4,12]⟩,[],[],[],[],2⟩])
 (.ghost (.keep [0,1,2,4,5,6,32]) (.cond (.v 32)
 .skip
 (.exit 2))))
 (.ghost (.keep [0,1,2,4,5,6]) (.block 3 (.reg [⟨some 33,.mov (.v 6),none,[]⟩,
  ⟨some 34,.bin .add (.v 33) (.c (.int .i64 1)),none,[0]⟩,
  ⟨some 6,.mov (.v 34),none,[1,0,1]⟩])))))))
 (.ghost (.keep [0,1,2,4,5,6]) (.seq (.seq (.yield false [⟨⟨some 35,.mov (.v 0),none,[]⟩,[36,37,38,39],[],[],[],2⟩,
  ⟨⟨some 36,.mov (.v 4),none,[]⟩,[35,37,39],[],[],[0],2⟩,
  ⟨⟨some 37,.mov (.v 6),none,[]⟩,[35,36,39],[],[],[0,1],2⟩,
  ⟨⟨some 38,.build [.int .i64 0,.int .i64 0] [(0,1,.v 36),(1,1,.v 37)],none,[1,2]⟩,[35,39],[],[],[0],2⟩,
  ⟨⟨some 39,.mov (.v 5),none,[]⟩,[35,36,37,38],[],[],[0,1,2,3],2⟩]
  ⟨some 40,.callv (.v 35) [.v 38,.v 39],none,[0,3,4]⟩ [⟨some 41,.un .not (.v 40),none,[5]⟩])
 (.ghost (.keep [0,1,2,6,41]) (.cond (.v 41)
 .ret
 .skip)))
 (.ghost (.keep [0,1,2,6]) (.reg [⟨some 42,.mov (.v 6),none,[]⟩,
  ⟨some 4,.mov (.v 42),none,[0,0]⟩]))))))))))))))))
theorem fn154:factOf Tryz.prog 154=some (ac154.strip,[],43):=by kernel_rfl
theorem ok154:ac154.okAll=true:=by kernel_rfl
def ac147:AC:=by
 apply fun (y:AC) (_:@Eq AC (anF Tryz.prog 147 mu1 [] 0 0 []) y)=>y
 conv=>lhs;reduce;dsimp
theorem fn147:factOf Tryz.prog 147=some (ac147.strip,[.tmp 4],11):=by kernel_rfl
theorem ok147:ac147.okAll=true:=by kernel_rfl
def ac146:AC:=by
 apply fun (y:AC) (_:@Eq AC (anF Tryz.prog 146 mu1 [] 0 0 []) y)=>y
 conv=>lhs;reduce;dsimp
theorem fn146:factOf Tryz.prog 146=some (ac146.strip,[.tmp 2],8):=by kernel_rfl
theorem ok146:ac146.okAll=true:=by kernel_rfl
def ac100:AC:=by
 apply fun (y:AC) (_:@Eq AC (anF Tryz.prog 100 mu1 [] 0 0 []) y)=>y
 conv=>lhs;reduce;dsimp
theorem fn100:factOf Tryz.prog 100=some (ac100.strip,[.tmp 2],4):=by kernel_rfl
theorem ok100:ac100.okAll=true:=by kernel_rfl
def ac53:AC:=by
 apply fun (y:AC) (_:@Eq AC (anF Tryz.prog 53 mu1 [] 0 0 []) y)=>y
 conv=>lhs;reduce;dsimp
theorem fn53:factOf Tryz.prog 53=some (ac53.strip,[.tmp 2],6):=by kernel_rfl
theorem ok53:ac53.okAll=true:=by kernel_rfl
def ac145:AY:=(.ghost (.keep [0,1])
 (.seq (.reg [⟨some 5,.load false 1 (.v 1),none,[]⟩,
  ⟨some 6,.len false (.v 5),none,[0]⟩,
  ⟨some 7,.mov (.c (.int .i64 0)),none,[]⟩])
 (.ghost (.keep [0,5,6,7]) (.block 0 (.loop (.ghost (.keep [0,5,6,7]) (.seq (.reg [⟨some 8,.bin .lss (.v 7) (.v 6),none,[]⟩])
 (.ghost (.keep [0,5,6,7,8]) (.seq (.cond (.v 8)
 .skip
 (.exit 0))
 (.ghost (.keep [0,5,6,7]) (.seq (.block 1 (.seq (.reg [⟨some 9,.iaddr 1 (.v 5) (.v 7),none,[]⟩,
  ⟨some 10,.load false 1 (.v 9),none,[0]⟩,
  ⟨some 4,.mov (.v 10),none,[1,0,1]⟩])
 (.ghost (.keep [0,4,5,6,7]) (.seq (.yield false [⟨⟨some 11,.mov (.v 0),none,[]⟩,[12],[],[],[],2⟩,
  ⟨⟨some 12,.mov (.v 4),none,[]⟩,[11],[],[],[0],2⟩]
  ⟨some 13,.callv (.v 11) [.v 12],none,[0,1]⟩ [⟨some 14,.un .not (.v 13),none,[2]⟩])
 (.ghost (.keep [0,5,6,7,14]) (.cond (.v 14)
 .ret
 .skip))))))
 (.ghost (.keep [0,5,6,7]) (.reg [⟨some 15,.bin .add (.v 7) (.c (.int .i64 1)),none,[]⟩,
  ⟨some 7,.mov (.v 15),none,[0]⟩])))))))))))))
theorem fn145:factOf Tryz.prog 145=some (ac145.strip,[],16):=by kernel_rfl
theorem ok145:ac145.okAll=true:=by kernel_rfl
def ac61:AC:=by
 apply fun (y:AC) (_:@Eq AC (anF Tryz.prog 61 mu1 [] 0 0 []) y)=>y
 conv=>lhs;reduce;dsimp
theorem fn61:factOf Tryz.prog 61=some (ac61.strip,[.tmp 2],39):=by kernel_rfl
theorem ok61:ac61.okAll=true:=by kernel_rfl
def ac97:AC:=by
 apply fun (y:AC) (_:@Eq AC (anF Tryz.prog 97 mu1 [] 0 0 []) y)=>y
 conv=>lhs;reduce;dsimp
theorem fn97:factOf Tryz.prog 97=some (ac97.strip,[.tmp 4],14):=by kernel_rfl
theorem ok97:ac97.okAll=true:=by kernel_rfl
def ac95:AC:=by
 apply fun (y:AC) (_:@Eq AC (anF Tryz.prog 95 mu1 [] 0 0 []) y)=>y
 conv=>lhs;reduce;dsimp
theorem fn95:factOf Tryz.prog 95=some (ac95.strip,[.tmp 2],6):=by kernel_rfl
theorem ok95:ac95.okAll=true:=by kernel_rfl
def ac51:AC:=by
 apply fun (y:AC) (_:@Eq AC (anD [⟨15,[],[.canV 2 (38,0)],none⟩] (anF Tryz.prog 51 mu1 [] 0 0 [])) y)=>y
 conv=>lhs;reduce;dsimp
theorem fn51:factOf Tryz.prog 51=some (ac51.strip,[.tmp 2],97):=by kernel_rfl
theorem ok51:ac51.okAll=true:=by kernel_rfl
def ac96:AC:=by
 apply fun (y:AC) (_:@Eq AC (anF Tryz.prog 96 mu1 [] 0 0 []) y)=>y
 conv=>lhs;reduce;dsimp
theorem fn96:factOf Tryz.prog 96=some (ac96.strip,[.tmp 8],77):=by kernel_rfl
theorem ok96:ac96.okAll=true:=by kernel_rfl
def ac50:AC:=by
 apply fun (y:AC) (_:@Eq AC (anD [⟨3,[.freeze (4,0),.freeze (5,0),.freeze (6,0),.freeze (7,0),.freeze (9,0),.freeze (10,0)],[],none⟩] (anF Tryz.prog 50 mu1 [] 0 0 [])) y)=>y
 conv=>lhs;reduce;dsimp
theorem fn50:factOf Tryz.prog 50=some (ac50.strip,[.tmp 8],41):=by kernel_rfl
theorem ok50:ac50.okAll=true:=by kernel_rfl
def xc63d:AC:=by
 apply fun (y:AC) (_:@Eq AC (anS 26 [] [] (anF Tryz.prog 63 mu1 [] 0 0 [])) y)=>y
 conv=>lhs;reduce;dsimp
def xc63c:AC:=by
 apply fun (y:AC) (_:@Eq AC (anS 32 [] [] (anF Tryz.prog 63 mu1 [] 0 0 [])) y)=>y
 conv=>lhs;reduce;dsimp
def xc63b:AC:=(fun (z0:AC)=>fun (z1:AC)=>by
 apply fun (y:AC) (_:@Eq AC (anS 13 [⟨26,[],[],some z0⟩,⟨32,[],[],some z1⟩] [] (anF Tryz.prog 63 mu1 [] 0 0 [])) y)=>y
 conv=>lhs;reduce;dsimp) xc63d xc63c
def ac63:AC:=(fun (z0:AC)=>by
 apply fun (y:AC) (_:@Eq AC (anD [⟨13,[],[],some z0⟩] (anF Tryz.prog 63 mu1 [] 0 0 [])) y)=>y
 conv=>lhs;reduce;dsimp) xc63b
theorem fn63:factOf Tryz.prog 63=some (ac63.strip,[.tmp 4],105):=by kernel_rfl
theorem ok63:ac63.okAll=true:=by kernel_rfl
def ac22:AC:=by
 apply fun (y:AC) (_:@Eq AC (anF Tryz.prog 22 mu1 [] 0 0 []) y)=>y
 conv=>lhs;reduce;dsimp
theorem fn22:factOf Tryz.prog 22=some (ac22.strip,[.tmp 2],52):=by kernel_rfl
theorem ok22:ac22.okAll=true:=by kernel_rfl
def ac148:AC:=by
 apply fun (y:AC) (_:@Eq AC (anF Tryz.prog 148 mu1 [999970,999971,999972,999973,999980,999981,999982,999983,999990,999991,999992,999993,1000000,1000001,1000002,1000003,1000004,1000005,1000006,1000007] 258048 1048575 [0]) y)=>y
 conv=>lhs;reduce;dsimp
theorem fn148:factOf Tryz.prog 148=some (ac148.strip,[],28):=by kernel_rfl
theorem ok148:ac148.okAll=true:=by kernel_rfl
def ac101:AC:=by
 apply fun (y:AC) (_:@Eq AC (anD [⟨1,[.freeze (1,0)],[],none⟩,⟨13,[.freeze (5,0)],[],none⟩] (anF Tryz.prog 101 mu1 [] 0 0 [])) y)=>y
 conv=>lhs;reduce;dsimp
theorem fn101:factOf Tryz.prog 101=some (ac101.strip,[.tmp 2],41):=by kernel_rfl
theorem ok101:ac101.okAll=true:=by kernel_rfl
def xc19e:AC:=by
 apply fun (y:AC) (_:@Eq AC (anS 33 [⟨36,[.canV 21 (999980,1),.freeze (999980,1)],[],none⟩] [] (anF Tryz.prog 19 mu1 [] 0 0 [])) y)=>y
 conv=>lhs;reduce;dsimp
def xc19d:AC:=(fun (z0:AC)=>by
 apply fun (y:AC) (_:@Eq AC (anS 21 [⟨33,[],[],some z0⟩,⟨44,[],[.zslC (8,0) 0 6],none⟩] [] (anF Tryz.prog 19 mu1 [] 0 0 [])) y)=>y
 conv=>lhs;reduce;dsimp) xc19e
def xc19c:AC:=(fun (z0:AC)=>by
 apply fun (y:AC) (_:@Eq AC (anS 14 [⟨21,[],[],some z0⟩] [] (anF Tryz.prog 19 mu1 [] 0 0 [])) y)=>y
 conv=>lhs;reduce;dsimp) xc19d
def xc19b:AC:=(fun (z0:AC)=>by
 apply fun (y:AC) (_:@Eq AC (anS 13 [⟨14,[],[.ownC (8,0) 0 (82,0) 60 6],some z0⟩] [] (anF Tryz.prog 19 mu1 [] 0 0 [])) y)=>y
 conv=>lhs;reduce;dsimp) xc19c
def ac19:AC:=(fun (z0:AC)=>by
 apply fun (y:AC) (_:@Eq AC (anD [⟨3,[],[.zslC (8,0) 0 6],none⟩,⟨13,[.freeze (39,0)],[],some z0⟩] (anF Tryz.prog 19 mu1 [] 0 0 [])) y)=>y
 conv=>lhs;reduce;dsimp) xc19b
theorem fn19:factOf Tryz.prog 19=some (ac19.strip,[.cell 8 false 1],150):=by kernel_rfl
theorem ok19:ac19.okAll=true:=by kernel_rfl
def ac41:AC:=by
 apply fun (y:AC) (_:@Eq AC (anF Tryz.prog 41 mu1 [] 0 0 []) y)=>y
 conv=>lhs;reduce;dsimp
theorem fn41:factOf Tryz.prog 41=some (ac41.strip,[.tmp 4],6):=by kernel_rfl
theorem ok41:ac41.okAll=true:=by kernel_rfl
def ac45:AC:=by
 apply fun (y:AC) (_:@Eq AC (anF Tryz.prog 45 mu1 [] 0 0 []) y)=>y
 conv=>lhs;reduce;dsimp
theorem fn45:factOf Tryz.prog 45=some (ac45.strip,[.tmp 4],19):=by kernel_rfl
theorem ok45:ac45.okAll=true:=by kernel_rfl
def ac46:AC:=by
 apply fun (y:AC) (_:@Eq AC (qk [0,1,2] (qs (qr [(qp 3 (.box (.v 0))),(qp 4 (.mov (.c (.bool false))))]) (qk [1,2,3] (qs (qr [(qp 6 (qf 3 3)),(yk 7 6 [0]),(yl 8 1),(qp 9 (qf 4 3)),(yk 10 9 [3]),(qi 11 (.mm true (.v 8) (.v 10)) [2,4]),(qp 12 (qf 4 3)),(yk 13 12 [6]),(qp 14 (qf 5 3)),(yk 15 14 [8]),(yb 16 .add 13 15 [7,9]),(yc 17 .sub 16 (qz 1) [10]),(qi 18 (.mm false (.v 11) (.v 17)) [5,11]),(qi 19 (.build [.int .i64 0,.int .i64 0] [(0,1,.v 7),(1,1,.v 18)]) [1,12]),(qp 5 (.alloc [.int .i64 0,.int .i64 0])),(qo (.store 2 (.v 5) (.v 19)) [14,13,0,1,2,3,4,5,6,7,8,9,10,11,12,13,14])]) (qk [1,2,3,5] (qs (qr [(qp 20 (qf 5 3)),(yk 21 20 [0]),(yc 22 .gtr 21 (qz 0) [1]),(yn 23 22 [2]),(qg 24 (qt 2 5) 23 true [3]),(qg 25 (ql 2) 23 true [3]),(qg 26 (ql 1) 23 true [3]),(qg 27 (.build [.int .i64 0,.int .i64 0] [(0,1,.v 25),(1,1,.v 26)]) 23 true [5,6,3]),(qg 28 (.eqs false 2 [(0,1),(1,1)] (.v 24) (.v 27)) 23 true [4,7,3]),(qi 29 (.pick (.v 23) (.v 28) (.c (.bool false))) [3,8]),(yn 4 29 [9,3,0,1,2,3,4,5,6,7,8,9])]) (qk [4] .ret))))))) y)=>y
 dsimp
theorem fn46:factOf Tryz.prog 46=some (ac46.strip,[.tmp 4],30):=by kernel_rfl
theorem ok46:ac46.okAll=true:=by kernel_rfl
def ac18:AC:=by
 apply fun (y:AC) (_:@Eq AC (anD [⟨1,[.freeze (7,0),.freeze (6,0)],[],none⟩] (anF Tryz.prog 18 mu1 [] 0 0 [])) y)=>y
 conv=>lhs;reduce;dsimp
theorem fn18:factOf Tryz.prog 18=some (ac18.strip,[.tmp 8,.tmp 9],20):=by kernel_rfl
theorem ok18:ac18.okAll=true:=by kernel_rfl
def ac15:AC:=by
 apply fun (y:AC) (_:@Eq AC (anD [⟨2,[],[.ownC (5,0) 0 (15,0) 60 6],none⟩] (anF Tryz.prog 15 mu1 [] 0 0 [])) y)=>y
 conv=>lhs;reduce;dsimp
theorem fn15:factOf Tryz.prog 15=some (ac15.strip,[.tmp 4],17):=by kernel_rfl
theorem ok15:ac15.okAll=true:=by kernel_rfl
def ac84:AY:=(.ghost (.keep [0,1,2])
 (.seq (.reg [⟨some 4,.mov (.c (.int .i64 0)),none,[]⟩])
 (.ghost (.keep [0,1,2,4]) (.seq (.reg [⟨some 10,.faddr 2 (.v 1),none,[]⟩,
  ⟨some 11,.load false 1 (.v 10),none,[0]⟩,
  ⟨some 12,.len false (.v 11),none,[1]⟩,
  ⟨some 13,.mov (.c (.int .i64 0)),none,[]⟩])
 (.ghost (.keep [0,1,2,4,11,12,13]) (.block 0 (.loop (.ghost (.keep [0,1,2,4,11,12,13]) (.seq (.reg [⟨some 14,.bin .lss (.v 13) (.v 12),none,[]⟩])
 (.ghost (.keep [0,1,2,4,11,12,13,14]) (.seq (.cond (.v 14)
 .skip
 (.exit 0))
 (.ghost (.keep [0,1,2,4,11,12,13]) (.seq (.block 1 (.seq (.reg [⟨some 15,.mov (.v 13),none,[]⟩,
  ⟨some 16,.iaddr 4 (.v 11) (.v 13),none,[]⟩,
  ⟨some 17,.load true 4 (.v 16),none,[1]⟩,
  ⟨some 6,.alloc [.str ⟨#[]⟩,.int .i64 0,.nsl,.int .i64 0],none,[]⟩,
  ⟨some 5,.mov (.v 15),none,[0,0,1,2,3]⟩,
  ⟨none,.store 4 (.v 6) (.v 17),none,[3,2,4,0,1,2,3,4]⟩])
 (.ghost (.keep [0,1,2,4,5,6,11,12,13]) (.seq (.reg [⟨some 18,.load false 1 (.v 2),none,[]⟩,
  ⟨some 19,.faddr 0 (.v 6),none,[]⟩,
  ⟨some 20,.load false 1 (.v 19),none,[1]⟩,
  ⟨some 21,.faddr 1 (.v 6),none,[]⟩,
  ⟨some 22,.load true 3 (.v 21),none,[3]⟩,
  ⟨some 23,.faddr 0 (.v 1),none,[]⟩,
  ⟨some 24,.load false 1 (.v 23),none,[5]⟩,
  ⟨some 25,.call 19 [.v 18,.v 20,.v 22,.v 24],none,[0,2,4,6]⟩,
  ⟨some 7,.mov (.v 25),none,[7,7,0,1,2,3,4,5,6,7]⟩])
 (.ghost (.keep [0,1,2,4,5,7,11,12,13]) (.seq (.reg [⟨some 8,.mov (.c (.int .i64 1)),none,[]⟩])
 (.ghost (.keep [0,1,2,4,5,7,8,11,12,13]) (.seq (.seq (.reg [⟨some 26,.mov (.v 7),none,[]⟩,
  ⟨some 27,.len false (.v 26),none,[0]⟩,
  ⟨some 28,.mov (.c (.int .i64 0)),none,[]⟩])
 (.ghost (.keep [0,1,2,4,5,7,8,11,12,13,27,28]) (.block 2 (.loop (.ghost (.keep [0,1,2,4,5,7,8,11,12,13,27,28]) (.seq (.reg [⟨some 29,.bin .lss (.v 28) (.v 27),none,[]⟩])
 (.ghost (.keep [0,1,2,4,5,7,8,11,12,13,27,28,29]) (.seq (.cond (.v 29)
 .skip
 (.exit 2))
 (.ghost (.keep [0,1,2,4,5,7,8,11,12,13,27,28]) (.seq (.block 3 (.seq (.reg [⟨some 30,.mov (.v 28),none,[]⟩,
  ⟨some 9,.mov (.v 30),none,[0,0]⟩])
 (.ghost (.keep [0,1,2,4,5,7,8,9,11,12,13,27,28]) (.seq (.reg [⟨some 31,.mov (.v 8),none,[]⟩,
  ⟨some 32,.mov (.v 7),none,[]⟩,
  ⟨some 33,.mov (.v 9),none,[]⟩,
  ⟨some 34,.iaddr 6 (.v 32) (.v 33),none,[1,2]⟩,
  ⟨some 35,.faddr 3 (.v 34),none,[3]⟩,
  ⟨some 36,.load false 1 (.v 35),none,[4]⟩,
  ⟨some 37,.bin .add (.v 36) (.c (.int .i64 1)),none,[5]⟩,
  ⟨some 38,.mm true (.v 31) (.v 37),none,[0,6]⟩,
  ⟨some 8,.mov (.v 38),none,[7,0,1,2,3,4,5,6,7]⟩])
 (.ghost (.keep [0,1,2,4,5,7,8,9,11,12,13,27,28]) (.reg [⟨some 39,.mov (.v 7),none,[]⟩,
  ⟨some 40,.mov (.v 9),none,[]⟩,
  ⟨some 41,.mov (.v 7),none,[]⟩,
  ⟨some 42,.mov (.v 9),none,[]⟩,
  ⟨some 43,.mov (.v 5),none,[]⟩,
  ⟨some 44,.mov (.v 7),none,[]⟩,
  ⟨some 45,.mov (.v 9),none,[]⟩,
  ⟨some 46,.iaddr 6 (.v 44) (.v 45),none,[5,6]⟩,
  ⟨some 47,.faddr 3 (.v 46),none,[7]⟩,
  ⟨some 48,.load false 1 (.v 47),none,[8]⟩,
  ⟨some 49,.mov (.v 4),none,[]⟩,
  ⟨some 50,.bin .add (.v 48) (.v 49),none,[9,10]⟩,
  ⟨some 51,.iaddr 6 (.v 39) (.v 40),none,[0,1,0,1,4,9]⟩,
  ⟨some 52,.faddr 0 (.v 51),none,[12,0,1,4,9]⟩,
  ⟨none,.store 1 (.v 52) (.v 43),none,[13,4,0,1,4,9]⟩,
  ⟨some 53,.iaddr 6 (.v 41) (.v 42),none,[2,3,0,1,2,3,4,5,6,7,8,9,10,11,12,13,14]⟩,
  ⟨some 54,.faddr 3 (.v 53),none,[15,0,1,2,3,4,5,6,7,8,9,10,11,12,13,14]⟩,
  ⟨none,.store 1 (.v 54) (.v 50),none,[16,11,14,0,1,2,3,4,5,6,7,8,9,10,11,12,13,14]⟩]))))))
 (.ghost (.keep [0,1,2,4,5,7,8,11,12,13,27,28]) (.reg [⟨some 55,.bin .add (.v 28) (.c (.int .i64 1)),none,[]⟩,
  ⟨some 28,.mov (.v 55),none,[0]⟩]))))))))))))
 (.ghost (.keep [0,1,2,4,5,7,8,11,12,13]) (.seq (.reg [⟨some 56,.mov (.v 4),none,[]⟩,
  ⟨some 57,.mov (.v 8),none,[]⟩,
  ⟨some 58,.bin .add (.v 56) (.v 57),none,[0,1]⟩,
  ⟨some 4,.mov (.v 58),none,[2,0,1,2]⟩])
 (.ghost (.freeze (25,0)) (.ghost (.keep [0,1,2,4,5,7,11,12,13]) (.seq (.yield false [⟨⟨some 59,.mov (.v 0),none,[]⟩,[60,61],[],[],[],2⟩,
  ⟨⟨some 60,.mov (.v 5),none,[]⟩,[59,61],[],[],[0],2⟩,
  ⟨⟨some 61,.mov (.v 7),none,[]⟩,[59,60],[],[],[0,1],2⟩]
  ⟨some 62,.callv (.v 59) [.v 60,.v 61],none,[0,1,2]⟩ [⟨some 63,.un .not (.v 62),none,[3]⟩])
 (.ghost (.keep [0,1,2,4,11,12,13,63]) (.cond (.v 63)
 .ret
 .skip)))))))))))))))
 (.ghost (.keep [0,1,2,4,11,12,13]) (.reg [⟨some 64,.bin .add (.v 13) (.c (.int .i64 1)),none,[]⟩,
  ⟨some 13,.mov (.v 64),none,[0]⟩])))))))))))))))
theorem fn84:factOf Tryz.prog 84=some (ac84.strip,[],65):=by kernel_rfl
theorem ok84:ac84.okAll=true:=by kernel_rfl
def ac12:AC:=by
 apply fun (y:AC) (_:@Eq AC (let e0:=[11,34,35,36,37,38,39,40,41,42];let e1:=[11,29,32];let e2:=[11,26,27,28,29,30,31,32,33,38,39,40,41,42];let e3:=[11,26,27,28,29,30,31,32,33,34,35,36,37,38];let e4:=[0,1,2,3,4,5,6,7,8,9,10,11];let e5:=[1,5,6,7,8,19,20,21];let e6:=[11,26,27,28,29,30,31,32,33,34,35,36,37];let e7:=[0,1,2,3,4,5,6,7,8,9,10,11,12];let e8:=[0,1,2,3,4,5,6,7];let e9:=[11];let e10:=[44,47,48,49,50,51,52];let e11:=[44,45,46,49,50,51,52];let e12:=[0,1,2,3,4];(qk [0,1] (qs (qr [(qp 4 (.mov (.c .nsl)))]) (qk [0,1] (qs (qr [(ym 12 0),(ym 13 1),(qi 14 (.call 21 [.v 12,.v 13]) [0,1]),(ym 15 1),(qi 16 (.call 22 [.v 15]) [3,2]),(yn 5 14 [2,4,0,1,2]),(yn 6 16 [4,5,0,1,2,3,4,5])]) (qk [1,5,6] (qs (qr [(qp 7 (.mov (.c .nsl)))]) (.ghost (.own 7 55 80 3) (qk [1,5,6,7] (qs (qr [(qp 17 (.build [.bool false,.int .i64 0,.int .i64 0] [(0,1,.c (.bool true))])),(qp 8 (.alloc [.bool false,.int .i64 0,.int .i64 0])),(qo (.store 3 (.v 8) (.v 17)) [1,0,0,1])]) (qk [1,5,6,7,8] (qs (qs (qr [(ym 18 1),(qi 19 (.call 23 [.v 18]) [0]),(yh 20 19 [1]),(qp 21 (.mov (qz 0)))]) (qk e5 (.block 0 (.loop (qk e5 (qs (qr [(qp 22 (qb .lss 21 20))]) (qk [1,5,6,7,8,19,20,21,22] (qs (qq (.v 22) .skip (.exit 0)) (qk e5 (qs (.block 1 (qs (qr [(ym 23 21),(qp 24 (qj 2 19 21)),(qi 25 (qt 2 24) [1]),(qp 10 (.alloc [.int .i64 0,.int .i64 0])),(yn 9 23 [0,0,1,2,3]),(qo (.store 2 (.v 10) (.v 25)) [3,2,4,0,1,2,3,4])]) (qk [1,5,6,7,8,9,10,19,20,21] (qs (qd [(qa (ym 26 1) [11,27,28,29,34,35,36,37,38,39,40,41,42] [11,29] [] [] 2),(qa (ym 27 1) [11,26,28,34,35,36,37,38,39,40,41,42] e9 [] [0] 2),(qa (qp 28 (qt 2 10)) [11,26,27,34,35,36,37,38,39,40,41,42] e9 [] [0,1] 0),(qa (qi 29 (.call 25 [.v 27,.v 28]) [1,2]) [11,26,34,35,36,37,38,39,40,41,42] e9 [29] [0] 0),(qa (qi 30 (.idxS (.v 26) (.v 29)) [0,3]) e0 e9 [] [] 2),(qa (qi 31 (.conv .i64 (.v 30)) [4]) e0 e9 [] [] 2),(qa (qi 32 (.call 24 [.v 31]) [5,3]) e0 e9 [32] [] 0),(qa (yc 33 .eql 32 (qz 1) [6]) e0 e9 [] [] 2),(qa (ym 34 5) [11,26,27,28,29,30,31,32,33,35,38,39,40,41,42] e1 [] e8 2),(qa (ym 35 9) [11,26,27,28,29,30,31,32,33,34,38,39,40,41,42] e1 [] [0,1,2,3,4,5,6,7,8] 2),(qa (yj 36 1 34 35 [8,9]) e2 e1 [] e8 2),(qa (yk 37 36 [10]) e2 e1 [] e8 0),(qa (ym 38 6) [11,26,27,28,29,30,31,32,33,34,35,36,37,39,40] e1 [] e4 2),(qa (qp 39 (qf 0 10)) e3 e1 [] e7 2),(qa (yk 40 39 [13]) e3 e1 [] e7 0),(qa (yj 41 1 38 40 [12,14]) e6 e1 [] e4 2),(qa (yk 42 41 [15]) e6 e1 [] e4 0),(qa (qi 43 (.build [.bool false,.int .i64 0,.int .i64 0] [(0,1,.v 33),(1,1,.v 37),(2,1,.v 42)]) [7,11,16]) e9 e9 [] [] 2),(qa (qp 11 (.alloc [.bool false,.int .i64 0,.int .i64 0])) [26,27,28,29,30,31,32,33,34,35,36,37,38,39,40,41,42,43] [29,32] e9 [0,1,2,3,4,5,6,7,8,9,10,11,12,13,14,15,16,17] 0),(qa (qo (.store 3 (.v 11) (.v 43)) [18,17,6,0,1,2,3,4,5,6,7,8,9,10,11,12,13,14,15,16,17,18]) [] [] e9 [] 1)]) (qk [1,5,6,7,8,9,10,11,19,20,21] (qs (.block 2 (qs (qr [(qp 57 (qf 0 11)),(yk 58 57 [0]),(yn 56 58 [1])]) (qk [1,5,6,7,8,9,10,11,19,20,21,56] (qq (.v 56) .skip (qs (qr [(qp 60 (qt 3 11)),(qp 61 (qt 3 8)),(qi 62 (.eqs false 3 [(0,0),(1,1),(2,1)] (.v 60) (.v 61)) [0,1]),(yn 59 62 [2])]) (qk [1,5,6,7,8,9,10,11,19,20,21,59] (qq (.v 59) (qr [(ym 63 7),(ym 64 7),(yh 65 64 [1]),(yc 66 .sub 65 (qz 1) [2]),(qp 67 (qf 1 10)),(yk 68 67 [4]),(yj 69 3 63 66 [0,3,0,1,2,3,4,5]),(yf 70 1 69 [6,0,1,2,3,4,5]),(qo (.store 1 (.v 70) (.v 68)) [7,5,0,1,2,3,4,5])]) (qd [(qa (ym 44 7) [45,46,47,48,49,50,51,52,53,54] [54] [] [] 2),(qe (qp 45 (qf 0 10)) e10 [0] 2),(qe (yk 46 45 [1]) e10 [0] 2),(qe (qp 47 (qf 1 10)) e11 [0,1,2] 2),(qe (yk 48 47 [3]) e11 [0,1,2] 2),(qe (ym 49 5) [44,45,46,47,48,50] e12 2),(qe (ym 50 9) [44,45,46,47,48,49] [0,1,2,3,4,5] 2),(qe (yj 51 1 49 50 [5,6]) [44,45,46,47,48] e12 2),(qe (yk 52 51 [7]) [44,45,46,47,48] e12 2),(qe (qi 53 (.build [.int .i64 0,.int .i64 0,.int .i64 0] [(0,1,.v 46),(1,1,.v 48),(2,1,.v 52)]) [2,4,8]) [44] [0] 2),(qa (qi 54 (.bslice 80 3 1 [.int .i64 0,.int .i64 0,.int .i64 0] [(0,3,.v 53)]) [9]) [44] [] [54] [0] 1),(qa (qi 55 (.app 80 3 24 (.v 44) (.v 54)) [0,10]) [] [] [55] [] 1),(qe (yn 7 55 [11,11,0,1,2,3,4,5,6,7,8,9,10,11]) [] [] 2)])))))))) (qk [1,5,6,7,8,11,19,20,21] (qr [(qp 71 (qt 3 11)),(qo (.store 3 (.v 8) (.v 71)) [0,0])])))))))) (qk e5 (qr [(qp 72 (qc .add 21 (qz 1))),(yn 21 72 [0])])))))))))))) (qk [7] (qs (qr [(ym 73 7),(yn 4 73 [0,0])]) (qk [4] .ret))))))))))))))) y)=>y
 dsimp
theorem fn12:factOf Tryz.prog 12=some (ac12.strip,[.tmp 4],74):=by kernel_rfl
theorem ok12:ac12.okAll=true:=by kernel_rfl
def ac11:AC:=by
 apply fun (y:AC) (_:@Eq AC (qk [0,1] (qs (qr [(qp 4 (.mov (.c (.bool false))))]) (qk [0,1] (qs (qs (qr [(ym 6 0),(yh 7 6 [0]),(ym 8 1),(yh 9 8 [2]),(yb 10 .neq 7 9 [1,3])]) (qk [0,1,10] (qq (.v 10) (qs (qr [(qp 4 (.mov (.c (.bool false))))]) (qk [4] .ret)) .skip))) (qk [0,1] (qs (qs (qr [(qp 5 (.mov (qz 0)))]) (qk [0,1,5] (.block 0 (.loop (qk [0,1,5] (qs (qs (qr [(ym 11 5),(ym 12 0),(yh 13 12 [1]),(yb 14 .lss 11 13 [0,2])]) (qk [0,1,5,14] (qq (.v 14) .skip (.exit 0)))) (qk [0,1,5] (qs (.block 1 (qs (qd [(qe (ym 17 0) [18,21,22,23,24] [] 2),(qe (ym 18 5) [17,21,22,23,24] [0] 2),(qe (yj 19 3 17 18 [0,1]) [21,22,23,24] [] 2),(qe (qi 20 (qt 3 19) [2]) [21,22,23,24] [] 2),(qe (ym 21 1) [17,18,19,20,22] [0,1,2,3] 2),(qe (ym 22 5) [17,18,19,20,21] [0,1,2,3,4] 2),(qe (yj 23 3 21 22 [4,5]) [17,18,19,20] [0,1,2,3] 2),(qe (qi 24 (qt 3 23) [6]) [17,18,19,20] [0,1,2,3] 2),(qe (qi 25 (.eqs true 3 [(0,1),(1,1),(2,1)] (.v 20) (.v 24)) [3,7]) [] [] 2)]) (qk [0,1,5,25] (qq (.v 25) (qs (qr [(qp 4 (.mov (.c (.bool false))))]) (qk [4] .ret)) .skip)))) (qk [0,1,5] (qr [(ym 15 5),(yc 16 .add 15 (qz 1) [0]),(yn 5 16 [1,0,1])])))))))))) (qk [] (qs (qr [(qp 4 (.mov (.c (.bool true))))]) (qk [4] .ret))))))))) y)=>y
 dsimp
theorem fn11:factOf Tryz.prog 11=some (ac11.strip,[.tmp 4],26):=by kernel_rfl
theorem ok11:ac11.okAll=true:=by kernel_rfl
def ac16:AC:=by
 apply fun (y:AC) (_:@Eq AC (qk [0,1] (qs (qr [(qp 4 (.mov (.c (.bool false))))]) (qk [0,1] (qs (qs (qr [(ym 6 0),(yh 7 6 [0]),(ym 8 1),(yh 9 8 [2]),(yb 10 .neq 7 9 [1,3])]) (qk [0,1,10] (qq (.v 10) (qs (qr [(qp 4 (.mov (.c (.bool false))))]) (qk [4] .ret)) .skip))) (qk [0,1] (qs (qs (qr [(qp 5 (.mov (qz 0)))]) (qk [0,1,5] (.block 0 (.loop (qk [0,1,5] (qs (qs (qr [(ym 11 5),(ym 12 0),(yh 13 12 [1]),(yb 14 .lss 11 13 [0,2])]) (qk [0,1,5,14] (qq (.v 14) .skip (.exit 0)))) (qk [0,1,5] (qs (.block 1 (qs (qd [(qe (ym 17 0) [18,21,22,23,24] [] 2),(qe (ym 18 5) [17,21,22,23,24] [0] 2),(qe (yj 19 6 17 18 [0,1]) [21,22,23,24] [] 2),(qe (qi 20 (qt 6 19) [2]) [21,22,23,24] [] 2),(qe (ym 21 1) [17,18,19,20,22] [0,1,2,3] 2),(qe (ym 22 5) [17,18,19,20,21] [0,1,2,3,4] 2),(qe (yj 23 6 21 22 [4,5]) [17,18,19,20] [0,1,2,3] 2),(qe (qi 24 (qt 6 23) [6]) [17,18,19,20] [0,1,2,3] 2),(qe (qi 25 (.eqs true 6 [(0,1),(1,1),(2,1),(3,1),(4,1),(5,1)] (.v 20) (.v 24)) [3,7]) [] [] 2)]) (qk [0,1,5,25] (qq (.v 25) (qs (qr [(qp 4 (.mov (.c (.bool false))))]) (qk [4] .ret)) .skip)))) (qk [0,1,5] (qr [(ym 15 5),(yc 16 .add 15 (qz 1) [0]),(yn 5 16 [1,0,1])])))))))))) (qk [] (qs (qr [(qp 4 (.mov (.c (.bool true))))]) (qk [4] .ret))))))))) y)=>y
 dsimp
theorem fn16:factOf Tryz.prog 16=some (ac16.strip,[.tmp 4],26):=by kernel_rfl
theorem ok16:ac16.okAll=true:=by kernel_rfl
def ac29:AC:=by
 apply fun (y:AC) (_:@Eq AC (anF Tryz.prog 29 mu1 [] 0 0 []) y)=>y
 conv=>lhs;reduce;dsimp
theorem fn29:factOf Tryz.prog 29=some (ac29.strip,[.tmp 8],33):=by kernel_rfl
theorem ok29:ac29.okAll=true:=by kernel_rfl
def ac9:AC:=by
 apply fun (y:AC) (_:@Eq AC (anF Tryz.prog 9 mu1 [] 0 0 []) y)=>y
 conv=>lhs;reduce;dsimp
theorem fn9:factOf Tryz.prog 9=some (ac9.strip,[.tmp 0],97):=by kernel_rfl
theorem ok9:ac9.okAll=true:=by kernel_rfl
def ac28:AC:=by
 apply fun (y:AC) (_:@Eq AC (anD [⟨4,[.freeze (8,0),.freeze (10,0),.freeze (14,0)],[],none⟩] (anF Tryz.prog 28 mu1 [] 0 0 [])) y)=>y
 conv=>lhs;reduce;dsimp
theorem fn28:factOf Tryz.prog 28=some (ac28.strip,[.cell 0 true 3,.tmp 1],26):=by kernel_rfl
theorem ok28:ac28.okAll=true:=by kernel_rfl
def xc17b:AC:=by
 apply fun (y:AC) (_:@Eq AC (let e0:=[4,6,7,9,10,11,12,14,20,30,31,32];let e1:=[4,6,7,9,10,11,12,14,16,20,30,31,32];let e2:=[56,57,58,59,60,61,64,65];let e3:=[56,57,58,59,60,61,62,63];let e4:=[62,63,64,65];(qs (.block 3 (qs (qr [(qp 34 (qj 6 30 32)),(qi 35 (qt 6 34) [0]),(qp 16 (.alloc [.int .i64 0,.int .i64 0,.int .i64 0,.int .i64 0,.int .i64 0,.int .i64 0])),(qo (.store 6 (.v 16) (.v 35)) [2,1,0,1,2])]) (qk e1 (qs (qs (qr [(yl 36 10),(yl 37 6),(yb 38 .geq 36 37 [0,1]),(yn 39 38 [2]),(qg 40 (ql 10) 39 true [3]),(qg 41 (ql 7) 39 true [3]),(qg 42 (qb .lss 40 41) 39 true [4,5,3]),(qi 43 (.pick (.v 39) (.v 42) (.c (.bool false))) [3,6])]) (qk [4,6,7,9,10,11,12,14,16,20,30,31,32,43] (qq (.v 43) (qs (qs (qr [(yl 44 11),(yc 45 .geq 44 (qz 0) [0])]) (qk [4,6,7,9,10,11,12,14,16,20,30,31,32,45] (qq (.v 45) (qr [(ym 46 12),(yl 47 11),(yb 48 .sub 46 47 [0,1]),(qi 49 (.call 43 [.c (.str ⟨#[10]⟩),.v 48]) [2]),(qi 50 (.call 42 [.v 9,.v 49]) [3,3])]) .skip))) (qk e1 (qs (qr [(ym 51 14),(qp 52 (qf 1 16)),(yk 53 52 [1]),(yj 54 2 51 53 [0,2]),(qi 55 (qt 2 54) [3]),(qp 17 (.alloc [.int .i64 0,.int .i64 0])),(qo (.store 2 (.v 17) (.v 55)) [5,4,0,1,2,3,4,5])]) (qk [4,6,7,9,10,11,12,14,17,20,30,31,32] (qs (qd [(qe (qp 56 (qf 2 4)) [58,62,63,64,65] [] 2),(qe (yk 57 56 [0]) [58,62,63,64,65] [] 2),(qe (ym 58 12) [56,57,62,63,64,65] [0,1] 2),(qe (yj 59 4 57 58 [1,2]) e4 [] 2),(qe (yf 60 0 59 [3]) e4 [] 2),(qe (yk 61 60 [4]) e4 [] 2),(qe (qp 62 (qf 0 17)) e2 [0,1,2,3,4,5] 2),(qe (yk 63 62 [6]) e2 [0,1,2,3,4,5] 2),(qe (qp 64 (qf 1 17)) e3 [0,1,2,3,4,5,6,7] 2),(qe (yk 65 64 [8]) e3 [0,1,2,3,4,5,6,7] 2),(qe (qi 66 (.slcS (.v 61) (some (.v 63)) (some (.v 65))) [5,7,9]) [] [] 2),(qa (qi 67 (.call 42 [.v 9,.v 66]) [10]) [] [] [9,67,999990] [] 1)]) (qk e0 (qr [(ym 68 12),(qo (.store 1 (.v 11) (.v 68)) [0,0])]))))))) .skip))) (qk e0 (qr [(yl 69 10),(yc 70 .add 69 (qz 1) [0]),(qo (.store 1 (.v 10) (.v 70)) [1,0,1])])))))) (qk e0 (qr [(qp 71 (qc .add 32 (qz 1))),(yn 32 71 [0])])))) y)=>y
 dsimp
def ac17:AC:=by
 apply fun (y:AC) (_:@Eq AC (let e0:=[4,6,7,9,10,11,12,14,20,30,31,32];(qk [0,1,2,3] (qs (qr [(qp 4 (.box (.v 0))),(qp 6 (.box (.v 2))),(qp 7 (.box (.v 3))),(qp 8 (.mov (.c (.str ⟨#[]⟩))))]) (qk [1,4,6,7] (qs (qr [(qp 9 (.allocR 98 [.nptr,.nsl]))]) (qk [1,4,6,7,9] (qs (qr [(qp 10 (.alloc [.int .i64 0])),(qp 11 (.alloc [.int .i64 0])),(qo (.store 1 (.v 10) (qz 0)) [0,0,1]),(qo (.store 1 (.v 11) (qz (-1))) [1,2,0,1,2])]) (qk [1,4,6,7,9,10,11] (qs (qs (qr [(qp 18 (qt 3 4)),(ym 19 1),(qi 20 (.call 41 [.v 18,.v 19]) [0,1])]) (qk [4,6,7,9,10,11,20] (.block 0 (.rfun (.v 20) [21,22] [12,13,14,16,17,21,22,23,24,25,26,27,28,29,30,31,32,33,34,35,36,37,38,39,40,41,42,43,44,45,46,47,48,49,50,51,52,53,54,55,56,57,58,59,60,61,62,63,64,65,66,67,68,69,70,71] (qs (qr [(ym 12 21)]) (qk [4,6,7,9,10,11,12,20,22] (qr [(ym 13 22)]))) (qk [4,6,7,9,10,11,12,13,20] (.block 1 (qs (qr [(qp 23 (qf 2 4)),(yk 24 23 [0]),(ym 25 12),(yj 26 4 24 25 [1,2]),(yf 27 0 26 [3]),(yk 28 27 [4]),(qi 29 (.call 23 [.v 28]) [5]),(yn 14 29 [6,6,0,1,2,3,4,5,6])]) (qk [4,6,7,9,10,11,12,13,14,20] (qs (qr [(ym 30 13),(yh 31 30 [0]),(qp 32 (.mov (qz 0)))]) (qk e0 (.block 2 (.loop (qk e0 (qs (qr [(qp 33 (qb .lss 32 31))]) (qk [4,6,7,9,10,11,12,14,20,30,31,32,33] (qs (qq (.v 33) .skip (.exit 2)) (qk e0 xc17b))))))))))))))))) (qk [9] (qs (qr [(qp 72 (.call 44 [.v 9])),(yn 8 72 [0,0,0])]) (qk [8] .ret)))))))))))) y)=>y
 dsimp
theorem fn17:factOf Tryz.prog 17=some (ac17.strip,[.tmp 8],73):=by kernel_rfl
theorem ok17:ac17.okAll=true:=by kernel_rfl
def ac165:AC:=by
 apply fun (y:AC) (_:@Eq AC (anF Tryz.prog 165 mu2 [] 0 0 []) y)=>y
 conv=>lhs;reduce;dsimp
theorem fn165:factOf Tryz.prog 165=some (ac165.strip,[.tmp 2],11):=by kernel_rfl
theorem ok165:ac165.okAll=true:=by kernel_rfl
def ac200:AC:=by
 apply fun (y:AC) (_:@Eq AC (anF Tryz.prog 200 mu2 [] 0 0 []) y)=>y
 conv=>lhs;reduce;dsimp
theorem fn200:factOf Tryz.prog 200=some (ac200.strip,[.tmp 2],12):=by kernel_rfl
theorem ok200:ac200.okAll=true:=by kernel_rfl
def ac35:AC:=by
 apply fun (y:AC) (_:@Eq AC (anF Tryz.prog 35 mu2 [] 0 0 []) y)=>y
 conv=>lhs;reduce;dsimp
theorem fn35:factOf Tryz.prog 35=some (ac35.strip,[.tmp 2],61):=by kernel_rfl
theorem ok35:ac35.okAll=true:=by kernel_rfl
def ac129:AC:=by
 apply fun (y:AC) (_:@Eq AC (anF Tryz.prog 129 mu2 [] 0 0 []) y)=>y
 conv=>lhs;reduce;dsimp
theorem fn129:factOf Tryz.prog 129=some (ac129.strip,[.tmp 4],10):=by kernel_rfl
theorem ok129:ac129.okAll=true:=by kernel_rfl
def ac133:AC:=by
 apply fun (y:AC) (_:@Eq AC (anF Tryz.prog 133 mu2 [] 0 0 []) y)=>y
 conv=>lhs;reduce;dsimp
theorem fn133:factOf Tryz.prog 133=some (ac133.strip,[.tmp 2],6):=by kernel_rfl
theorem ok133:ac133.okAll=true:=by kernel_rfl
def ac78:AC:=by
 apply fun (y:AC) (_:@Eq AC (anF Tryz.prog 78 mu2 [] 0 0 []) y)=>y
 conv=>lhs;reduce;dsimp
theorem fn78:factOf Tryz.prog 78=some (ac78.strip,[.tmp 2],43):=by kernel_rfl
theorem ok78:ac78.okAll=true:=by kernel_rfl
def ac80:AC:=by
 apply fun (y:AC) (_:@Eq AC (anF Tryz.prog 80 mu2 [] 0 0 []) y)=>y
 conv=>lhs;reduce;dsimp
theorem fn80:factOf Tryz.prog 80=some (ac80.strip,[.tmp 2],23):=by kernel_rfl
theorem ok80:ac80.okAll=true:=by kernel_rfl
def xc79d:AC:=by
 apply fun (y:AC) (_:@Eq AC (anS 31 [] [] (anF Tryz.prog 79 mu2 [] 0 0 [])) y)=>y
 conv=>lhs;reduce;dsimp
def xc79b:AC:=(fun (z0:AC)=>by
 apply fun (y:AC) (_:@Eq AC (anS 20 [⟨31,[],[],some z0⟩] [] (anF Tryz.prog 79 mu2 [] 0 0 [])) y)=>y
 conv=>lhs;reduce;dsimp) xc79d
def xc79c:AC:=by
 apply fun (y:AC) (_:@Eq AC (anS 41 [] [] (anF Tryz.prog 79 mu2 [] 0 0 [])) y)=>y
 conv=>lhs;reduce;dsimp
def ac79:AC:=(fun (z0:AC)=>fun (z1:AC)=>by
 apply fun (y:AC) (_:@Eq AC (anD [⟨20,[],[],some z0⟩,⟨41,[],[],some z1⟩] (anF Tryz.prog 79 mu2 [] 0 0 [])) y)=>y
 conv=>lhs;reduce;dsimp) xc79b xc79c
theorem fn79:factOf Tryz.prog 79=some (ac79.strip,[.tmp 2],131):=by kernel_rfl
theorem ok79:ac79.okAll=true:=by kernel_rfl
def xc134c:AC:=by
 apply fun (y:AC) (_:@Eq AC (anS 21 [] [] (anF Tryz.prog 134 mu2 [] 0 0 [])) y)=>y
 conv=>lhs;reduce;dsimp
def xc134b:AC:=(fun (z0:AC)=>by
 apply fun (y:AC) (_:@Eq AC (anS 16 [⟨21,[],[],some z0⟩] [] (anF Tryz.prog 134 mu2 [] 0 0 [])) y)=>y
 conv=>lhs;reduce;dsimp) xc134c
def ac134:AC:=(fun (z0:AC)=>by
 apply fun (y:AC) (_:@Eq AC (anD [⟨16,[],[],some z0⟩] (anF Tryz.prog 134 mu2 [] 0 0 [])) y)=>y
 conv=>lhs;reduce;dsimp) xc134b
theorem fn134:factOf Tryz.prog 134=some (ac134.strip,[.tmp 2],78):=by kernel_rfl
theorem ok134:ac134.okAll=true:=by kernel_rfl
def ac169:AC:=by
 apply fun (y:AC) (_:@Eq AC (anF Tryz.prog 169 mu2 [] 0 0 []) y)=>y
 conv=>lhs;reduce;dsimp
theorem fn169:factOf Tryz.prog 169=some (ac169.strip,[.tmp 6],45):=by kernel_rfl
theorem ok169:ac169.okAll=true:=by kernel_rfl
def ac171:AC:=by
 apply fun (y:AC) (_:@Eq AC (anF Tryz.prog 171 mu2 [] 0 0 []) y)=>y
 conv=>lhs;reduce;dsimp
theorem fn171:factOf Tryz.prog 171=some (ac171.strip,[.tmp 2],6):=by kernel_rfl
theorem ok171:ac171.okAll=true:=by kernel_rfl
def ac132:AC:=by
 apply fun (y:AC) (_:@Eq AC (anF Tryz.prog 132 mu2 [] 0 0 []) y)=>y
 conv=>lhs;reduce;dsimp
theorem fn132:factOf Tryz.prog 132=some (ac132.strip,[.tmp 2],55):=by kernel_rfl
theorem ok132:ac132.okAll=true:=by kernel_rfl
def ac172:AC:=by
 apply fun (y:AC) (_:@Eq AC (anF Tryz.prog 172 mu2 [] 0 0 []) y)=>y
 conv=>lhs;reduce;dsimp
theorem fn172:factOf Tryz.prog 172=some (ac172.strip,[.tmp 6],73):=by kernel_rfl
theorem ok172:ac172.okAll=true:=by kernel_rfl
def ac131:AC:=by
 apply fun (y:AC) (_:@Eq AC (anF Tryz.prog 131 mu2 [] 0 0 []) y)=>y
 conv=>lhs;reduce;dsimp
theorem fn131:factOf Tryz.prog 131=some (ac131.strip,[.tmp 8],39):=by kernel_rfl
theorem ok131:ac131.okAll=true:=by kernel_rfl
def xc170b:AC:=by
 apply fun (y:AC) (_:@Eq AC (anS 18 [] [] (anF Tryz.prog 170 mu2 [] 0 0 [])) y)=>y
 conv=>lhs;reduce;dsimp
def ac170:AC:=(fun (z0:AC)=>by
 apply fun (y:AC) (_:@Eq AC (anD [⟨18,[],[],some z0⟩] (anF Tryz.prog 170 mu2 [] 0 0 [])) y)=>y
 conv=>lhs;reduce;dsimp) xc170b
theorem fn170:factOf Tryz.prog 170=some (ac170.strip,[.tmp 6],65):=by kernel_rfl
theorem ok170:ac170.okAll=true:=by kernel_rfl
def xc83d:AC:=by
 apply fun (y:AC) (_:@Eq AC (anS 41 [] [] (anF Tryz.prog 83 mu2 [] 0 0 [])) y)=>y
 conv=>lhs;reduce;dsimp
def xc83c:AC:=(fun (z0:AC)=>by
 apply fun (y:AC) (_:@Eq AC (anS 28 [⟨40,[.canV 20 (4,2),.freeze (4,2)],[],none⟩,⟨41,[],[],some z0⟩] [] (anF Tryz.prog 83 mu2 [] 0 0 [])) y)=>y
 conv=>lhs;reduce;dsimp) xc83d
def xc83b:AC:=(fun (z0:AC)=>by
 apply fun (y:AC) (_:@Eq AC (anS 23 [⟨28,[],[],some z0⟩] [] (anF Tryz.prog 83 mu2 [] 0 0 [])) y)=>y
 conv=>lhs;reduce;dsimp) xc83c
def ac83:AC:=(fun (z0:AC)=>by
 apply fun (y:AC) (_:@Eq AC (anD [⟨15,[.canV 13 (4,1),.freeze (4,1)],[],none⟩,⟨23,[],[],some z0⟩] (anF Tryz.prog 83 mu2 [] 0 0 [])) y)=>y
 conv=>lhs;reduce;dsimp) xc83b
theorem fn83:factOf Tryz.prog 83=some (ac83.strip,[.tmp 8],161):=by kernel_rfl
theorem ok83:ac83.okAll=true:=by kernel_rfl
def ac38:AC:=by
 apply fun (y:AC) (_:@Eq AC (anF Tryz.prog 38 mu2 [] 0 0 []) y)=>y
 conv=>lhs;reduce;dsimp
theorem fn38:factOf Tryz.prog 38=some (ac38.strip,[.tmp 8,.tmp 9],53):=by kernel_rfl
theorem ok38:ac38.okAll=true:=by kernel_rfl
def ac39:AC:=by
 apply fun (y:AC) (_:@Eq AC (anF Tryz.prog 39 mu2 [] 0 0 []) y)=>y
 conv=>lhs;reduce;dsimp
theorem fn39:factOf Tryz.prog 39=some (ac39.strip,[.tmp 4],63):=by kernel_rfl
theorem ok39:ac39.okAll=true:=by kernel_rfl
def ac40:AC:=by
 apply fun (y:AC) (_:@Eq AC (anF Tryz.prog 40 mu2 [] 0 0 []) y)=>y
 conv=>lhs;reduce;dsimp
theorem fn40:factOf Tryz.prog 40=some (ac40.strip,[.tmp 8],73):=by kernel_rfl
theorem ok40:ac40.okAll=true:=by kernel_rfl
def ac13:AC:=by
 apply fun (y:AC) (_:@Eq AC (anF Tryz.prog 13 mu2 [] 0 0 []) y)=>y
 conv=>lhs;reduce;dsimp
theorem fn13:factOf Tryz.prog 13=some (ac13.strip,[.tmp 4],100):=by kernel_rfl
theorem ok13:ac13.okAll=true:=by kernel_rfl
def ac14:AC:=by
 apply fun (y:AC) (_:@Eq AC (anF Tryz.prog 14 mu2 [] 0 0 []) y)=>y
 conv=>lhs;reduce;dsimp
theorem fn14:factOf Tryz.prog 14=some (ac14.strip,[.tmp 6],65):=by kernel_rfl
theorem ok14:ac14.okAll=true:=by kernel_rfl
def ac3:AC:=by
 apply fun (y:AC) (_:@Eq AC (anF Tryz.prog 3 mu2 [] 0 0 []) y)=>y
 conv=>lhs;reduce;dsimp
theorem fn3:factOf Tryz.prog 3=some (ac3.strip,[.tmp 6],67):=by kernel_rfl
theorem ok3:ac3.okAll=true:=by kernel_rfl
end Go.Abs.A30
