/- A part of the proof: an abstract reading of the model, contracts of functions. -/
import Derived.Test.YtinblgdfhmllnaaGreatC25
import Derived.Test.YtinblgdfhmllnaaGreatProg
set_option linter.unusedVariables false
set_option linter.unusedSimpArgs false
namespace Go.Abs.A29
open Go Go.Abs Go.Proofs
set_option maxRecDepth 100000
set_option linter.unusedVariables false
set_option linter.unusedSimpArgs false
attribute [local simp ↓] awp_skip awp_seq awp_cond awp_block awp_exit awp_ret awp_reg awp_draw awp_ghost awp_loop awp_rfun awpR_nil awpR_cons awpX_nil awpX_0 awpX_1 awpX_2 awpI_eq awpI_t awpI_f awpStep_eq
attribute [local simp] condL_true condL_false condL_dec evDel evV evN evS evA initFr Ghost.app Fr.var Fr.blk Fr.ff FF.val Abs.look Fr.app Fr.erase Fr.noSlot AV.noSlot AV.noSlotL Blk.noSlot Fr.spoken AV.fz AV.fzL Blk.fz binV binI shI binS unV fillA FF.parts FF.vals headO intO boundO lenV scalarEq leavesEq AV.aggc AV.cells FF.read FF.rows AV.one PV.one chunk freshB newS pickV retK evRs evRl evR resOf mkTup mkAgg allP cloOf okP_nil okX_p okX okP addN Del.noSlot Del.owners Rnd reify_p normM insM Fr.back Fr.backV Fr.setPs normV insV
attribute [local simp] renF Fr.trim Blk.trim AV.rn AV.rnL Blk.rn AV.among AV.amongL Blk.among okF retM fixS BIG initFF
attribute [local simp] FF.reify FF.reifyL PV.flat
attribute [local simp] ym yn yl yk yb yc yf yj yh qp qe qi qo qg qa qk qz qm ql qt qf qj qn qb qc qs qr qq qd
section
def xc17e:AC:=by
 apply fun (y:AC) (_:@Eq AC (let e0:=[1,3,8,9,10,12,16,18,19,20,22,131];let e1:=[1,3,8,9,10,12,16,18,19,20,21];(qs (qs (qr [(yl 124 20),(ym 125 3),(yb 126 .add 124 125 [0,1]),(qo (.store 1 (.v 20) (.v 126)) [2,0,1,2])]) (qk e1 (qs (qr [(ym 127 1),(qi 128 (.call 47 [.v 127]) [0]),(qi 129 (.un .not (.v 128)) [1])]) (qk [1,3,8,9,10,12,16,18,19,20,21,129] (qq (.v 129) (qr [(qo (.store 1 (.v 20) (qz 0)) [])]) .skip))))) (.ghost (.canV 21 (999980,1)) (.ghost (.freeze (999980,1)) (qk e1 (qs (qr [(ym 130 21),(qi 131 (.call 48 [.v 130]) [0])]) (qk [1,3,8,9,10,12,16,18,19,20,131] (.block 8 (.rfun (.v 131) [132] [22,132,133,134,135,136,137,138,139,140,141,142,143,144,145,146,147] (qr [(ym 22 132)]) (qk e0 (.block 9 (qs (qr [(yl 133 8),(yl 134 18),(ym 135 22),(yb 136 .add 134 135 [1,2]),(yl 137 20),(yj 138 6 133 136 [0,3,0,1,2,3,4]),(yf 139 4 138 [5,0,1,2,3,4]),(qo (.store 1 (.v 139) (.v 137)) [6,4,0,1,2,3,4])]) (qk e0 (qd [(qe (yl 140 20) [141,142,143,144,145,146] [] 2),(qe (yl 141 10) [140,142,143,144] [0] 2),(qe (yl 142 18) [140,141,143] [0,1] 2),(qe (ym 143 22) [140,141,142] [0,1,2] 2),(qe (yb 144 .add 142 143 [2,3]) [140,141] [0,1] 2),(qe (yj 145 1 141 144 [1,4]) [140] [0] 2),(qe (yk 146 145 [5]) [140] [0] 2),(qe (yb 147 .add 140 146 [0,6]) [] [] 2),(qa (qo (.store 1 (.v 20) (.v 147)) [7,0,1,2,3,4,5,6,7]) [] [] [20] [] 1)])))))))))))))) y)=>y
 dsimp
def xc17d:AC:=by
 apply fun (y:AC) (_:@Eq AC (let e0:=[1,3,8,9,10,12,16,18,19,20,21];let e1:=[1,3,8,9,10,12,16,18];let e2:=[1,3,8,9,10,12,16,18,19];(qs (qs (qr [(qp 18 (.alloc [.int .i64 0])),(qo (.store 1 (.v 18) (qz 0)) [0,0]),(qi 19 (.mov (qz 0)) [1,0,1])]) (qk e1 (.block 4 (.loop (qk e1 (qs (qs (qr [(yl 84 18),(ym 85 9),(yh 86 85 [1]),(yb 87 .lss 84 86 [0,2])]) (qk [1,3,8,9,10,12,16,18,87] (qq (.v 87) .skip (.exit 4)))) (qk e1 (qs (.block 5 (qs (qr [(qp 20 (.alloc [.int .i64 0])),(qo (.store 1 (.v 20) (qz 0)) [0,0]),(qi 21 (.mov (.c .nsl)) [1,0,1])]) (.ghost (.own 21 117 3 1) (qk [1,3,8,9,10,12,16,18,20,21] (qs (qs (qr [(yl 89 18),(yn 19 89 [0,0])]) (qk e0 (.block 6 (.loop (qk e0 (qs (qs (qd [(qe (ym 90 19) [91,92] [] 2),(qe (ym 91 9) [90] [0] 2),(qe (yh 92 91 [1]) [90] [0] 2),(qe (yb 93 .lss 90 92 [0,2]) [] [] 2),(qe (yn 94 93 [3]) [] [] 2),(qe (qg 95 (qm 16) 94 true [4]) [96,99,100,101,102] [] 2),(qe (qg 96 (qm 19) 94 true [4]) [95,99,100,101,102] [5] 2),(qe (qg 97 (qj 1 95 96) 94 true [5,6,4]) [99,100,101,102] [] 2),(qe (qg 98 (ql 97) 94 true [7,4]) [99,100,101,102] [] 2),(qe (qg 99 (qm 16) 94 true [4]) [95,96,97,98,100] [5,6,7,8] 2),(qe (qg 100 (ql 18) 94 true [4]) [95,96,97,98,99] [5,6,7,8,9] 2),(qe (qg 101 (qj 1 99 100) 94 true [9,10,4]) [95,96,97,98] [5,6,7,8] 2),(qe (qg 102 (ql 101) 94 true [11,4]) [95,96,97,98] [5,6,7,8] 2),(qe (qg 103 (qb .eql 98 102) 94 true [8,12,4]) [] [] 2),(qe (qi 104 (.pick (.v 94) (.v 103) (.c (.bool false))) [4,13]) [] [] 2)]) (qk [1,3,8,9,10,12,16,18,19,20,21,104] (qq (.v 104) .skip (.exit 6)))) (qk e0 (qs (.block 7 (qs (qr [(ym 107 21),(ym 108 12),(ym 109 9),(ym 110 19),(yj 111 2 109 110 [2,3]),(yf 112 0 111 [4]),(yk 113 112 [5]),(yj 114 1 108 113 [1,6]),(yk 115 114 [7]),(qi 116 (.bslice 3 1 1 [.int .i64 0] [(0,1,.v 115)]) [8]),(qi 117 (.app 3 1 8 (.v 107) (.v 116)) [0,9]),(yn 21 117 [10,10,0,1,2,3,4,5,6,7,8,9,10])]) (qk e0 (qd [(qe (yl 118 20) [119,120,121,122] [] 2),(qe (yl 119 10) [118,120] [0] 2),(qe (ym 120 19) [118,119] [0,1] 2),(qe (yj 121 1 119 120 [1,2]) [118] [0] 2),(qe (yk 122 121 [3]) [118] [0] 2),(qe (yb 123 .sub 118 122 [0,4]) [] [] 2),(qa (qo (.store 1 (.v 20) (.v 123)) [5,0,1,2,3,4,5]) [] [] [20] [] 1)])))) (qk e0 (qr [(ym 105 19),(yc 106 .add 105 (qz 1) [0]),(yn 19 106 [1,0,1])])))))))))) (qk e0 xc17e)))))) (qk e2 (qs (qs (qr [(yl 148 18)]) (qk [1,3,8,9,10,12,16,19,148] (qr [(qp 18 (.alloc [.int .i64 0])),(qo (.store 1 (.v 18) (.v 148)) [0,0])]))) (qk e2 (qr [(ym 88 19),(qo (.store 1 (.v 18) (.v 88)) [0,0])])))))))))))) (qk [8] (qs (qr [(yl 149 8),(qo (.store 1 (.v 8) (.v 149)) [0,0])]) (qk [8] (.ghost (.zslC (8,0) 0 6) .ret)))))) y)=>y
 dsimp
def xc17c:AC:=by
 apply fun (y:AC) (_:@Eq AC (let e0:=[1,3,8,9,10,11,12,16,62,63];let e1:=[0,1,2,3,4,5,6,7,8,9];let e2:=[66,67,72,73,74,75,76,77,78,79];let e3:=[66,67,68,69,70,71,76,77,78,79];let e4:=[66,67,68,69,70,71,72,73,74,75];let e5:=[0,1,2,3,4,5];(qs (qs (qr [(ym 61 9),(yh 62 61 [0]),(qp 63 (.mov (qz 0)))]) (qk e0 (.block 2 (.loop (qk e0 (qs (qr [(qp 64 (qb .lss 63 62))]) (qk [1,3,8,9,10,11,12,16,62,63,64] (qs (qq (.v 64) .skip (.exit 2)) (qk e0 (qs (.block 3 (qs (qr [(ym 65 63),(yn 17 65 [0,0])]) (qk [1,3,8,9,10,11,12,16,17,62,63] (qd [(qa (yl 66 8) [67,68,69,70,71,72,73,74,75,76,77,78,79,80,81] [81] [] [] 0),(qe (ym 67 17) [66,68,69,70,71,72,73,74,75,76,77,78,79] [0] 2),(qe (ym 68 11) [66,67,69,72,73,74,75,76,77,78,79] [0,1] 2),(qe (ym 69 17) [66,67,68,72,73,74,75,76,77,78,79] [0,1,2] 2),(qe (yj 70 1 68 69 [2,3]) e2 [0,1] 2),(qe (yk 71 70 [4]) e2 [0,1] 2),(qe (ym 72 16) [66,67,68,69,70,71,73,76,77,78,79] e5 2),(qe (ym 73 17) [66,67,68,69,70,71,72,76,77,78,79] [0,1,2,3,4,5,6] 2),(qe (yj 74 1 72 73 [6,7]) e3 e5 2),(qe (yk 75 74 [8]) e3 e5 2),(qe (yl 76 10) [66,67,68,69,70,71,72,73,74,75,77] e1 2),(qe (ym 77 17) [66,67,68,69,70,71,72,73,74,75,76] [0,1,2,3,4,5,6,7,8,9,10] 2),(qe (yj 78 1 76 77 [10,11]) e4 e1 2),(qe (yk 79 78 [12]) e4 e1 2),(qe (qi 80 (.build [.int .i64 0,.int .i64 0,.int .i64 0,.int .i64 0,.int .i64 0,.int .i64 0] [(1,1,.v 67),(2,1,.v 71),(3,1,.v 75),(5,1,.v 79)]) [1,5,9,13]) [66] [0] 2),(qa (qi 81 (.bslice 49 6 1 [.int .i64 0,.int .i64 0,.int .i64 0,.int .i64 0,.int .i64 0,.int .i64 0] [(0,6,.v 80)]) [14]) [66] [] [81] [0] 1),(qa (qi 82 (.app 49 6 48 (.v 66) (.v 81)) [0,15]) [] [] [24,27,31,34,36,39,51,57,60,81,82,116,117,128,131] [] 1),(qa (qo (.store 1 (.v 8) (.v 82)) [16,16,0,1,2,3,4,5,6,7,8,9,10,11,12,13,14,15,16]) [] [] [8] [] 1)])))) (qk e0 (qr [(qp 83 (qc .add 63 (qz 1))),(yn 63 83 [0])])))))))))))) (qk [1,3,8,9,10,12,16] xc17d))) y)=>y
 dsimp
def xc17b:AC:=(.seq (.draw [⟨⟨some 55,.load false 1 (.v 10),none,[]⟩,[56,57,58,59],[57],[],[],0⟩,
  ⟨⟨some 56,.mov (.v 1),none,[]⟩,[55,58,59],[],[],[0],2⟩,
  ⟨⟨some 57,.call 46 [.v 56],none,[1]⟩,[55,58,59],[],[57],[0],1⟩,
  ⟨⟨some 58,.mov (.v 13),none,[]⟩,[55,56,57,59],[57],[],[0,1,2],2⟩,
  ⟨⟨some 59,.mov (.v 3),none,[]⟩,[55,56,57,58],[57],[],[0,1,2,3],2⟩,
  ⟨⟨some 60,.call 45 [.v 55,.v 57,.v 58,.v 59],none,[0,2,3,4,2]⟩,[],[],[60],[],1⟩,
  ⟨⟨some 16,.mov (.v 60),none,[5,5,0,1,2,3,4,5]⟩,[],[],[],[],2⟩])
 (.ghost (.keep [1,3,8,9,10,11,12,16]) (.ghost (.ownC (8,0) 0 (82,0) 49 6) xc17c)))
def ac17:AC:=by
 apply fun (y:AC) (_:@Eq AC (let e0:=[1,3,8,9,10,11,12,13,40,41,42];let e1:=[10,28,29,30,32,33,35];let e2:=[1,3,8,9,10,11,12,13];(qk [0,1,2,3] (qs (qr [(qp 6 (.box (.v 2))),(qp 8 (.alloc [.nsl]))]) (qk [0,1,3,6,8] (qs (qs (qr [(qp 23 (qt 3 6)),(qi 24 (.call 37 [.v 23]) [0]),(qi 25 (.un .not (.v 24)) [1])]) (qk [0,1,3,6,8,25] (qq (.v 25) (qs (qr [(qo (.store 1 (.v 8) (.c .nsl)) [])]) (qk [8] (.ghost (.zslC (8,0) 0 6) .ret))) .skip))) (qk [0,1,3,6,8] (qs (qd [(qa (ym 26 1) e1 [10] [] [] 2),(qa (qi 27 (.call 25 [.v 26]) [0]) e1 [10] [27] [] 0),(qa (ym 28 0) [10,26,27,29,30,32,33,35] [10,27] [] [0,1] 2),(qa (ym 29 1) [10,26,27,28,30,32,33,35] [10,27] [] [0,1,2] 2),(qa (qp 30 (qt 3 6)) [10,26,27,28,29,32,33,35] [10,27] [] [0,1,2,3] 0),(qa (qi 31 (.call 15 [.v 28,.v 29,.v 30]) [2,3,4,1]) [10,32,33,35] [10] [31] [] 0),(qa (ym 32 0) [10,26,27,28,29,30,31,33,35] [10,27,31] [] [0,1,2,3,4,5] 2),(qa (ym 33 1) [10,26,27,28,29,30,31,32,35] [10,27,31] [] [0,1,2,3,4,5,6] 2),(qa (qi 34 (.call 13 [.v 32,.v 33]) [6,7,5]) [10,35] [10] [34] [] 0),(qa (ym 35 1) [10,26,27,28,29,30,31,32,33,34] [10,27,31,34] [] [0,1,2,3,4,5,6,7,8] 2),(qa (qi 36 (.call 44 [.v 35]) [9,8]) [10] [10] [36] [] 0),(qa (qp 10 (.alloc [.nsl])) [26,27,28,29,30,31,32,33,34,35,36] [27,31,34,36] [10] [0,1,2,3,4,5,6,7,8,9,10] 0),(qe (yn 9 27 [1,10,0,1,11]) [] [] 2),(qa (qo (.store 1 (.v 10) (.v 31)) [11,5,12,0,1,2,3,4,5,11,12]) [] [] [10] [] 1),(qe (yn 11 34 [8,13,0,1,2,3,4,5,6,7,8,11,12,13]) [] [] 2),(qe (yn 12 36 [10,14,0,1,2,3,4,5,6,7,8,9,10,11,12,13,14]) [] [] 2)]) (qk [1,3,8,9,10,11,12] (qs (qr [(ym 37 9),(yh 38 37 [0]),(qi 39 (.mksl 4 1 1 [.bool false] (.v 38) (.v 38)) [1,1]),(yn 13 39 [2,0,1,2])]) (qk e2 (qs (qs (qr [(ym 40 9),(yh 41 40 [0]),(qp 42 (.mov (qz 0)))]) (qk e0 (.block 0 (.loop (qk e0 (qs (qr [(qp 43 (qb .lss 42 41))]) (qk [1,3,8,9,10,11,12,13,40,41,42,43] (qs (qq (.v 43) .skip (.exit 0)) (qk e0 (qs (.block 1 (qs (qr [(ym 44 42),(qp 45 (qj 2 40 42)),(qi 46 (qt 2 45) [1]),(qp 15 (.alloc [.int .i64 0,.int .i64 0])),(yn 14 44 [0,0,1,2,3]),(qo (.store 2 (.v 15) (.v 46)) [3,2,4,0,1,2,3,4])]) (qk [1,3,8,9,10,11,12,13,14,15,40,41,42] (qr [(ym 47 13),(ym 48 14),(ym 49 1),(qp 50 (qt 2 15)),(qi 51 (.call 32 [.v 49,.v 50]) [2,3]),(yc 52 .eql 51 (qz 2) [4]),(yj 53 1 47 48 [0,1,0,1,2,3,4,5]),(qo (.store 1 (.v 53) (.v 52)) [6,5,4,0,1,2,3,4,5])])))) (qk e0 (qr [(qp 54 (qc .add 42 (qz 1))),(yn 42 54 [0])])))))))))))) (.ghost (.freeze (39,0)) (qk e2 xc17b))))))))))))) y)=>y
 dsimp
theorem fn17:factOf Tryz.prog 17=some (ac17.strip,[.cell 8 false 1],150):=by kernel_rfl
theorem ok17:ac17.okAll=true:=by kernel_rfl
end
section
attribute [local simp ↓] awp_scope awp_label
attribute [local simp] w1
set_option maxHeartbeats 400000
attribute [local simp] evC
attribute [local simp ↓] oneN oneI oneSp oneB oneBo
structure Plc where
 i:Int
 f:Int
 l:Int
 x:Int
 w:Int
def plcRow (p:Plc):List PV:=[.int .i64 0,.int .i64 p.i,.int .i64 p.f,.int .i64 p.l,.int .i64 p.x,.int .i64 p.w]
theorem onePl (z:List Plc):((z.map plcRow).all fun r=>r.all PV.one)=true:=by
 rw [List.all_eq_true];intro r hr;obtain ⟨x,_,rfl⟩:=List.mem_map.1 hr;rfl
attribute [local simp ↓] onePl
def plcL (Fs ls X Ws:List Int) (n:Nat):List Plc:=(List.range n).map fun (i:Nat)=>(⟨i,Fs.getD i 0,ls.getD i 0,X.getD i 0,Ws.getD i 0⟩:Plc)
theorem plcL_len (Fs ls X Ws:List Int) (n:Nat):(plcL Fs ls X Ws n).length=n:=by simp [plcL]
theorem plcL_succ (Fs ls X Ws:List Int) (n:Nat):(plcL Fs ls X Ws (n+1)).map plcRow=(plcL Fs ls X Ws n).map plcRow++[[.int .i64 0,.int .i64 n,.int .i64 (Fs.getD n 0),.int .i64 (ls.getD n 0),.int .i64 (X.getD n 0),.int .i64 (Ws.getD n 0)]]:=by
 simp [plcL,List.range_succ,plcRow]
def spcL (t:List UInt8):List Bool:=(splT t).map fun x=>decide (clsT t (baseT t x.1 x.2)=2)
def spcK (t:List UInt8) (k:Nat):List Bool:=(List.range (splT t).length).map fun i=>if i<k then decide (clsT t (baseT t ((splT t).getD i (0,0)).1 ((splT t).getD i (0,0)).2)=2) else false
theorem spcK_len {t:List UInt8} {k:Nat}:(spcK t k).length=(splT t).length:=by simp [spcK]
theorem spcK_0 (t:List UInt8):List.replicate (splT t).length [PV.bool false]=(spcK t 0).map boolRow:=by
 apply List.ext_getElem (by simp [spcK])
 intro i h1 h2
 simp [spcK,boolRow]
theorem spcK_end (t:List UInt8):spcK t (splT t).length=spcL t:=by
 apply List.ext_getElem (by simp [spcK,spcL])
 intro i h1 h2
 have hi:i<(splT t).length:=by simpa [spcK] using h1
 simp [spcK,spcL,hi]
theorem spcK_succ (t:List UInt8) (k:Nat):(spcK t (k+1)).map boolRow=((spcK t k).map boolRow).set k [.bool (decide (clsT t (baseT t ((splT t).getD k (0,0)).1 ((splT t).getD k (0,0)).2)=2))]:=by
 apply List.ext_getElem (by simp [spcK])
 intro i h1 h2
 rw [List.getElem_set]
 simp only [spcK,List.getElem_map,List.getElem_range]
 by_cases e:k=i
 ·subst e
  rw [if_pos (by omega),if_pos rfl]
  rfl
 ·rw [if_neg e]
  by_cases e2:i<k
  ·rw [if_pos (by omega),if_pos e2]
  ·rw [if_neg (by omega),if_neg e2]
noncomputable def linesN (cs:List Cor) (t:List UInt8) (s:Stg) (w:Int):List Int:=fillN (widthsN cs t s) (mayL t) (spcL t) w (splT t).length
def grpE (ls:List Int) (i:Nat):Nat:=runE (fun x=>decide (x=ls.getD i 0)) ls true i
def xK (Ws X:List Int) (b:Nat) (O:List Int) (x0:Int):Nat→List Int×Int
 | 0=>(X,x0)
 | k+1=>((xK Ws X b O x0 k).1.set (b+(O.getD k 0).toNat) (xK Ws X b O x0 k).2,(xK Ws X b O x0 k).2+Ws.getD (b+(O.getD k 0).toNat) 0)
def sumI (l:List Int):Int:=l.foldl (·+·) 0
def lvG (LV:List Int) (T:List (Nat×Nat)) (b e:Nat):List Int:=(List.range (e - b)).map fun d=>LV.getD (T.getD (b+d) (0,0)).1 0
def xsF (Ws LV:List Int) (T:List (Nat×Nat)) (ls:List Int) (rt:Bool) (w:Int):Nat→Nat→List Int→List Int
 | 0,_,X=>X
 | m+1,b,X=>if b<ls.length then xsF Ws LV T ls rt w m (grpE ls b) (xK Ws X b (vsN (lvG LV T b (grpE ls b))) (if rt=true then w - sumI ((Ws.drop b).take (grpE ls b - b)) else 0) (grpE ls b - b)).1 else X
noncomputable def placesN (cs:List Cor) (t:List UInt8) (s:Stg) (w:Int):List Plc:=
 if fitN s=true then plcL (fontsN cs t) (linesN cs t s w) (xsF (widthsN cs t s) (levT t) (splT t) (linesN cs t s w) (decide (baseN t=2)) w (splT t).length 0 (zerosI (splT t).length)) (widthsN cs t s) (splT t).length else []
def K17 (V:List Plc):AE→Fr→Prop:=retK [RO.cell 8 false 1] (.p (.sl 6 (V.map plcRow)))
def V17 (Ws LV:List Int) (T:List (Nat×Nat)) (Fs ls:List Int) (rt:Bool) (w:Int) (n:Nat):List Plc:=plcL Fs ls (xsF Ws LV T ls rt w n 0 (zerosI n)) Ws n
theorem sumI_from (l:List Int) (a:Int):l.foldl (·+·) a=a+sumI l:=by
 unfold sumI
 induction l generalizing a with
 | nil=>simp
 | cons x l ih=>simp only [List.foldl_cons];rw [ih (a+x),ih (0+x)];omega
theorem sumI_snoc (l:List Int) (x:Int):sumI (l++[x])=sumI l+x:=by
 unfold sumI;rw [List.foldl_append];rfl
theorem sumI_b {l:List Int} (h:∀ x∈l,0≤x∧x≤40000000000000000):0≤sumI l∧sumI l≤40000000000000000*l.length:=by
 induction l with
 | nil=>simp [sumI]
 | cons x l ih=>
  have h1:=h x (by simp)
  have h2:=ih fun y hy=>h y (by simp [hy])
  have:sumI (x :: l)=x+sumI l:=by
   show (x :: l).foldl (·+·) 0=_
   rw [List.foldl_cons,sumI_from];omega
  rw [this,List.length_cons]
  push_cast
  omega
theorem lvG_snoc (LV:List Int) (T:List (Nat×Nat)) (b d:Nat):lvG LV T b (b+(d+1))=lvG LV T b (b+d)++[LV.getD (T.getD (b+d) (0,0)).1 0]:=by
 unfold lvG
 rw [show b+(d+1) - b=d+1 by omega,show b+d - b=d by omega,List.range_succ]
 simp
theorem xK_len (Ws X:List Int) (b:Nat) (O:List Int) (x0:Int):∀ k,(xK Ws X b O x0 k).1.length=X.length
 | 0=>rfl
 | k+1=>by rw [xK];simp only [List.length_set];exact xK_len Ws X b O x0 k
theorem xK_b {Ws X:List Int} {b:Nat} {O:List Int} {x0:Int} (hWb:∀ x∈Ws,0≤x∧x≤40000000000000000):∀ k,x0≤(xK Ws X b O x0 k).2∧(xK Ws X b O x0 k).2≤x0+40000000000000000*k
 | 0=>by simp [xK]
 | k+1=>by
  have ih:=xK_b (Ws:=Ws) (X:=X) (b:=b) (O:=O) (x0:=x0) hWb k
  rw [xK]
  have:0≤Ws.getD (b+(O.getD k 0).toNat) 0∧Ws.getD (b+(O.getD k 0).toNat) 0≤40000000000000000:=by
   rw [List.getD_eq_getElem?_getD]
   cases e:Ws[b+(O.getD k 0).toNat]? with
   | none=>simp
   | some y=>exact hWb y (List.mem_of_getElem? e)
  push_cast
  omega
theorem plcL_set (Fs ls X Ws:List Int) (n i:Nat) (x:Int) (hX:X.length=n) (hi:i<n):((plcL Fs ls X Ws n).map plcRow).set i [.int .i64 0,.int .i64 i,.int .i64 (Fs.getD i 0),.int .i64 (ls.getD i 0),.int .i64 x,.int .i64 (Ws.getD i 0)]=(plcL Fs ls (X.set i x) Ws n).map plcRow:=by
 apply List.ext_getElem (by simp [plcL])
 intro j h1 h2
 rw [List.getElem_set]
 simp only [plcL,List.getElem_map,List.getElem_range]
 by_cases e:i=j
 ·subst e
  rw [if_pos rfl]
  have:(X.set i x).getD i 0=x:=by simp [hX,hi]
  rw [this];rfl
 ·rw [if_neg e]
  have:(X.set i x).getD j 0=X.getD j 0:=by simp [List.getElem?_set,e]
  rw [this]
theorem x17e {Kc:AE→Fr→Prop} (t:List UInt8) (hl:t.length≤100) (w:Int) (hw:-1000000≤w∧w≤1000000) (n:Nat) (hn:n≤100) (a9 a12 a16:PV) (Fs Ws ls X D:List Int) (hW:Ws.length=n) (hX:X.length=n)
  (b e:Nat) (hbe:b<e) (hen:e≤n) (hD:D.length=e - b) (S:Int) (hS:0≤S∧S≤4000000000000000000) (hWb:∀ x∈Ws,0≤x∧x≤40000000000000000)
  (hK:∀ x':Int,∀ a131:PV,Kc .normal ⟨[(1,.p (.str (ba t))),(3,.p (.int .i64 w)),(8,.ptr (8,0) 1 0 0),(9,.p a9),(10,.ptr (10,0) 1 0 0),(12,.p a12),(16,.p a16),(18,.ptr (18,0) 1 0 0),(19,.p (.int .i64 e)),(20,.ptr (20,0) 1 0 0),(131,.p a131)],
   [((8,0),.box [.ref (82,n) 6 0 n]),((10,0),.box [.p (.sl 1 (Ws.map intRow))]),((18,0),.box [.p (.int .i64 b)]),((20,0),.box [.p (.int .i64 x')]),((82,n),.sl 49 6 ((plcL Fs ls (xK Ws X b (vsN D) (if decide (baseN t=2)=true then w - S else 0) (e - b)).1 Ws n).map plcRow))]⟩) :
  awp Tryz.prog xc17e Kc ⟨[(1,.p (.str (ba t))),(3,.p (.int .i64 w)),(8,.ptr (8,0) 1 0 0),(9,.p a9),(10,.ptr (10,0) 1 0 0),(12,.p a12),(16,.p a16),(18,.ptr (18,0) 1 0 0),(19,.p (.int .i64 e)),(20,.ptr (20,0) 1 0 0),(21,.ref (117,e - b) 1 0 (e - b))],
   [((8,0),.box [.ref (82,n) 6 0 n]),((10,0),.box [.p (.sl 1 (Ws.map intRow))]),((18,0),.box [.p (.int .i64 b)]),((20,0),.box [.p (.int .i64 (-S))]),((82,n),.sl 49 6 ((plcL Fs ls X Ws n).map plcRow)),((117,e - b),.sl 3 1 (D.map intRow))]⟩:=by
 have q47:=b47 t (by omega)
 have q48:=b48 D (by omega) (by omega)
 have hvl:(vsN D).length=e - b:=by rw [show (vsN D).length=D.length from vsL_len D 9,hD]
 have hG:=g128 (vsN D) (by omega)
 have wS:R (-S+w):=⟨by omega,by omega⟩
 have htD:List.take (e - b) (D.map intRow)=D.map intRow:=List.take_of_length_le (by simp [hD])
 obtain ⟨rt,ert⟩:∃ rt,decide (baseN t=2)=rt:=⟨_,rfl⟩
 rw [ert] at q47
 rw [ert] at hK
 obtain ⟨x0,ex0⟩:∃ x0:Int,(if rt=true then w - S else 0)=x0:=⟨_,rfl⟩
 rw [ex0] at hK
 have hx0:-4000000000001000000≤x0∧x0≤1000000:=by rw [←ex0];split<;>omega
 simp -dsimp [xc17e,wr wS]
 refine call_p q47 (by simp) (by simp) ?_
 cases rt with
 | true=>
  have ex:-S+w=x0:=by rw [←ex0];simp;omega
  rw [ex]
  simp -dsimp [hD,htD]
  refine call_p q48 (by simp) (by simp) ?_
  simp -dsimp
  refine rfunL_rule rfl rfl hG (fun r F=>F=⟨[(1,.p (.str (ba t))),(3,.p (.int .i64 w)),(8,.ptr (8,0) 1 0 0),(9,.p a9),(10,.ptr (10,0) 1 0 0),(12,.p a12),(16,.p a16),(18,.ptr (18,0) 1 0 0),(19,.p (.int .i64 e)),(20,.ptr (20,0) 1 0 0),(131,.p (.clo (.func 128) [] [.ro [.sl 1 ((vsN D).map intRow)]]))],
   [((8,0),.box [.ref (82,n) 6 0 n]),((10,0),.box [.p (.sl 1 (Ws.map intRow))]),((18,0),.box [.p (.int .i64 b)]),((20,0),.box [.p (.int .i64 (xK Ws X b (vsN D) x0 r).2)]),((82,n),.sl 49 6 ((plcL Fs ls (xK Ws X b (vsN D) x0 r).1 Ws n).map plcRow))]⟩) ?_ ?_ (by simp [xK])
  ·rintro r z F hz rfl
   have hr:r<(vsN D).length:=by have:=(List.getElem?_eq_some_iff.1 hz).1;simpa using this
   rw [List.getElem?_map,List.getElem?_eq_getElem hr] at hz
   obtain ⟨i,ei,hiD⟩:=vsL_mem (lv:=D) (j:=9) (x:=(vsN D)[r]) (List.getElem_mem hr)
   rw [ei] at hz
   simp at hz;subst hz
   have eid:(vsN D).getD r 0=(i:Int):=by simp [hr,ei]
   have hxs:xK Ws X b (vsN D) x0 (r+1)=((xK Ws X b (vsN D) x0 r).1.set (b+i) (xK Ws X b (vsN D) x0 r).2,(xK Ws X b (vsN D) x0 r).2+Ws.getD (b+i) 0):=by rw [xK,eid];rfl
   have hxl:=xK_len Ws X b (vsN D) x0 r
   have hxb:=xK_b (Ws:=Ws) (X:=X) (b:=b) (O:=vsN D) (x0:=x0) hWb r
   rw [hxs]
   obtain ⟨X1,eX1⟩:∃ X1,(xK Ws X b (vsN D) x0 r).1=X1:=⟨_,rfl⟩
   obtain ⟨x1,ex1⟩:∃ x1,(xK Ws X b (vsN D) x0 r).2=x1:=⟨_,rfl⟩
   rw [eX1] at hxl
   rw [ex1] at hxb
   rw [eX1,ex1]
   have hidx:b+i<n:=by omega
   have hst:=plcL_set Fs ls X1 Ws n (b+i) x1 (by omega) hidx
   have hpl:=plcL_len Fs ls X1 Ws n
   have hWi:b+i<Ws.length:=by omega
   obtain ⟨wv,ewv⟩:∃ wv,Ws[b+i]=wv:=⟨_,rfl⟩
   have ewd:Ws.getD (b+i) 0=wv:=by simp [hWi,ewv]
   have hwv:=hWb wv (by rw [←ewv];simp)
   have wbi:R ((b:Int)+i):=⟨by omega,by omega⟩
   have wx:R (x1+wv):=⟨by omega,by omega⟩
   refine ⟨rfl,?_⟩
   dsimp only
   rw [←hst,ewd]
   have c1:(0:Int)≤(b:Int)+i:=by omega
   have c2:(b:Int)+i<n:=by omega
   have c3:((b:Int)+i).toNat=b+i:=by omega
   obtain ⟨P1,eP1⟩:∃ P1,plcL Fs ls X1 Ws n=P1:=⟨_,rfl⟩
   have hrow:∀ h:b+i<P1.length,plcRow P1[b+i]=[.int .i64 0,.int .i64 ((b+i:Nat):Int),.int .i64 (Fs.getD (b+i) 0),.int .i64 (ls.getD (b+i) 0),.int .i64 (X1.getD (b+i) 0),.int .i64 (Ws.getD (b+i) 0)]:=fun h=>by
    subst eP1
    simp [plcL,plcRow]
   rw [eP1] at hpl
   rw [eP1]
   have hiP:b+i<P1.length:=by omega
   simp -dsimp [wr wbi,c1,c2,c3,hiP,hpl,hrow hiP,hWi,hW,ewv,ewd,intRow,wr wx,hidx,-List.all_eq_true,-List.map_set]
  ·rintro F rfl
   rw [List.length_map,hvl]
   exact hK _ _
 | false=>
  have ex:x0=0:=by rw [←ex0];simp
  subst ex
  simp -dsimp [hD,htD]
  refine call_p q48 (by simp) (by simp) ?_
  simp -dsimp
  refine rfunL_rule rfl rfl hG (fun r F=>F=⟨[(1,.p (.str (ba t))),(3,.p (.int .i64 w)),(8,.ptr (8,0) 1 0 0),(9,.p a9),(10,.ptr (10,0) 1 0 0),(12,.p a12),(16,.p a16),(18,.ptr (18,0) 1 0 0),(19,.p (.int .i64 e)),(20,.ptr (20,0) 1 0 0),(131,.p (.clo (.func 128) [] [.ro [.sl 1 ((vsN D).map intRow)]]))],
   [((8,0),.box [.ref (82,n) 6 0 n]),((10,0),.box [.p (.sl 1 (Ws.map intRow))]),((18,0),.box [.p (.int .i64 b)]),((20,0),.box [.p (.int .i64 (xK Ws X b (vsN D) 0 r).2)]),((82,n),.sl 49 6 ((plcL Fs ls (xK Ws X b (vsN D) 0 r).1 Ws n).map plcRow))]⟩) ?_ ?_ (by simp [xK])
  ·rintro r z F hz rfl
   have hr:r<(vsN D).length:=by have:=(List.getElem?_eq_some_iff.1 hz).1;simpa using this
   rw [List.getElem?_map,List.getElem?_eq_getElem hr] at hz
   obtain ⟨i,ei,hiD⟩:=vsL_mem (lv:=D) (j:=9) (x:=(vsN D)[r]) (List.getElem_mem hr)
   rw [ei] at hz
   simp at hz;subst hz
   have eid:(vsN D).getD r 0=(i:Int):=by simp [hr,ei]
   have hxs:xK Ws X b (vsN D) 0 (r+1)=((xK Ws X b (vsN D) 0 r).1.set (b+i) (xK Ws X b (vsN D) 0 r).2,(xK Ws X b (vsN D) 0 r).2+Ws.getD (b+i) 0):=by rw [xK,eid];rfl
   have hxl:=xK_len Ws X b (vsN D) 0 r
   have hxb:=xK_b (Ws:=Ws) (X:=X) (b:=b) (O:=vsN D) (x0:=(0:Int)) hWb r
   rw [hxs]
   obtain ⟨X1,eX1⟩:∃ X1,(xK Ws X b (vsN D) 0 r).1=X1:=⟨_,rfl⟩
   obtain ⟨x1,ex1⟩:∃ x1,(xK Ws X b (vsN D) 0 r).2=x1:=⟨_,rfl⟩
   rw [eX1] at hxl
   rw [ex1] at hxb
   rw [eX1,ex1]
   have hidx:b+i<n:=by omega
   have hst:=plcL_set Fs ls X1 Ws n (b+i) x1 (by omega) hidx
   have hpl:=plcL_len Fs ls X1 Ws n
   have hWi:b+i<Ws.length:=by omega
   obtain ⟨wv,ewv⟩:∃ wv,Ws[b+i]=wv:=⟨_,rfl⟩
   have ewd:Ws.getD (b+i) 0=wv:=by simp [hWi,ewv]
   have hwv:=hWb wv (by rw [←ewv];simp)
   have wbi:R ((b:Int)+i):=⟨by omega,by omega⟩
   have wx:R (x1+wv):=⟨by omega,by omega⟩
   refine ⟨rfl,?_⟩
   dsimp only
   rw [←hst,ewd]
   have c1:(0:Int)≤(b:Int)+i:=by omega
   have c2:(b:Int)+i<n:=by omega
   have c3:((b:Int)+i).toNat=b+i:=by omega
   obtain ⟨P1,eP1⟩:∃ P1,plcL Fs ls X1 Ws n=P1:=⟨_,rfl⟩
   have hrow:∀ h:b+i<P1.length,plcRow P1[b+i]=[.int .i64 0,.int .i64 ((b+i:Nat):Int),.int .i64 (Fs.getD (b+i) 0),.int .i64 (ls.getD (b+i) 0),.int .i64 (X1.getD (b+i) 0),.int .i64 (Ws.getD (b+i) 0)]:=fun h=>by
    subst eP1
    simp [plcL,plcRow]
   rw [eP1] at hpl
   rw [eP1]
   have hiP:b+i<P1.length:=by omega
   simp -dsimp [wr wbi,c1,c2,c3,hiP,hpl,hrow hiP,hWi,hW,ewv,ewd,intRow,wr wx,hidx,-List.all_eq_true,-List.map_set]
  ·rintro F rfl
   rw [List.length_map,hvl]
   exact hK _ _
theorem x17d (t:List UInt8) (hl:t.length≤100) (w:Int) (hw:-1000000≤w∧w≤1000000) (T:List (Nat×Nat)) (n:Nat) (hT:T.length=n) (hn:n≤100) (Fs Ws LV ls:List Int) (hF:Fs.length=n) (hW:Ws.length=n) (hL:LV.length=t.length) (hls:ls.length=n)
  (hm:∀ x∈T,x.1<x.2∧x.2≤t.length) (hWb:∀ x∈Ws,0≤x∧x≤40000000000000000) :
  awp Tryz.prog xc17d (K17 (V17 Ws LV T Fs ls (decide (baseN t=2)) w n)) ⟨[(1,.p (.str (ba t))),(3,.p (.int .i64 w)),(8,.ptr (8,0) 1 0 0),(9,.p (.sl 2 (T.map spRow))),(10,.ptr (10,0) 1 0 0),(12,.p (.sl 1 (LV.map intRow))),(16,.p (.sl 1 (ls.map intRow)))],
   [((8,0),.box [.ref (82,n) 6 0 n]),((10,0),.box [.p (.sl 1 (Ws.map intRow))]),((82,n),.sl 49 6 ((plcL Fs ls (zerosI n) Ws n).map plcRow))]⟩:=by
 obtain ⟨Xf,eXf⟩:∃ Xf,xsF Ws LV T ls (decide (baseN t=2)) w n 0 (zerosI n)=Xf:=⟨_,rfl⟩
 have eV:V17 Ws LV T Fs ls (decide (baseN t=2)) w n=plcL Fs ls Xf Ws n:=by unfold V17;rw [eXf]
 rw [eV]
 have hq47:=b47 t (by omega)
 obtain ⟨rt,ert⟩:∃ rt,decide (baseN t=2)=rt:=⟨_,rfl⟩
 rw [ert] at eXf hq47
 simp -dsimp [xc17d,↓ awpC_of xc17e]
 refine loopE n (fun k (z:Nat×List Int)=>⟨[(1,.p (.str (ba t))),(3,.p (.int .i64 w)),(8,.ptr (8,0) 1 0 0),(9,.p (.sl 2 (T.map spRow))),(10,.ptr (10,0) 1 0 0),(12,.p (.sl 1 (LV.map intRow))),(16,.p (.sl 1 (ls.map intRow))),(18,.ptr (18,0) 1 0 0)],
   [((8,0),.box [.ref (82,n) 6 0 n]),((10,0),.box [.p (.sl 1 (Ws.map intRow))]),((18,0),.box [.p (.int .i64 z.1)]),((82,n),.sl 49 6 ((plcL Fs ls z.2 Ws n).map plcRow))]⟩)
  (fun k z=>k≤z.1∧z.1≤n∧z.2.length=n∧xsF Ws LV T ls rt w (n - k) z.1 z.2=Xf) (0,zerosI n) (fun k z hk hz=>?_) ⟨by simp,by simp,by simp [zerosI_len],by simpa using eXf⟩ (by simp)
 obtain ⟨b,X⟩:=z
 obtain ⟨z1,z2,z3,z4⟩:=hz
 dsimp only at z1 z2 z3 z4 ⊢
 by_cases h:b<n
 ·have hm1:n - k=(n - (k+1))+1:=by omega
  rw [hm1,xsF,if_pos (by omega)] at z4
  have hb0:ls.getD b 0=ls[b]'(by omega):=by simp [hls,h]
  have hin:=fun j (h1:b≤j) h2 h3=>runE_in (q:=fun x=>decide (x=ls.getD b 0)) (l:=ls) (key:=true) (i:=b) (j:=j) h1 h2 h3
  have hout:=runE_out (q:=fun x=>decide (x=ls.getD b 0)) (l:=ls) (key:=true) (i:=b)
  have hel:=runE_le (q:=fun x=>decide (x=ls.getD b 0)) (l:=ls) (key:=true) (i:=b) (by omega)
  have hge:grpE ls b=runE (fun x=>decide (x=ls.getD b 0)) ls true b:=rfl
  rw [←hge] at hin hout hel
  obtain ⟨e,ee⟩:∃ e,grpE ls b=e:=⟨_,rfl⟩
  rw [ee] at z4 hin hout hel
  obtain ⟨lb,elb⟩:∃ lb,ls.getD b 0=lb:=⟨_,rfl⟩
  have elb':ls[b]'(by omega)=lb:=by rw [←hb0,elb]
  rw [elb] at hin hout
  have hbl:b<ls.length:=by omega
  have hbe:b<e:=by
   rcases Nat.lt_or_ge b e with q | q
   ·exact q
   ·have:e=b:=by omega
    subst this
    have:=hout hbl
    rw [elb] at this
    simp at this
  simp -dsimp [h,hT,↓ awpC_of xc17e]
  refine loopC (e - b) (fun d=>⟨[(1,.p (.str (ba t))),(3,.p (.int .i64 w)),(8,.ptr (8,0) 1 0 0),(9,.p (.sl 2 (T.map spRow))),(10,.ptr (10,0) 1 0 0),(12,.p (.sl 1 (LV.map intRow))),(16,.p (.sl 1 (ls.map intRow))),(18,.ptr (18,0) 1 0 0),(19,.p (.int .i64 ((b+d:Nat):Int))),(20,.ptr (20,0) 1 0 0),(21,.ref (117,d) 1 0 d)],
   [((8,0),.box [.ref (82,n) 6 0 n]),((10,0),.box [.p (.sl 1 (Ws.map intRow))]),((18,0),.box [.p (.int .i64 b)]),((20,0),.box [.p (.int .i64 (-sumI ((Ws.drop b).take d)))]),((82,n),.sl 49 6 ((plcL Fs ls X Ws n).map plcRow)),((117,d),.sl 3 1 ((lvG LV T b (b+d)).map intRow))]⟩) (fun _=>True) (fun d hd _=>?_) trivial (by simp [sumI,lvG])
  obtain ⟨j,ej⟩:∃ j,b+d=j:=⟨_,rfl⟩
  have ej2:((b+(d+1):Nat):Int)=(j:Int)+1:=by omega
  have hSb:=sumI_b (l:=(Ws.drop b).take d) (fun x hx=>hWb x (List.mem_of_mem_drop (List.mem_of_mem_take hx)))
  have hSl:((Ws.drop b).take d).length≤100:=by simp;omega
  by_cases hje:j<e
  ·have hjn:j<n:=by omega
   have hjl:j<ls.length:=by omega
   have hlj:=hin j (by omega) hje hjl
   have elj:ls[j]=lb:=by
    have:ls.getD j 0=ls[j]:=by simp [hjl]
    rw [this] at hlj;simpa using hlj
   have hjT:j<T.length:=by omega
   have hjW:j<Ws.length:=by omega
   obtain ⟨⟨a,a2⟩,ea⟩:∃ x,T[j]=x:=⟨_,rfl⟩
   have ham:=hm (a,a2) (by rw [←ea];simp)
   dsimp only at ham
   have haL:a<LV.length:=by omega
   have hat:a<t.length:=by omega
   obtain ⟨v,ev⟩:∃ v,LV[a]=v:=⟨_,rfl⟩
   obtain ⟨x,ex⟩:∃ x,Ws[j]=x:=⟨_,rfl⟩
   have hxb:=hWb x (by rw [←ex];simp)
   have hsn:(Ws.drop b).take (d+1)=(Ws.drop b).take d++[x]:=by
    rw [List.take_add_one,List.getElem?_drop,ej,List.getElem?_eq_getElem hjW,ex];rfl
   have hss:=sumI_snoc ((Ws.drop b).take d) x
   have hls:=lvG_snoc LV T b d
   have d1:T.getD j (0,0)=(a,a2):=by simp [hjT,ea]
   have d2:LV.getD a 0=v:=by simp [haL,ev]
   rw [ej,d1] at hls
   dsimp only at hls
   rw [d2] at hls
   rw [hsn,hss,hls,ej,ej2]
   obtain ⟨S,eS⟩:∃ S,sumI ((Ws.drop b).take d)=S:=⟨_,rfl⟩
   rw [eS] at hSb ⊢
   have hLl:(lvG LV T b j).length=d:=by simp [lvG];omega
   obtain ⟨D,eD⟩:∃ D,lvG LV T b j=D:=⟨_,rfl⟩
   rw [eD] at hLl ⊢
   have wj:R ((j:Int)+1):=⟨by omega,by omega⟩
   have wS:R (-S - x):=⟨by omega,by omega⟩
   have hSx:-(S+x)=-S - x:=by omega
   have m1:d+1≤maxLen:=by unfold maxLen;omega
   have e1:(d+1)*8≤140737488355328:=by omega
   have hde:d<e - b:=by omega
   have ht:List.take (d+1) (D.map intRow++[[.int .i64 v]])=D.map intRow++[[.int .i64 v]]:=List.take_of_length_le (by simp;omega)
   have hjn':(j:Int)<n:=by omega
   rw [hSx]
   simp -dsimp [hjn,hjn',hT,hjl,elj,hbl,elb',hjT,ea,haL,hat,hL,ev,hjW,ex,hLl,ht,m1,e1,wr wj,wr wS,hde,spRow,intRow,List.range,List.range.loop,-List.all_eq_true,↓ awpC_of xc17e]
  ·have hje2:j=e:=by omega
   have hde:d=e - b:=by omega
   rw [ej,hje2]
   have hcond:¬((e:Int)<n)∨(∃ h:e<ls.length,ls[e]≠lb):=by
    by_cases he:e<ls.length
    ·right
     refine ⟨he,?_⟩
     have:=hout he
     have hg:ls.getD e 0=ls[e]:=by simp [he]
     rw [hg] at this
     simpa using this
    ·left;omega
   obtain ⟨S,eS⟩:∃ S,sumI ((Ws.drop b).take d)=S:=⟨_,rfl⟩
   rw [eS] at hSb ⊢
   have hLl:(lvG LV T b e).length=d:=by simp [lvG];omega
   obtain ⟨D,eD⟩:∃ D,lvG LV T b e=D:=⟨_,rfl⟩
   rw [←hde,eS] at z4
   rw [eD] at hLl z4 ⊢
   have q48:=b48 D (by omega) (by omega)
   have hG:=g128 (vsN D) (by rw [show (vsN D).length=D.length from vsL_len D 9];omega)
   have wS:R (-S+w):=⟨by omega,by omega⟩
   have htD:List.take d (D.map intRow)=D.map intRow:=List.take_of_length_le (by simp [hLl])
   have hblz:b<ls.length:=hbl
   have key:∀ (he1:(e:Int)<n→∃ h:e<ls.length,¬ls[e]=lb),True:=fun _=>trivial
   rcases hcond with hc | ⟨he,hne⟩
   ·have hc':¬e<n:=by omega
    simp -dsimp [hc,hc',hT,↓ awpC_of xc17e]
    subst hde
    refine awpC_in (x17e t hl w hw n hn _ _ _ Fs Ws ls X D hW z3 b e hbe (by omega) hLl S (by omega) hWb (fun x' a131=>?_))
    simp -dsimp
    have ez:(if baseN t=2 then w - S else 0)=(if rt=true then w - S else 0):=by rw [←ert];simp
    rw [ez]
    exact ⟨by omega,e,_,⟨by omega,by omega,by rw [xK_len];exact z3,z4⟩,rfl,rfl⟩
   ·have hc:(e:Int)<n:=by omega
    have hc':e<n:=by omega
    simp -dsimp [hc,hc',hT,he,hne,hbl,elb',intRow,↓ awpC_of xc17e]
    subst hde
    refine awpC_in (x17e t hl w hw n hn _ _ _ Fs Ws ls X D hW z3 b e hbe (by omega) hLl S (by omega) hWb (fun x' a131=>?_))
    simp -dsimp
    have ez:(if baseN t=2 then w - S else 0)=(if rt=true then w - S else 0):=by rw [←ert];simp
    rw [ez]
    exact ⟨by omega,e,_,⟨by omega,by omega,by rw [xK_len];exact z3,z4⟩,rfl,rfl⟩
 ·have hx:X=Xf:=by
   rw [←z4]
   cases n - k with
   | zero=>rfl
   | succ m=>rw [xsF,if_neg (by omega)]
  subst hx
  have hl6:=plcL_len Fs ls X Ws n
  have ht:List.take n ((plcL Fs ls X Ws n).map plcRow)=(plcL Fs ls X Ws n).map plcRow:=List.take_of_length_le (by simp [hl6])
  simp -dsimp [h,hT,K17,resOf,hl6,ht,↓ awpC_of xc17e]
theorem zerosI_get (n i:Nat):(zerosI n).getD i 0=0:=by
 unfold zerosI
 rw [List.getD_eq_getElem?_getD,List.getElem?_replicate]
 split<;>rfl
theorem x17c (t:List UInt8) (hl:t.length≤100) (w:Int) (hw:-1000000≤w∧w≤1000000) (T:List (Nat×Nat)) (n:Nat) (hT:T.length=n) (hn:n≤100) (Fs Ws LV ls:List Int) (hF:Fs.length=n) (hW:Ws.length=n) (hL:LV.length=t.length) (hls:ls.length=n)
  (hm:∀ x∈T,x.1<x.2∧x.2≤t.length) (hWb:∀ x∈Ws,0≤x∧x≤40000000000000000) :
  awp Tryz.prog xc17c (K17 (V17 Ws LV T Fs ls (decide (baseN t=2)) w n)) ⟨[(1,.p (.str (ba t))),(3,.p (.int .i64 w)),(8,.ptr (8,0) 1 0 0),(9,.p (.sl 2 (T.map spRow))),(10,.ptr (10,0) 1 0 0),(11,.p (.sl 1 (Fs.map intRow))),(12,.p (.sl 1 (LV.map intRow))),(16,.p (.sl 1 (ls.map intRow)))],
   [((8,0),.box [.ref (82,0) 6 0 0]),((10,0),.box [.p (.sl 1 (Ws.map intRow))]),((82,0),.sl 49 6 [])]⟩:=by
 have hd:=x17d t hl w hw T n hT hn Fs Ws LV ls hF hW hL hls hm hWb
 obtain ⟨V,eV⟩:∃ V,V17 Ws LV T Fs ls (decide (baseN t=2)) w n=V:=⟨_,rfl⟩
 rw [eV] at hd ⊢
 simp -dsimp [xc17c,hT,↓ awpC_of xc17d]
 refine loopC n (fun k=>⟨[(1,.p (.str (ba t))),(3,.p (.int .i64 w)),(8,.ptr (8,0) 1 0 0),(9,.p (.sl 2 (T.map spRow))),(10,.ptr (10,0) 1 0 0),(11,.p (.sl 1 (Fs.map intRow))),(12,.p (.sl 1 (LV.map intRow))),(16,.p (.sl 1 (ls.map intRow))),(62,.p (.int .i64 n)),(63,.p (.int .i64 k))],
   [((8,0),.box [.ref (82,k) 6 0 k]),((10,0),.box [.p (.sl 1 (Ws.map intRow))]),((82,k),.sl 49 6 ((plcL Fs ls (zerosI n) Ws k).map plcRow))]⟩) (fun _=>True) (fun k hk _=>?_) trivial (by simp [plcL])
 by_cases h:k<n
 ·have wk:R ((k:Int)+1):=⟨by omega,by omega⟩
  have m1:k+1≤maxLen:=by unfold maxLen;omega
  have e1:(k+1)*48≤140737488355328:=by omega
  have hs:=plcL_succ Fs ls (zerosI n) Ws k
  have hl1:=plcL_len Fs ls (zerosI n) Ws k
  have hz:=zerosI_get n k
  obtain ⟨f,ef⟩:∃ f,Fs[k]'(by omega)=f:=⟨_,rfl⟩
  obtain ⟨l,el⟩:∃ l,ls[k]'(by omega)=l:=⟨_,rfl⟩
  obtain ⟨x,ex⟩:∃ x,Ws[k]'(by omega)=x:=⟨_,rfl⟩
  have h1:k<Fs.length:=by omega
  have h2:k<ls.length:=by omega
  have h3:k<Ws.length:=by omega
  have d1:Fs.getD k 0=f:=by simp [h1,ef]
  have d2:ls.getD k 0=l:=by simp [h2,el]
  have d3:Ws.getD k 0=x:=by simp [h3,ex]
  rw [d1,d2,d3,hz] at hs
  rw [hs]
  obtain ⟨M,eM⟩:∃ M,plcL Fs ls (zerosI n) Ws k=M:=⟨_,rfl⟩
  rw [eM] at hl1 ⊢
  simp -dsimp [h,h1,h2,h3,ef,el,ex,intRow,m1,e1,hl1,wr wk,List.range,List.range.loop,-List.all_eq_true,↓ awpC_of xc17d]
 ·have:k=n:=by omega
  subst this
  simp -dsimp [h,↓ awpC_of xc17d]
  exact awpC_in hd
theorem widthsN_b {cs:List Cor} (hcs:CorsOk2 cs) {t:List UInt8} {s:Stg} (h1:fitN s=true):∀ x∈widthsN cs t s,0≤x∧x≤40000000000000000:=by
 intro x hx
 unfold widthsN at hx
 rw [if_pos h1] at hx
 obtain ⟨i,hi,rfl⟩:=List.mem_map.1 hx
 have hi:i<(splT t).length:=by simpa using hi
 obtain ⟨f1,f2,f3⟩:=fitN_b h1
 unfold wdN
 split
 ·omega
 ·split
  ·have:s.size.tdiv 2=s.size / 2:=Int.tdiv_eq_ediv_of_nonneg (by omega)
   omega
  ·rename_i h2
   obtain ⟨m,hm1,hm2⟩:=fontN_lt h2
   have hc:=hcs.2 cs[m] (List.getElem_mem hm2)
   have hg:cs.getD (fontN cs t ((splT t).getD i (0,0))).toNat cor0=cs[m]:=by rw [hm1];simp [hm2]
   rw [hg]
   have hb:=sumW_b hc.prb s (codesT t ((splT t).getD i (0,0)).1 ((splT t).getD i (0,0)).2) (befN cs t i)
   have hl:=codesT_len (t:=t) (a:=((splT t).getD i (0,0)).1) (b:=((splT t).getD i (0,0)).2)
   have hm:=splT_mem (t:=t) (a:=((splT t).getD i (0,0)).1) (b:=((splT t).getD i (0,0)).2) (by
    have:(splT t).getD i (0,0)=(splT t)[i]:=by simp [hi]
    rw [this];exact List.getElem_mem hi)
   omega
theorem fillF_len {E:Nat→Int} {n:Nat} (hE:∀ s,s<n→(s:Int)≤E s∧E s<n):∀ (m:Nat) (L:List Int) (line:Int),n - L.length≤m→L.length≤n→(fillF E n m L line).length=n
 | 0,L,line,h1,h2=>by rw [fillF];omega
 | m+1,L,line,h1,h2=>by
  rw [fillF]
  split
  ·rename_i h
   have:=hE L.length h
   exact fillF_len hE m _ _ (by simp;omega) (by simp;omega)
  ·omega
theorem fillN_len {ws ms:List Int} {sp:List Bool} {W:Int} {n:Nat}:(fillN ws ms sp W n).length=n:=
 fillF_len (fun s h=>endN_range h) n [] 0 (by simp) (by simp)
theorem b17 (cs:List Cor) (hcs:CorsOk2 cs) (t:List UInt8) (hl:t.length≤100) (s:Stg) (hs:s.at_.length≤1000) (w:Int) (hw:-1000000≤w∧w≤1000000) :
  Best Tryz.prog 17 [.sl 9 (cs.map corRow),.str (ba t),.agg (stgRow s),.int .i64 w] (.p (.sl 6 ((placesN cs t s w).map plcRow))):=by
 refine best mixed fn17 ok17 (by simp [stgRow]) ?_
 obtain ⟨V,eV⟩:∃ V,placesN cs t s w=V:=⟨_,rfl⟩
 rw [eV]
 unfold placesN at eV
 have q37:=b37 s hs
 simp -dsimp [ac17,stgRow,↓ awpC_of xc17b]
 refine call_p q37 (by simp [stgRow]) (by simp) ?_
 by_cases h1:fitN s=true
 rotate_left
 ·rw [if_neg h1] at eV
  subst eV
  simp -dsimp [h1,resOf,↓ awpC_of xc17b]
 rw [if_pos h1] at eV
 obtain ⟨f1,f2,f3⟩:=fitN_b h1
 simp -dsimp [h1,↓ awpC_of xc17b]
 refine call_p (b25 t (by omega)) (by simp) (by simp) ?_
 simp -dsimp [↓ awpC_of xc17b]
 refine call_p (b15 cs hcs t (by omega) s hs) (by simp [stgRow]) (by simp) ?_
 simp -dsimp [↓ awpC_of xc17b]
 refine call_p (b13 cs hcs.one t (by omega)) (by simp) (by simp) ?_
 simp -dsimp [↓ awpC_of xc17b]
 refine call_p (b44 t (by omega)) (by simp) (by simp) ?_
 simp -dsimp [↓ awpC_of xc17b]
 have hn:(splT t).length≤100:=by have:=splT_len t;omega
 have m0:((splT t).length:Int)≤281474976710656:=by omega
 have f0:((splT t).length:Int)≤9223372036854775807:=by omega
 have hm:∀ x∈splT t,x.1<x.2∧x.2≤t.length∧x.2 - x.1≤6:=fun x hx=>splT_mem hx
 simp -dsimp [m0,f0,↓ awpC_of xc17b]
 refine ⟨fun a b b1 e1 e2 _=>⟨fun e=>by omega,fun e=>by omega⟩,?_⟩
 have q46:=b46 t (by omega)
 have hWl:(widthsN cs t s).length=(splT t).length:=by simp [widthsN,h1]
 have hWb:∀ x∈widthsN cs t s,0≤x∧x≤40000000000000000:=widthsN_b hcs h1
 have hFl:(fontsN cs t).length=(splT t).length:=by simp [fontsN]
 have hLl:=levT_len t
 have hMl:(mayL t).length=(splT t).length:=by simp [mayL]
 have hSl:(spcL t).length=(splT t).length:=by simp [spcL]
 have q45:=b45 (widthsN cs t s) (mayL t) (spcL t) w (splT t).length hWl hSl hMl (by omega)
 have hs0:=spcK_0 t
 have hse:=spcK_end t
 have hss:=spcK_succ t
 have hsl:=fun k=>spcK_len (t:=t) (k:=k)
 have eL:fillN (widthsN cs t s) (mayL t) (spcL t) w (splT t).length=linesN cs t s w:=rfl
 rw [eL] at q45
 have hlsl:(linesN cs t s w).length=(splT t).length:=fillN_len
 obtain ⟨T,eT⟩:∃ T,splT t=T:=⟨_,rfl⟩
 obtain ⟨Fs,eF⟩:∃ Fs,fontsN cs t=Fs:=⟨_,rfl⟩
 obtain ⟨Ws,eW⟩:∃ Ws,widthsN cs t s=Ws:=⟨_,rfl⟩
 obtain ⟨LV,eLV⟩:∃ LV,levT t=LV:=⟨_,rfl⟩
 obtain ⟨ls,els⟩:∃ ls,linesN cs t s w=ls:=⟨_,rfl⟩
 obtain ⟨ms,ems⟩:∃ ms,mayL t=ms:=⟨_,rfl⟩
 simp only [eT,eF,eW,eLV,els,ems] at hlsl hm hn m0 f0 hWl hFl hLl hMl hSl q46 q45 hs0 hse hss hsl eV hWb ⊢
 rw [hs0]
 refine loopC T.length (fun k=>⟨[(1,.p (.str (ba t))),(3,.p (.int .i64 w)),(8,.ptr (8,0) 1 0 0),(9,.p (.sl 2 (T.map spRow))),(10,.ptr (10,0) 1 0 0),(11,.p (.sl 1 (Fs.map intRow))),(12,.p (.sl 1 (LV.map intRow))),(13,.ref (39,0) 1 0 T.length),(40,.p (.sl 2 (T.map spRow))),(41,.p (.int .i64 T.length)),(42,.p (.int .i64 k))],
  [((8,0),.box [.p .nsl]),((10,0),.box [.p (.sl 1 (Ws.map intRow))]),((39,0),.sl 4 1 ((spcK t k).map boolRow))]⟩) (fun _=>True) (fun k hk _=>?_) trivial (by simp)
 by_cases h:k<T.length
 ·obtain ⟨⟨a,b⟩,ex⟩:∃ x,T[k]=x:=⟨_,rfl⟩
  obtain ⟨hab,hb,h6⟩:=hm (a,b) (by rw [←ex];simp)
  dsimp only at hab hb h6
  have exd:T.getD k (0,0)=(a,b):=by simp [h,ex]
  have hs1:=hss k
  rw [exd] at hs1
  dsimp only at hs1
  have hl1:=hsl k
  obtain ⟨M,eM⟩:∃ M,spcK t k=M:=⟨_,rfl⟩
  rw [eM] at hs1 hl1
  rw [eM,hs1]
  have wk:R ((k:Int)+1):=⟨by omega,by omega⟩
  have hkM:k<M.length:=by omega
  have htl:(boolRow M[k]).tail=[]:=rfl
  simp -dsimp [h,ex,spRow,↓ awpC_of xc17b]
  refine call_p (b32 t a b hab hb (by omega)) (by simp [spRow]) (by simp) ?_
  simp -dsimp [h,hl1,hkM,htl,wr wk,-List.all_eq_true,↓ awpC_of xc17b]
 ·have:k=T.length:=by omega
  subst this
  rw [hse]
  simp -dsimp [h,↓ awpC_of xc17b]
  refine awpC_in ?_
  have hd:=x17c t hl w hw T T.length rfl hn Fs Ws LV ls hFl hWl hLl hlsl (fun x hx=>⟨(hm x hx).1,(hm x hx).2.1⟩) hWb
  have eV2:V17 Ws LV T Fs ls (decide (baseN t=2)) w T.length=V:=eV
  rw [eV2] at hd
  have htk:List.take T.length ((spcL t).map boolRow)=(spcL t).map boolRow:=List.take_of_length_le (by simp [hSl])
  simp -dsimp [xc17b,hSl,htk,↓ awpC_of xc17c]
  refine call_p q46 (by simp) (by simp) ?_
  simp -dsimp [↓ awpC_of xc17c]
  refine call_p q45 (by simp [hSl,htk]) (by simp) ?_
  simp -dsimp [↓ awpC_of xc17c]
  exact awpC_in hd
end
section
def ac19:AC:=by
 apply fun (y:AC) (_:@Eq AC (qk [0,1] (qs (qr [(qp 4 (.mov (.c (.bool false))))]) (qk [0,1] (qs (qs (qr [(ym 6 0),(yh 7 6 [0]),(ym 8 1),(yh 9 8 [2]),(yb 10 .neq 7 9 [1,3])]) (qk [0,1,10] (qq (.v 10) (qs (qr [(qp 4 (.mov (.c (.bool false))))]) (qk [4] .ret)) .skip))) (qk [0,1] (qs (qs (qr [(qp 5 (.mov (qz 0)))]) (qk [0,1,5] (.block 0 (.loop (qk [0,1,5] (qs (qs (qr [(ym 11 5),(ym 12 0),(yh 13 12 [1]),(yb 14 .lss 11 13 [0,2])]) (qk [0,1,5,14] (qq (.v 14) .skip (.exit 0)))) (qk [0,1,5] (qs (.block 1 (qs (qd [(qe (ym 17 0) [18,21,22,23,24] [] 2),(qe (ym 18 5) [17,21,22,23,24] [0] 2),(qe (yj 19 6 17 18 [0,1]) [21,22,23,24] [] 2),(qe (qi 20 (qt 6 19) [2]) [21,22,23,24] [] 2),(qe (ym 21 1) [17,18,19,20,22] [0,1,2,3] 2),(qe (ym 22 5) [17,18,19,20,21] [0,1,2,3,4] 2),(qe (yj 23 6 21 22 [4,5]) [17,18,19,20] [0,1,2,3] 2),(qe (qi 24 (qt 6 23) [6]) [17,18,19,20] [0,1,2,3] 2),(qe (qi 25 (.eqs true 6 [(0,1),(1,1),(2,1),(3,1),(4,1),(5,1)] (.v 20) (.v 24)) [3,7]) [] [] 2)]) (qk [0,1,5,25] (qq (.v 25) (qs (qr [(qp 4 (.mov (.c (.bool false))))]) (qk [4] .ret)) .skip)))) (qk [0,1,5] (qr [(ym 15 5),(yc 16 .add 15 (qz 1) [0]),(yn 5 16 [1,0,1])])))))))))) (qk [] (qs (qr [(qp 4 (.mov (.c (.bool true))))]) (qk [4] .ret))))))))) y)=>y
 dsimp
theorem fn19:factOf Tryz.prog 19=some (ac19.strip,[.tmp 4],26):=by kernel_rfl
theorem ok19:ac19.okAll=true:=by kernel_rfl
end
section
attribute [local simp ↓] awp_scope awp_label
attribute [local simp] w1
set_option maxHeartbeats 400000
attribute [local simp] evC
attribute [local simp ↓] onePl
theorem b19 (a:List Plc) (ha:a.length≤1000):Best Tryz.prog 19 [.sl 6 (a.map plcRow),.sl 6 (a.map plcRow)] (.p (.bool true)):=by
 refine best mixed fn19 ok19 (by simp) ?_
 simp -dsimp [ac19]
 refine loopC a.length (fun k=>⟨[(0,.p (.sl 6 (a.map plcRow))),(1,.p (.sl 6 (a.map plcRow))),(5,.p (.int .i64 k))],[]⟩) (fun _=>True) (fun k hk _=>?_) trivial (by simp)
 by_cases h:k<a.length
 ·have wk:R ((k:Int)+1):=⟨by omega,by omega⟩
  obtain ⟨⟨i,f,l,x,w⟩,e⟩:∃ p,a[k]=p:=⟨_,rfl⟩
  simp -dsimp [h,e,plcRow,wr wk]
 ·have:k=a.length:=by omega
  subst this
  simp -dsimp [h]
end
section
set_option maxHeartbeats 400000
attribute [local simp] evC
def leV (p q:PV):Prop:=∀ S y,PRel S p y→PRel S q y
def leL:List PV→List PV→Prop
 | [],[]=>True
 | a :: l,b :: m=>leV a b∧leL l m
 | _,_=>False
def leR:List (List PV)→List (List PV)→Prop
 | [],[]=>True
 | a :: l,b :: m=>leL a b∧leR l m
 | _,_=>False
theorem leV.refl (p:PV):leV p p:=fun _ _ h=>h
theorem leL.refl:∀ l:List PV,leL l l
 | []=>trivial
 | a :: l=>⟨leV.refl a,leL.refl l⟩
theorem leL.len:∀ {l m:List PV},leL l m→m.length=l.length
 | [],[],_=>rfl
 | a :: l,b :: m,h=>by simp [leL.len h.2]
 | [],b :: m,h=>h.elim
 | a :: l,[],h=>h.elim
theorem leR.len:∀ {l m:List (List PV)},leR l m→m.length=l.length
 | [],[],_=>rfl
 | a :: l,b :: m,h=>by simp [leR.len h.2]
 | [],b :: m,h=>h.elim
 | a :: l,[],h=>h.elim
theorem leL.get:∀ {l m:List PV},leL l m→∀ (j:Nat) (q:PV),m[j]?=some q→∃ p,l[j]?=some p∧leV p q
 | [],[],_,j,q,e=>by simp at e
 | a :: l,b :: m,h,0,q,e=>by simp at e;subst e;exact ⟨a,rfl,h.1⟩
 | a :: l,b :: m,h,j+1,q,e=>by simp at e;simpa using leL.get h.2 j q e
 | [],b :: m,h,_,_,_=>h.elim
 | a :: l,[],h,_,_,_=>h.elim
theorem leR.get:∀ {l m:List (List PV)},leR l m→∀ (j:Nat) (q:List PV),m[j]?=some q→∃ p,l[j]?=some p∧leL p q
 | [],[],_,j,q,e=>by simp at e
 | a :: l,b :: m,h,0,q,e=>by simp at e;subst e;exact ⟨a,rfl,h.1⟩
 | a :: l,b :: m,h,j+1,q,e=>by simp at e;simpa using leR.get h.2 j q e
 | [],b :: m,h,_,_,_=>h.elim
 | a :: l,[],h,_,_,_=>h.elim
theorem leV.nsl (n:Nat):leV .nsl (.sl n []):=fun S y h=>PRel.nsl_sl h n
theorem leV.sl {n:Nat} {l m:List (List PV)} (h:leR l m):leV (.sl n l) (.sl n m):=fun S y q=>by
 cases q with
 | sl _ _ a cap f h1 h2 h3 h4=>
  have hl:=h.len
  have:=PRel.sl (S:=S) n m a cap f (by omega)
   (fun i row e=>by obtain ⟨r,e1,e2⟩:=h.get i row e;rw [e2.len];exact h2 i r e1)
   (fun i row j p e e'=>by
    obtain ⟨r,e1,e2⟩:=h.get i row e
    obtain ⟨p',e3,_⟩:=e2.get j p e'
    exact h3 i r j p' e1 e3)
   (fun i row j p e e'=>by
    obtain ⟨r,e1,e2⟩:=h.get i row e
    obtain ⟨p',e3,e4⟩:=e2.get j p e'
    exact e4 S _ (h4 i r j p' e1 e3))
  rw [hl] at this
  exact this
theorem leV.agg {l m:List PV} (h:leL l m):leV (.agg l) (.agg m):=fun S y q=>by
 cases q with
 | agg _ vs hl hh=>
  exact .agg m vs (by rw [h.len];exact hl) fun j p v e e'=>by
   obtain ⟨p',e3,e4⟩:=h.get j p e
   exact e4 S _ (hh j p' v e3 e')
theorem Best.weak {P:Program} {f:FuncId} {ps:List PV} {v v':PV} (h:Best P f ps (.p v)) (hv:leV v v'):Best P f ps (.p v'):=
 ⟨h.1,fun S w xs hS hx=>(h.2 S w xs hS hx).mono fun e w' ⟨x,S',h1,h2,h3,h4,h5,h6⟩=>⟨x,S',h1,h2,h3,h4,h5,hv _ _ h6⟩⟩
def exA:Cor:=⟨⟨#[99]⟩,1,[],[],1,[⟨32,0,16,[]⟩,⟨64,0,32,[]⟩,⟨65,0,40,[]⟩],[(64,65,-8)],[]⟩
def exB:Cor:=⟨⟨#[100]⟩,1,[],[],1,[⟨65,0,64,[]⟩,⟨104,0,64,[]⟩],[],[]⟩
def exL:List Cor:=[exA,exB]
theorem b18:Best Tryz.prog 18 [] (.p (.sl 9 (exL.map corRow))):=by
 have h:Best Tryz.prog 18 [] (.p (.sl 9 [[.str ⟨#[99]⟩,.int .i64 1,.nsl,.nsl,.int .i64 1,.sl 4 [[.int .i64 32,.int .i64 0,.int .i64 16,.nsl],[.int .i64 64,.int .i64 0,.int .i64 32,.nsl],[.int .i64 65,.int .i64 0,.int .i64 40,.nsl]],.sl 3 [[.int .i64 64,.int .i64 65,.int .i64 (-8)]],.nsl,.str ⟨#[]⟩],
   [.str ⟨#[100]⟩,.int .i64 1,.nsl,.nsl,.int .i64 1,.sl 4 [[.int .i64 65,.int .i64 0,.int .i64 64,.nsl],[.int .i64 104,.int .i64 0,.int .i64 64,.nsl]],.nsl,.nsl,.str ⟨#[]⟩]])):=by
  refine best mixed fn18 ok18 (by simp) ?_
  simp -dsimp [ac18,List.range,List.range.loop,resOf]
 refine Best.weak h (leV.sl ?_)
 refine ⟨⟨leV.refl _,leV.refl _,leV.nsl _,leV.nsl _,leV.refl _,leV.sl ⟨⟨leV.refl _,leV.refl _,leV.refl _,leV.nsl _,trivial⟩,⟨leV.refl _,leV.refl _,leV.refl _,leV.nsl _,trivial⟩,⟨leV.refl _,leV.refl _,leV.refl _,leV.nsl _,trivial⟩,trivial⟩,leV.refl _,leV.nsl _,leV.refl _,trivial⟩,
  ⟨leV.refl _,leV.refl _,leV.nsl _,leV.nsl _,leV.refl _,leV.sl ⟨⟨leV.refl _,leV.refl _,leV.refl _,leV.nsl _,trivial⟩,⟨leV.refl _,leV.refl _,leV.refl _,leV.nsl _,trivial⟩,trivial⟩,leV.nsl _,leV.nsl _,leV.refl _,trivial⟩,trivial⟩
theorem ex_fine:∀ c∈exL,c.fine:=by
 intro c hc
 simp only [exL,List.mem_cons,List.not_mem_nil,or_false] at hc
 rcases hc with rfl | rfl
 ·exact ⟨by simp [exA],by simp [exA],by simp [exA],by simp [exA],by simp [exA,R],by simp [exA]⟩
 ·exact ⟨by simp [exB],by simp [exB],by simp [exB],by simp [exB],by simp [exB,R],by simp [exB]⟩
theorem ex_ok2:CorsOk2 exL:=⟨by simp [exL],ex_fine⟩
end
section
def ac8:AC:=by
 apply fun (y:AC) (_:@Eq AC (let e0:=[1,2,3,4,5,6,7];let e1:=[7,7,0,1,2,3,4,5,6,7];(qk [] (qs (qr [(qp 0 (.mov (.c (.bool false))))]) (qk [] (qs (qr [(qp 11 (.call 18 [])),(yn 1 11 [0,0,0])]) (qk [1] (qs (qr [(qp 12 (.build [.int .i64 0,.nsl,.int .i64 0] [(0,1,.c (.int .i64 8))])),(qp 2 (.alloc [.int .i64 0,.nsl,.int .i64 0])),(qo (.store 3 (.v 2) (.v 12)) [1,0,0,1])]) (qk [1,2] (qs (qr [(ym 13 1),(qi 14 (.call 13 [.v 13,.c (.str ⟨#[64,65,32,104,65,10,33]⟩)]) [0]),(qp 15 (.bslice 3 1 7 [.int .i64 0,.int .i64 0,.int .i64 0,.int .i64 0,.int .i64 0,.int .i64 0,.int .i64 0] [(0,1,.c (.int .i64 0)),(1,1,.c (.int .i64 0)),(2,1,.c (.int .i64 0)),(3,1,.c (.int .i64 1)),(4,1,.c (.int .i64 0)),(5,1,.c (.int .i64 (-1))),(6,1,.c (.int .i64 (-1)))])),(qi 16 (.call 12 [.v 14,.v 15]) [1,2,1]),(yn 17 16 [3,3]),(qg 18 (qm 1) 17 true [4]),(qg 19 (qt 3 2) 17 true [4]),(qg 20 (.call 15 [.v 18,.c (.str ⟨#[64,65,32,104,65,10,33]⟩),.v 19]) 17 true [5,6,4,4]),(qg 21 (.bslice 3 1 7 [.int .i64 0,.int .i64 0,.int .i64 0,.int .i64 0,.int .i64 0,.int .i64 0,.int .i64 0] [(0,1,.c (.int .i64 4)),(1,1,.c (.int .i64 4)),(2,1,.c (.int .i64 2)),(3,1,.c (.int .i64 8)),(4,1,.c (.int .i64 5)),(5,1,.c (.int .i64 0)),(6,1,.c (.int .i64 4))]) 17 true [4]),(qg 22 (.call 12 [.v 20,.v 21]) 17 true [7,8,7,4]),(qi 23 (.pick (.v 17) (.v 22) (.c (.bool false))) [4,9]),(yn 3 23 [10,9,0,1,2,3,4,5,6,7,8,9,10])]) (qk [1,2,3] (qs (qr [(ym 24 1),(qp 25 (qt 3 2)),(qi 26 (.call 17 [.v 24,.c (.str ⟨#[64,65,32,104,65,10,33]⟩),.v 25,.c (.int .i64 10)]) [0,1]),(yn 4 26 [2,2,0,1,2])]) (qk [1,2,3,4] (qs (qs (qr [(ym 27 4),(yh 28 27 [0]),(yc 29 .neq 28 (qz 7) [1])]) (qk [1,2,3,4,29] (qq (.v 29) (qs (qr [(qp 0 (.mov (.c (.bool false))))]) (qk [0] .ret)) .skip))) (qk [1,2,3,4] (qs (qr [(qp 5 (.mov (.c .nsl))),(qi 6 (.mov (.c .nsl)) [0])]) (.ghost (.own 6 49 3 1) (.ghost (.own 5 41 3 1) (qk [1,2,3,4,5,6] (qs (qs (qr [(qp 7 (.mov (qz 0)))]) (qk e0 (.block 0 (.loop (qk e0 (qs (qs (qr [(ym 30 7),(yc 31 .lss 30 (qz 7) [0])]) (qk [1,2,3,4,5,6,7,31] (qq (.v 31) .skip (.exit 0)))) (qk e0 (qs (.block 1 (qs (qr [(ym 34 5),(ym 35 4),(ym 36 7),(yj 37 6 35 36 [1,2]),(yf 38 3 37 [3]),(yk 39 38 [4]),(qi 40 (.bslice 3 1 1 [.int .i64 0] [(0,1,.v 39)]) [5]),(qi 41 (.app 3 1 8 (.v 34) (.v 40)) [0,6]),(yn 5 41 e1)]) (qk e0 (qr [(ym 42 6),(ym 43 4),(ym 44 7),(yj 45 6 43 44 [1,2]),(yf 46 4 45 [3]),(yk 47 46 [4]),(qi 48 (.bslice 3 1 1 [.int .i64 0] [(0,1,.v 47)]) [5]),(qi 49 (.app 3 1 8 (.v 42) (.v 48)) [0,6]),(yn 6 49 e1)])))) (qk e0 (qr [(ym 32 7),(yc 33 .add 32 (qz 1) [0]),(yn 7 33 [1,0,1])])))))))))) (qk [1,2,3,5,6] (qs (qr [(ym 50 5),(qp 51 (.bslice 3 1 7 [.int .i64 0,.int .i64 0,.int .i64 0,.int .i64 0,.int .i64 0,.int .i64 0,.int .i64 0] [(0,1,.c (.int .i64 0)),(1,1,.c (.int .i64 0)),(2,1,.c (.int .i64 0)),(3,1,.c (.int .i64 1)),(4,1,.c (.int .i64 2)),(5,1,.c (.int .i64 2)),(6,1,.c (.int .i64 3))])),(qi 52 (.call 12 [.v 50,.v 51]) [0,1]),(yn 53 52 [2,2]),(qg 54 (qm 6) 53 true [3]),(qg 55 (.bslice 3 1 7 [.int .i64 0,.int .i64 0,.int .i64 0,.int .i64 0,.int .i64 0,.int .i64 0,.int .i64 0] [(0,1,.c (.int .i64 0)),(1,1,.c (.int .i64 4)),(2,1,.c (.int .i64 8)),(3,1,.c (.int .i64 0)),(4,1,.c (.int .i64 0)),(5,1,.c (.int .i64 5)),(6,1,.c (.int .i64 0))]) 53 true [3]),(qg 56 (.call 12 [.v 54,.v 55]) 53 true [4,5,3,3]),(qi 57 (.pick (.v 53) (.v 56) (.c (.bool false))) [3,6]),(yn 8 57 [7,6,0,1,2,3,4,5,6,7])]) (qk [1,2,3,8] (qs (qr [(ym 58 1),(qp 59 (qt 3 2)),(qi 60 (.call 17 [.v 58,.c (.str ⟨#[104,65]⟩),.v 59,.c (.int .i64 20)]) [0,1]),(yn 9 60 [2,2,0,1,2])]) (qk [1,3,8,9] (qs (qr [(ym 61 9),(qp 62 (.build [.int .i64 0,.int .i64 0,.int .i64 0,.int .i64 0,.int .i64 0,.int .i64 0] [(1,1,.c (.int .i64 0)),(2,1,.c (.int .i64 1)),(4,1,.c (.int .i64 12)),(5,1,.c (.int .i64 8))])),(qp 63 (.build [.int .i64 0,.int .i64 0,.int .i64 0,.int .i64 0,.int .i64 0,.int .i64 0] [(1,1,.c (.int .i64 1)),(2,1,.c (.int .i64 0)),(4,1,.c (.int .i64 7)),(5,1,.c (.int .i64 5))])),(qi 64 (.bslice 49 6 2 [.int .i64 0,.int .i64 0,.int .i64 0,.int .i64 0,.int .i64 0,.int .i64 0,.int .i64 0,.int .i64 0,.int .i64 0,.int .i64 0,.int .i64 0,.int .i64 0] [(0,6,.v 62),(6,6,.v 63)]) [1,2]),(qi 65 (.call 19 [.v 61,.v 64]) [0,3]),(yn 10 65 [4,4,0,1,2,3,4])]) (qk [1,3,8,10] (qs (qr [(ym 66 3),(yn 67 66 [0]),(qg 68 (qm 8) 67 true [1]),(qi 69 (.pick (.v 67) (.v 68) (.c (.bool false))) [1,2]),(yn 70 69 [3,1]),(qg 71 (qm 10) 70 true [4]),(qi 72 (.pick (.v 70) (.v 71) (.c (.bool false))) [4,5]),(yn 73 72 [6,4]),(qg 74 (qm 1) 73 true [7]),(qg 75 (.iaddr 9 (.v 74) (qz 0)) 73 true [8,7]),(qg 76 (qt 9 75) 73 true [9,7]),(qg 77 (.bslice 3 1 1 [.int .i64 0] [(0,1,.c (.int .i64 5))]) 73 true [7]),(qg 78 (.build [.int .i64 0,.nsl,.int .i64 0] [(0,1,.c (.int .i64 8)),(1,1,.v 77)]) 73 true [11,7]),(qg 79 (.call 10 [.v 76,.v 78]) 73 true [10,12,7,7]),(qg 80 (.field 1 false 1 (.v 79)) 73 true [13,7]),(qg 81 (qn 80) 73 true [14,7]),(qg 82 (qc .eql 81 (qz 0)) 73 true [15,7]),(qi 83 (.pick (.v 73) (.v 82) (.c (.bool false))) [7,16]),(yn 0 83 [17,13,0,1,2,3,4,5,6,7,8,9,10,11,12,13,14,15,16,17])]) (qk [0] .ret)))))))))))))))))))))))))))) y)=>y
 dsimp
theorem fn8:factOf Tryz.prog 8=some (ac8.strip,[.tmp 0],84):=by kernel_rfl
theorem ok8:ac8.okAll=true:=by kernel_rfl
end
section
attribute [local simp ↓] awp_scope awp_label
attribute [local simp] w1
set_option maxHeartbeats 400000
attribute [local simp] evC
attribute [local simp ↓] oneN oneI oneSp onePl
def exT:List UInt8:=[64,65,32,104,65,10,33]
def exU:List UInt8:=[104,65]
def exS:Stg:=⟨8,[],0⟩
instance:DecidableEq Plc:=fun a b=>decidable_of_iff (a.i=b.i∧a.f=b.f∧a.l=b.l∧a.x=b.x∧a.w=b.w) (by cases a;cases b;simp)
theorem exF:fontsN exL exT=[0,0,0,1,0,-1,-1]:=by decide +kernel
theorem exW:widthsN exL exT exS=[4,4,2,8,5,0,4]:=by decide +kernel
theorem exP:((placesN exL exT exS 10).map fun p=>p.l)=[0,0,0,1,2,2,3]∧((placesN exL exT exS 10).map fun p=>p.x)=[0,4,8,0,0,5,0]:=by decide +kernel
theorem exQ:placesN exL exU exS 20=[⟨0,1,0,12,8⟩,⟨1,0,0,7,5⟩]:=by decide +kernel
theorem Best.argw {P:Program} {f:FuncId} {ps qs:List PV} {r:Res} (h:Best P f ps r) (hl:leL qs ps):Best P f qs r:=
 ⟨h.1,fun S w xs hS hx=>h.2 S w xs hS ⟨by rw [hx.1,hl.len],fun j p v e1 e2=>by
  obtain ⟨q,e3,e4⟩:=hl.get j p e1
  exact e4 S v (hx.2 j q v e3 e2)⟩⟩
theorem b10F:BestF Tryz.prog 10 [((BIG,0),.sl 3 1 [[.int .i64 5]])] [.p (.agg (corRow exA)),.agg [.p (.int .i64 8),.ref (BIG,0) 1 0 1,.p (.int .i64 0)]] [] (.agg [.p (.int .i64 8),.ref (9,0) 1 0 0,.p (.int .i64 0)]) [((9,0),.sl 3 1 [])]:=by
 refine bestF mixed fn10 ok10 (by simp) (by simp) ?_
 simp -dsimp [ac10,corRow,exA]
 simp [retF,evRs,evRl,evR]
theorem b10G:BestF Tryz.prog 10 [((77,0),.sl 3 1 [[.int .i64 5]])] [.p (.agg (corRow exA)),.agg [.p (.int .i64 8),.ref (77,0) 1 0 1,.p (.int .i64 0)]] [] (.agg [.p (.int .i64 8),.ref (79,0) 1 0 0,.p (.int .i64 0)]) [((79,0),.sl 3 1 [])]:=
 b10F.ren (fun t=>if t=(BIG,0) then (77,0) else (79,0)) (fun t=>if t=(77,0) then (BIG,0) else (9,0)) (by simp) (by simp) (by simp) (by simp) (by simp)
theorem b8:Best Tryz.prog 8 [] (.p (.bool true)):=by
 have q13:Best Tryz.prog 13 [.sl 9 (exL.map corRow),.str ⟨#[64,65,32,104,65,10,33]⟩] (.p (.sl 1 (([0,0,0,1,0,-1,-1]:List Int).map intRow))):=by
  have:=b13 exL ex_ok2.one exT (by decide);rw [exF] at this;exact this
 have q15:Best Tryz.prog 15 [.sl 9 (exL.map corRow),.str ⟨#[64,65,32,104,65,10,33]⟩,.agg [.int .i64 8,.nsl,.int .i64 0]] (.p (.sl 1 (([4,4,2,8,5,0,4]:List Int).map intRow))):=by
  have:=b15 exL ex_ok2 exT (by decide) exS (by decide)
  rw [exW] at this
  exact Best.argw this ⟨leV.refl _,leV.refl _,leV.agg ⟨leV.refl _,leV.nsl 1,leV.refl _,trivial⟩,trivial⟩
 obtain ⟨P,eP⟩:∃ P,placesN exL exT exS 10=P:=⟨_,rfl⟩
 have hP:=exP
 rw [eP] at hP
 have hPl:P.length=7:=by have:=congrArg List.length hP.1;simpa using this
 have q17:Best Tryz.prog 17 [.sl 9 (exL.map corRow),.str ⟨#[64,65,32,104,65,10,33]⟩,.agg [.int .i64 8,.nsl,.int .i64 0],.int .i64 10] (.p (.sl 6 (P.map plcRow))):=by
  have:=b17 exL ex_ok2 exT (by decide) exS (by decide) 10 (by decide)
  rw [eP] at this
  exact Best.argw this ⟨leV.refl _,leV.refl _,leV.agg ⟨leV.refl _,leV.nsl 1,leV.refl _,trivial⟩,leV.refl _,trivial⟩
 have q17':Best Tryz.prog 17 [.sl 9 (exL.map corRow),.str ⟨#[104,65]⟩,.agg [.int .i64 8,.nsl,.int .i64 0],.int .i64 20] (.p (.sl 6 (([⟨0,1,0,12,8⟩,⟨1,0,0,7,5⟩]:List Plc).map plcRow))):=by
  have:=b17 exL ex_ok2 exU (by decide) exS (by decide) 20 (by decide)
  rw [exQ] at this
  exact Best.argw this ⟨leV.refl _,leV.refl _,leV.agg ⟨leV.refl _,leV.nsl 1,leV.refl _,trivial⟩,leV.refl _,trivial⟩
 have q19:=b19 [⟨0,1,0,12,8⟩,⟨1,0,0,7,5⟩] (by decide)
 have q12:=fun (l m:List Int) (h:l.length≤100)=>b12 l m (by omega)
 refine best mixed fn8 ok8 (by simp) ?_
 simp -dsimp [ac8]
 refine call_p b18 (by simp) (by simp) ?_
 simp -dsimp
 refine call_p q13 (by simp) (by simp) ?_
 simp -dsimp [List.range,List.range.loop]
 refine call_f (q12 [0,0,0,1,0,-1,-1] [0,0,0,1,0,-1,-1] (by decide)) (by simp [intRow]) (by simp) (by simp) ?_
 simp -dsimp
 refine call_p q15 (by simp) (by simp) ?_
 simp -dsimp [List.range,List.range.loop]
 refine call_f (q12 [4,4,2,8,5,0,4] [4,4,2,8,5,0,4] (by decide)) (by simp [intRow]) (by simp) (by simp) ?_
 simp -dsimp
 refine call_p q17 (by simp) (by simp) ?_
 simp -dsimp [hPl]
 refine loopC 7 (fun k=>⟨[(1,.p (.sl 9 (exL.map corRow))),(2,.ptr (2,0) 3 0 0),(3,.p (.bool true)),(4,.p (.sl 6 (P.map plcRow))),(5,.ref (41,k) 1 0 k),(6,.ref (49,k) 1 0 k),(7,.p (.int .i64 k))],
  [((2,0),.box [.p (.int .i64 8),.p .nsl,.p (.int .i64 0)]),((41,k),.sl 3 1 (((P.take k).map fun p=>p.l).map intRow)),((49,k),.sl 3 1 (((P.take k).map fun p=>p.x).map intRow))]⟩) (fun _=>True) (fun k hk _=>?_) trivial (by simp)
 by_cases h:k<7
 ·have hkP:k<P.length:=by omega
  obtain ⟨⟨i,f,l,x,w⟩,e⟩:∃ p,P[k]=p:=⟨_,rfl⟩
  have hs:P.take (k+1)=P.take k++[⟨i,f,l,x,w⟩]:=by rw [List.take_add_one,List.getElem?_eq_getElem hkP,e];rfl
  have hl:(P.take k).length=k:=by simp;omega
  rw [hs]
  obtain ⟨M,eM⟩:∃ M,P.take k=M:=⟨_,rfl⟩
  rw [eM] at hl ⊢
  have wk:R ((k:Int)+1):=⟨by omega,by omega⟩
  have m1:k+1≤maxLen:=by unfold maxLen;omega
  have e1:(k+1)*8≤140737488355328:=by omega
  have h':(k:Int)<7:=by omega
  simp -dsimp [h,h',hkP,e,plcRow,intRow,hl,wr wk,m1,e1,List.range,List.range.loop,-List.all_eq_true]
 ·have:k=7:=by omega
  subst this
  rw [show P.take 7=P from List.take_of_length_le (by omega),hP.1,hP.2]
  simp -dsimp [List.range,List.range.loop]
  refine call_f (q12 [0,0,0,1,2,2,3] [0,0,0,1,2,2,3] (by decide)) (by simp [intRow]) (by simp) (by simp) ?_
  simp -dsimp [List.range,List.range.loop]
  refine call_f (q12 [0,4,8,0,0,5,0] [0,4,8,0,0,5,0] (by decide)) (by simp [intRow]) (by simp) (by simp) ?_
  simp -dsimp
  refine call_p q17' (by simp) (by simp) ?_
  simp -dsimp [List.range,List.range.loop]
  refine call_f q19 (by simp [plcRow]) (by simp) (by simp) ?_
  have hx0:exL[0]?=some exA:=rfl
  simp -dsimp [List.range,List.range.loop,hx0,corRow]
  refine call_m b10G (by simp) (by simp) (by simp) ?_
  simp -dsimp [resOf]
end
end Go.Abs.A29
