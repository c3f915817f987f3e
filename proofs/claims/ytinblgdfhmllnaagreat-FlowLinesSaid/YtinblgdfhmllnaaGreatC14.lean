/- A part of the proof: an abstract reading of the model, contracts of functions. -/
import Derived.Test.YtinblgdfhmllnaaGreatC13
import Derived.Test.YtinblgdfhmllnaaGreatProg
set_option linter.unusedVariables false
set_option linter.unusedSimpArgs false
namespace Go.Abs.A29
open Go Go.Abs Go.Proofs
set_option maxRecDepth 100000
set_option linter.unusedVariables false
set_option linter.unusedSimpArgs false
attribute [local simp ↓] awp_skip awp_seq awp_cond awp_block awp_exit awp_ret awp_reg awp_draw awp_ghost awp_loop awp_rfun awpR_nil awpR_cons awpX_nil awpX_0 awpX_1 awpX_2 awpI_eq awpI_t awpI_f awpStep_eq
attribute [local simp] condL_true condL_false condL_dec evDel evV evN evS evA initFr Ghost.app Fr.var Fr.blk Fr.ff FF.val Abs.look Fr.app Fr.erase Fr.noSlot AV.noSlot AV.noSlotL Blk.noSlot Fr.spoken AV.fz AV.fzL Blk.fz binV binI shI binS unV fillA FF.parts FF.vals headO intO boundO lenV scalarEq leavesEq AV.aggc AV.cells FF.read FF.rows AV.one PV.one chunk freshB newS pickV retK evRs evRl evR resOf mkTup mkAgg allP cloOf okP_nil okX_p okX okP addN Del.noSlot Del.owners Rnd reify_p normM insM Fr.back Fr.backV Fr.setPs normV insV
attribute [local simp] renF Fr.trim Blk.trim AV.rn AV.rnL Blk.rn AV.among AV.amongL Blk.among okF retM fixS BIG initFF
attribute [local simp] FF.reify FF.reifyL PV.flat
attribute [local simp] ym yn yl yk yb yc yf yj yh qp qe qi qo qg qa qk qz qm ql qt qf qj qn qb qc qs qr qq qd
section
def xc133b:AC:=by
 apply fun (y:AC) (_:@Eq AC (qs (qs (qr [(ym 30 9),(ym 31 8),(yc 32 .sub 31 (qz 1) [1]),(yb 33 .eql 30 32 [0,2]),(yn 34 33 [3]),(qg 35 (qf 2 3) 34 true [4]),(qg 36 (qf 0 35) 34 true [5,4]),(qg 37 (ql 36) 34 true [6,4]),(qg 38 (qc .eql 37 (qz 0)) 34 true [7,4]),(qi 39 (.pick (.v 34) (.v 38) (.c (.bool false))) [4,8])]) (qk [2,3,6,7,8,9,10,39] (qq (.v 39) (qr [(qp 40 (.build [.int .i64 0,.int .i64 0] [])),(qo (.store 2 (.v 10) (.v 40)) [0,0])]) .skip))) (qk [2,3,6,7,8,9,10] (qr [(qp 41 (qf 2 7)),(yk 42 41 [0]),(qp 43 (qt 2 10)),(qi 44 (.bslice 130 2 1 [.int .i64 0,.int .i64 0] [(0,2,.v 43)]) [2]),(qi 45 (.app 130 2 16 (.v 42) (.v 44)) [1,3]),(yf 46 2 7 [0,1,2,3,4]),(qo (.store 1 (.v 46) (.v 45)) [5,4,4,0,1,2,3,4])]))) y)=>y
 dsimp
def ac133:AC:=by
 apply fun (y:AC) (_:@Eq AC (let e0:=[2,3,6,7,8,9];(qk [0,1,2] (qs (qr [(qp 3 (.box (.v 0))),(qp 6 (.alloc [.int .i64 0,.int .i64 0,.nsl]))]) (qk [1,2,3,6] (qs (qr [(ym 11 1),(ym 12 2),(qi 13 (.call 50 [.v 12,.c (.int .i64 30)]) [1]),(yc 14 .sub 13 (qz 10) [2]),(qi 15 (.build [.int .i64 0,.int .i64 0,.nsl] [(0,1,.v 11),(1,1,.v 14)]) [0,3]),(qp 7 (.alloc [.int .i64 0,.int .i64 0,.nsl])),(qo (.store 3 (.v 7) (.v 15)) [5,4,2,0,1,2,3,4,5])]) (qk [2,3,6,7] (.ghost (.ownC (7,0) 2 (45,0) 130 2) (qs (qr [(qp 16 (qt 8 3)),(qi 17 (.call 98 [.v 16]) [0]),(yn 8 17 [1,1,0,1])]) (qk [2,3,6,7,8] (qs (qs (qr [(qp 9 (.mov (qz 0)))]) (qk e0 (.block 0 (.loop (qk e0 (qs (qs (qr [(ym 18 9),(ym 19 8),(yb 20 .lss 18 19 [0,1])]) (qk [2,3,6,7,8,9,20] (qq (.v 20) .skip (.exit 0)))) (qk e0 (qs (.block 1 (qs (qr [(ym 23 2),(qi 24 (.call 50 [.v 23,.c (.int .i64 21)]) [0]),(yc 25 .sub 24 (qz 10) [1]),(ym 26 2),(qi 27 (.call 50 [.v 26,.c (.int .i64 21)]) [3,1]),(yc 28 .sub 27 (qz 10) [4]),(qi 29 (.build [.int .i64 0,.int .i64 0] [(0,1,.v 25),(1,1,.v 28)]) [2,5]),(qp 10 (.alloc [.int .i64 0,.int .i64 0])),(qo (.store 2 (.v 10) (.v 29)) [7,6,4,0,1,2,3,4,5,6,7])]) (qk [2,3,6,7,8,9,10] xc133b))) (qk e0 (qr [(ym 21 9),(yc 22 .add 21 (qz 1) [0]),(yn 9 22 [1,0,1])])))))))))) (.ghost (.canC (7,0) 2 (7,1)) (.ghost (.freeze (7,1)) (qk [2,6,7] (qs (qr [(qp 47 (qt 3 7)),(qo (.store 3 (.v 6) (.v 47)) [0,0])]) (qk [2,6] .ret))))))))))))))) y)=>y
 dsimp
theorem fn133:factOf Tryz.prog 133=some (ac133.strip,[.cell 6 true 3],48):=by kernel_rfl
theorem ok133:ac133.okAll=true:=by kernel_rfl
def xc96d:AC:=by
 apply fun (y:AC) (_:@Eq AC (let e0:=[122,123,124,125,126];(qs (qs (qr [(ym 106 17),(ym 107 1),(yb 108 .lss 106 107 [0,1]),(yn 109 108 [2]),(qg 110 (qf 6 6) 109 true [3]),(qg 111 (ql 110) 109 true [4,3]),(qg 112 (qn 111) 109 true [5,3]),(qg 113 (qc .lss 112 (qz 2)) 109 true [6,3]),(qi 114 (.pick (.v 109) (.v 113) (.c (.bool false))) [3,7])]) (qk [1,4,5,6,17,114] (qq (.v 114) .skip (.exit 6)))) (qk [1,4,5,6,17] (qs (.block 7 (qs (qr [(ym 117 5),(qi 118 (.call 50 [.v 117,.c (.int .i64 2)]) [0]),(yc 119 .eql 118 (qz 1) [1])]) (qk [1,4,5,6,17,119] (qq (.v 119) (qd [(qa (qp 120 (qf 6 6)) e0 [20,125,126] [] [] 2),(qa (yk 121 120 [0]) e0 [20,125,126] [] [] 0),(qe (qp 122 (qt 8 6)) [120,121,123,124] [0,1] 2),(qe (ym 123 17) [120,121,122,124] [0,1,2] 2),(qe (ym 124 5) [120,121,122,123] [0,1,2,3] 2),(qa (qi 125 (.call 133 [.v 122,.v 123,.v 124]) [2,3,4]) [120,121] [] [20,125] [0,1] 1),(qa (qi 126 (.bslice 182 3 1 [.int .i64 0,.int .i64 0,.nsl] [(0,3,.v 125)]) [5]) [120,121] [] [126] [0,1] 1),(qa (qi 127 (.app 182 3 40 (.v 121) (.v 126)) [1,6,5]) [] [] [22,25,32,35,38,47,51,54,59,60,64,65,68,71,83,86,89,90,93,96,99,102,118,125,126,127] [] 1),(qe (yf 128 6 6 [0,1,2,3,4,5,6,7]) [] [] 2),(qa (qo (.store 1 (.v 128) (.v 127)) [8,7,7,0,1,2,3,4,5,6,7]) [] [] [6] [] 1)]) .skip)))) (qk [1,4,5,6,17] (qr [(ym 115 17),(yc 116 .add 115 (qz 1) [0]),(yn 17 116 [1,0,1])])))))) y)=>y
 dsimp
def xc96c:AC:=by
 apply fun (y:AC) (_:@Eq AC (qs (qs (qr [(ym 92 5),(qi 93 (.call 50 [.v 92,.c (.int .i64 3)]) [0]),(yc 94 .eql 93 (qz 0) [1])]) (qk [1,4,5,6,94] (qq (.v 94) (qr [(ym 95 5),(qi 96 (.call 50 [.v 95,.c (.int .i64 3)]) [0]),(qi 97 (.bin .add (qz 1) (.v 96)) [1]),(ym 98 5),(qi 99 (.call 50 [.v 98,.c (.int .i64 60)]) [3,1]),(yc 100 .sub 99 (qz 10) [4]),(ym 101 5),(qi 102 (.call 50 [.v 101,.c (.int .i64 60)]) [6,4]),(yc 103 .sub 102 (qz 10) [7]),(qi 104 (.build [.int .i64 0,.int .i64 0,.int .i64 0] [(0,1,.v 97),(1,1,.v 100),(2,1,.v 103)]) [2,5,8]),(yf 105 2 6 [0,1,2,3,4,5,6,7,8,9]),(qo (.store 3 (.v 105) (.v 104)) [10,9,7,0,1,2,3,4,5,6,7,8,9])]) .skip))) (qk [1,4,5,6] (qs (qs (qr [(qp 17 (.mov (qz 0)))]) (qk [1,4,5,6,17] (.block 6 (.loop (qk [1,4,5,6,17] xc96d))))) (.ghost (.canC (6,0) 6 (6,1)) (.ghost (.freeze (6,1)) (qk [4,6] (qs (qr [(qp 129 (qt 8 6)),(qo (.store 8 (.v 4) (.v 129)) [0,0])]) (qk [4] .ret)))))))) y)=>y
 dsimp
def xc96b:AC:=by
 apply fun (y:AC) (_:@Eq AC (let e0:=[1,4,5,6,7,15,16];let e1:=[79,80,81,82,83,84,85,86,87,88,89];let e2:=[77,78,79,80,81,85];let e3:=[77,78,79,80,81,84];let e4:=[0,1,2,3,4];let e5:=[20,83,86];(qs (qr [(ym 67 5),(qi 68 (.call 50 [.v 67,.c (.int .i64 2)]) [0]),(qi 69 (.bin .add (qz 1) (.v 68)) [1]),(yn 15 69 [2,1,0,1,2])]) (qk [1,4,5,6,15] (qs (qr [(ym 70 5),(qi 71 (.call 50 [.v 70,.c (.int .i64 3)]) [0]),(yn 7 71 [1,1,0,1])]) (qk [1,4,5,6,7,15] (qs (qs (qr [(qp 16 (.mov (qz 0)))]) (qk e0 (.block 4 (.loop (qk e0 (qs (qs (qr [(ym 72 16),(ym 73 7),(yb 74 .lss 72 73 [0,1])]) (qk [1,4,5,6,7,15,16,74] (qq (.v 74) .skip (.exit 4)))) (qk e0 (qs (.block 5 (qd [(qa (qp 77 (qf 1 6)) e1 [20,83,86,89] [] [] 2),(qa (yk 78 77 [0]) e1 [20,83,86,89] [] [] 0),(qa (ym 79 15) [77,78,80,82,83,84,85,86,87] e5 [] [0,1] 2),(qa (ym 80 16) [77,78,79,82,83,84,85,86,87] e5 [] [0,1,2] 2),(qa (yb 81 .add 79 80 [2,3]) [77,78,82,83,84,85,86,87] e5 [] [0,1] 2),(qe (ym 82 5) e2 e4 2),(qa (qi 83 (.call 50 [.v 82,.c (.int .i64 60)]) [5]) e2 [] [20,83] e4 1),(qa (yc 84 .sub 83 (qz 10) [6]) [77,78,79,80,81,85,86,87] [20,86] [] e4 2),(qa (ym 85 5) [77,78,79,80,81,82,83,84] [20,83] [] [0,1,2,3,4,5,6,7] 2),(qa (qi 86 (.call 50 [.v 85,.c (.int .i64 60)]) [8,6]) e3 [] [20,86] [0,1,2,3,4,7] 1),(qe (yc 87 .sub 86 (qz 10) [9]) e3 [0,1,2,3,4,7] 2),(qe (qi 88 (.build [.int .i64 0,.int .i64 0,.int .i64 0] [(0,1,.v 81),(1,1,.v 84),(2,1,.v 87)]) [4,7,10]) [77,78] [0,1] 2),(qa (qi 89 (.bslice 140 3 1 [.int .i64 0,.int .i64 0,.int .i64 0] [(0,3,.v 88)]) [11]) [77,78] [] [89] [0,1] 1),(qa (qi 90 (.app 140 3 24 (.v 78) (.v 89)) [1,12,9]) [] [] [22,25,32,35,38,47,51,54,59,60,64,65,68,71,83,86,89,90,93,96,99,102,118,125,126,127] [] 1),(qe (yf 91 1 6 [0,1,2,3,4,5,6,7,8,9,10,11,12,13]) [] [] 2),(qa (qo (.store 1 (.v 91) (.v 90)) [14,13,13,0,1,2,3,4,5,6,7,8,9,10,11,12,13]) [] [] [6] [] 1)])) (qk e0 (qr [(ym 75 16),(yc 76 .add 75 (qz 1) [0]),(yn 16 76 [1,0,1])])))))))))) (.ghost (.canC (6,0) 1 (6,1)) (.ghost (.freeze (6,1)) (qk [1,4,5,6] xc96c))))))))) y)=>y
 dsimp
def xc96a:AC:=by
 apply fun (y:AC) (_:@Eq AC (let e0:=[1,4,5,6,7,8,9,10,11,12,13];let e1:=[1,4,5,6,7,8];let e2:=[2,1,0,1,2];(.ghost (.zslC (6,0) 7 2) (.ghost (.ownC (6,0) 6 (127,0) 182 3) (.ghost (.ownC (6,0) 1 (90,0) 140 3) (.ghost (.ownC (6,0) 0 (65,0) 178 1) (qs (qr [(ym 24 5),(qi 25 (.call 50 [.v 24,.c (.int .i64 3)]) [0]),(yn 7 25 [1,1,0,1])]) (qk [1,4,5,6,7] (qs (qs (qr [(qp 8 (.mov (qz 0)))]) (qk e1 (.block 0 (.loop (qk e1 (qs (qs (qr [(ym 26 8),(ym 27 7),(yb 28 .lss 26 27 [0,1])]) (qk [1,4,5,6,7,8,28] (qq (.v 28) .skip (.exit 0)))) (qk e1 (qs (.block 1 (qs (qr [(qp 9 (.mov (.c .nsl)))]) (.ghost (.own 9 60 180 3) (qk [1,4,5,6,7,8,9] (qs (qr [(ym 31 5),(qi 32 (.call 50 [.v 31,.c (.int .i64 3)]) [0]),(qi 33 (.bin .add (qz 3) (.v 32)) [1]),(yn 10 33 e2)]) (qk [1,4,5,6,7,8,9,10] (qs (qr [(ym 34 5),(qi 35 (.call 50 [.v 34,.c (.int .i64 40)]) [0]),(yc 36 .sub 35 (qz 10) [1]),(yn 11 36 e2)]) (qk [1,4,5,6,7,8,9,10,11] (qs (qr [(ym 37 5),(qi 38 (.call 50 [.v 37,.c (.int .i64 40)]) [0]),(yc 39 .sub 38 (qz 10) [1]),(yn 12 39 e2)]) (qk [1,4,5,6,7,8,9,10,11,12] (qs (qs (qr [(qp 13 (.mov (qz 0)))]) (qk e0 (.block 2 (.loop (qk e0 (qs (qs (qr [(ym 40 13),(ym 41 10),(yb 42 .lss 40 41 [0,1])]) (qk [1,4,5,6,7,8,9,10,11,12,13,42] (qq (.v 42) .skip (.exit 2)))) (qk e0 (qs (.block 3 (qs (qr [(ym 45 11),(ym 46 5),(qi 47 (.call 50 [.v 46,.c (.int .i64 50)]) [1]),(yb 48 .add 45 47 [0,2]),(ym 49 12),(ym 50 5),(qi 51 (.call 50 [.v 50,.c (.int .i64 50)]) [5,2]),(yb 52 .add 49 51 [4,6]),(ym 53 5),(qi 54 (.call 50 [.v 53,.c (.int .i64 3)]) [8,6]),(yc 55 .gtr 54 (qz 0) [9]),(qi 56 (.build [.int .i64 0,.int .i64 0,.bool false] [(0,1,.v 48),(1,1,.v 52),(2,1,.v 55)]) [3,7,10]),(qp 14 (.alloc [.int .i64 0,.int .i64 0,.bool false])),(qo (.store 3 (.v 14) (.v 56)) [12,11,9,0,1,2,3,4,5,6,7,8,9,10,11,12])]) (qk [1,4,5,6,7,8,9,10,11,12,13,14] (qr [(ym 57 9),(qp 58 (qt 3 14)),(qi 59 (.bslice 180 3 1 [.int .i64 0,.int .i64 0,.bool false] [(0,3,.v 58)]) [1]),(qi 60 (.app 180 3 24 (.v 57) (.v 59)) [0,2]),(yn 9 60 [3,3,0,1,2,3])])))) (qk e0 (qr [(ym 43 13),(yc 44 .add 43 (qz 1) [0]),(yn 13 44 [1,0,1])])))))))))) (.ghost (.canV 9 (9,1)) (.ghost (.freeze (9,1)) (qk [1,4,5,6,7,8,9] (qr [(qp 61 (qf 0 6)),(yk 62 61 [0]),(ym 63 9),(qi 64 (.bslice 178 1 1 [.nsl] [(0,1,.v 63)]) [2]),(qi 65 (.app 178 1 24 (.v 62) (.v 64)) [1,3]),(yf 66 0 6 [0,1,2,3,4]),(qo (.store 1 (.v 66) (.v 65)) [5,4,4,0,1,2,3,4])]))))))))))))))) (qk e1 (qr [(ym 29 8),(yc 30 .add 29 (qz 1) [0]),(yn 8 30 [1,0,1])])))))))))) (.ghost (.canC (6,0) 0 (6,1)) (.ghost (.freeze (6,1)) (qk [1,4,5,6] xc96b))))))))))) y)=>y
 dsimp
def ac96:AC:=by
 apply fun (y:AC) (_:@Eq AC (qk [0,1] (qs (qr [(qp 4 (.alloc [.nsl,.nsl,.int .i64 0,.int .i64 0,.int .i64 0,.int .i64 0,.nsl,.nsl]))]) (qk [0,1,4] (qs (qr [(ym 18 0),(qi 19 (.build [.nsl,.int .i64 0] [(0,1,.v 18)]) [0]),(qi 20 (.box (.v 19)) [1]),(yn 5 20 [2,0,1,2])]) (qk [1,4,5] (qs (qr [(ym 21 5),(qi 22 (.call 50 [.v 21,.c (.int .i64 64)]) [0]),(qi 23 (.build [.nsl,.nsl,.int .i64 0,.int .i64 0,.int .i64 0,.int .i64 0,.nsl,.nsl] [(5,1,.v 22)]) [1]),(qp 6 (.alloc [.nsl,.nsl,.int .i64 0,.int .i64 0,.int .i64 0,.int .i64 0,.nsl,.nsl])),(qo (.store 8 (.v 6) (.v 23)) [3,2,1,0,1,2,3])]) (qk [1,4,5,6] xc96a))))))) y)=>y
 dsimp
theorem fn96:factOf Tryz.prog 96=some (ac96.strip,[.cell 4 true 8],130):=by kernel_rfl
theorem ok96:ac96.okAll=true:=by kernel_rfl
end
section
theorem sum_le (m:Nat):∀ (l:List Nat),(∀ x∈l,x≤m)→l.sum≤m*l.length
 | [],_=>by simp
 | x :: l,h=>by
  have h1:=sum_le m l fun y hy=>h y (by simp [hy])
  have h2:=h x (by simp)
  simp only [List.sum_cons,List.length_cons,Nat.mul_succ];omega
theorem pointsN_le (con:List (List (Int×Int×Bool))) (an:List (Int×Int×Int)) (h1:con.length≤1000) (h2:∀ x∈con,x.length≤1000) (h3:an.length≤1000):pointsN con an≤1001001:=by
 have:=sum_le 1000 (con.map List.length) (by simpa using h2)
 unfold pointsN
 simp only [List.length_map] at this
 have h4:1000*con.length≤1000*1000:=Nat.mul_le_mul_left _ h1
 omega
def mvRow (c:Int×Int):List PV:=[.int .i64 c.1,.int .i64 c.2]
theorem b133 (d0:Dr) (h0:d0.ok) (con:List (List (Int×Int×Bool))) (an:List (Int×Int×Int)) (hh:Int) (reg:Int) (h1:con.length≤1000) (h2:∀ x∈con,x.length≤1000) (h3:an.length≤1000) :
  ∃ x:(Int×List (Int×Int))×Dr,x.2.ok∧BestF Tryz.prog 133 [((BIG,0),.box [.p (.sl 1 (d0.l.map intRow)),.p (.int .i64 d0.a)])] [.agg [.p (.sl 1 (con.map conRow)),.p (.sl 3 (an.map i3Row)),.p (.int .i64 hh),.top,.top,.top,.top,.top],.p (.int .i64 reg),.ptr (BIG,0) 2 0 0] [(BIG,0)]
   (.p (.agg [.int .i64 reg,.int .i64 x.1.1,.sl 2 (x.1.2.map mvRow)])) [((BIG,0),.box [.p (.sl 1 (x.2.l.map intRow)),.p (.int .i64 x.2.a)])]:=by
 refine bestEF mixed fn133 ok133 (by simp) (by simp) ?_
 simp -dsimp [ac133]
 obtain ⟨v1,d1,hd1,v1l,p⟩:=b50n d0 h0 30 (1000000,0) (by decide) (by decide)
 refine call_m p (by simp) (by simp) (by simp) ?_
 have w1:R ((v1:Int) - 10):=⟨by omega,by omega⟩
 simp -dsimp [wr w1]
 have hw:WkL [.agg [.p (.sl 1 (con.map conRow)),.p (.sl 3 (an.map i3Row)),.p (.int .i64 hh),.top,.top,.top,.top,.top]] [.agg [.p (.sl 1 (con.map conRow)),.p (.sl 3 (an.map i3Row)),.top,.top,.top,.top,.top,.top]]:=
  .cons (.agg (.cons (.refl _) (.cons (.refl _) (.cons (.top _) (.cons (.top _) (.cons (.top _) (.cons (.top _) (.cons (.top _) (.cons (.top _) .nil))))))))) .nil
 refine call_m (BestF.args (b98t con an h1 h2 h3) hw) (by simp) (by simp) (by simp) ?_
 have hn:(pointsN con an:Int)≤1002001:=by
  have:=pointsN_le con an h1 h2 h3
  omega
 obtain ⟨n,en⟩:∃ n,pointsN con an=n:=⟨_,rfl⟩
 rw [en] at hn ⊢
 simp -dsimp
 refine loopE n (fun k (y:List (Int×Int)×Dr)=>⟨[(2,.ptr (1000000,0) 2 0 0),(3,.ptr (3,0) 8 0 0),(6,.ptr (6,0) 3 0 0),(7,.ptr (7,0) 3 0 0),(8,.p (.int .i64 n)),(9,.p (.int .i64 k))],[((3,0),.box [.p (.sl 1 (con.map conRow)),.p (.sl 3 (an.map i3Row)),.p (.int .i64 hh),.top,.top,.top,.top,.top]),((6,0),.box [.p (.int .i64 0),.p (.int .i64 0),.p .nsl]),((7,0),.box [.p (.int .i64 reg),.p (.int .i64 (v1 - 10)),.ref (45,k) 2 0 k]),((45,k),.sl 130 2 (y.1.map mvRow)),((1000000,0),.box [.p (.sl 1 (y.2.l.map intRow)),.p (.int .i64 y.2.a)])]⟩) (fun k y=>y.2.ok∧y.1.length=k) ([],d1) (fun k y hk hQ=>?_) ⟨hd1,rfl⟩ (by simp)
 obtain ⟨y,d2⟩:=y
 obtain ⟨hd2,hy⟩:=hQ
 dsimp only at hd2 hy
 by_cases h:k<n
 ·have w:R ((k:Int)+1):=⟨by omega,by omega⟩
  simp -dsimp [h,↓ awpC_of xc133b]
  obtain ⟨v2,d3,hd3,v2l,p⟩:=b50n d2 hd2 21 (1000000,0) (by decide) (by decide)
  refine call_m p (by simp) (by simp) (by simp) ?_
  have w2:R ((v2:Int) - 10):=⟨by omega,by omega⟩
  simp -dsimp [wr w2,↓ awpC_of xc133b]
  obtain ⟨v3,d4,hd4,v3l,p⟩:=b50n d3 hd3 21 (1000000,0) (by decide) (by decide)
  refine call_m p (by simp) (by simp) (by simp) ?_
  have w3:R ((v3:Int) - 10):=⟨by omega,by omega⟩
  simp -dsimp [wr w3,↓ awpC_of xc133b]
  refine awpC_in (seqG1 (α:=Int×Int) (fun z=>⟨[(2,.ptr (1000000,0) 2 0 0),(3,.ptr (3,0) 8 0 0),(6,.ptr (6,0) 3 0 0),(7,.ptr (7,0) 3 0 0),(8,.p (.int .i64 n)),(9,.p (.int .i64 k)),(10,.ptr (10,0) 2 0 0)],[((3,0),.box [.p (.sl 1 (con.map conRow)),.p (.sl 3 (an.map i3Row)),.p (.int .i64 hh),.top,.top,.top,.top,.top]),((6,0),.box [.p (.int .i64 0),.p (.int .i64 0),.p .nsl]),((7,0),.box [.p (.int .i64 reg),.p (.int .i64 (v1 - 10)),.ref (45,k) 2 0 k]),((10,0),.box [.p (.int .i64 z.1),.p (.int .i64 z.2)]),((45,k),.sl 130 2 (y.map mvRow)),((1000000,0),.box [.p (.sl 1 (d4.l.map intRow)),.p (.int .i64 d4.a)])]⟩) (fun z=>True) ?_ ?_)
  ·have w4:R ((n:Int) - 1):=⟨by omega,by omega⟩
   by_cases q:(k:Int)=n - 1
   ·by_cases q2:hh=0
    ·simp -dsimp [wr w4,q,q2]
    ·simp -dsimp [wr w4,q,q2]
   ·simp -dsimp [wr w4,q]
  ·intro z _
   have m1:y.length+1≤maxLen:=by unfold maxLen;omega
   have m2:(y.length+1)*16≤140737488355328:=by omega
   subst hy
   simp -dsimp [wr w,List.range,List.range.loop,m1,m2,h]
   exact ⟨y++[z],d4,⟨hd4,by simp⟩,by simp [mvRow],rfl,rfl⟩
 ·have:k=n:=by omega
  subst this
  have ht:List.take k (y.map mvRow)=y.map mvRow:=List.take_of_length_le (by simp;omega)
  simp -dsimp [h,ht,hy,retEF]
  exact ⟨⟨y,rfl⟩,d2,⟨rfl,rfl⟩,hd2⟩
theorem b133s (d0:Dr) (h0:d0.ok) (con:List (List (Int×Int×Bool))) (an:List (Int×Int×Int)) (hh:Int) (reg:Int) (h1:con.length≤1000) (h2:∀ x∈con,x.length≤1000) (h3:an.length≤1000) (s:Slot) (a3 a4 a5 a6 a7:AV) :
  ∃ (by':Int) (mv:List (Int×Int)) (d:Dr),d.ok∧BestF Tryz.prog 133 [(s,.box [.p (.sl 1 (d0.l.map intRow)),.p (.int .i64 d0.a)])] [.agg [.p (.sl 1 (con.map conRow)),.p (.sl 3 (an.map i3Row)),.p (.int .i64 hh),a3,a4,a5,a6,a7],.p (.int .i64 reg),.ptr s 2 0 0] [s]
   (.p (.agg [.int .i64 reg,.int .i64 by',.sl 2 (mv.map mvRow)])) [(s,.box [.p (.sl 1 (d.l.map intRow)),.p (.int .i64 d.a)])]:=by
 obtain ⟨⟨⟨b,m⟩,d⟩,hd,h⟩:=b133 d0 h0 con an hh reg h1 h2 h3
 refine ⟨b,m,d,hd,BestF.args (BestF.one h s rfl rfl) ?_⟩
 exact .cons (.agg (.cons (.refl _) (.cons (.refl _) (.cons (.refl _) (.cons (.top _) (.cons (.top _) (.cons (.top _) (.cons (.top _) (.cons (.top _) .nil))))))))) (.cons (.refl _) (.cons (.refl _) .nil))
end
section
set_option maxHeartbeats 2000000
attribute [local simp ↓] oneI oneDT oneTk oneD
structure Gl where
 con:List (List (Int×Int×Bool))
 an:List (Int×Int×Int)
 h1:Int
 h2:Int
 h3:Int
 w:Int
 del:List (Int×Int×List (Int×Int))
 prog:List (Int×Int)
def dlRow (x:Int×Int×List (Int×Int)):List PV:=[.int .i64 x.1,.int .i64 x.2.1,.sl 2 (x.2.2.map mvRow)]
def ptRow (x:Int×Int×Bool):List PV:=[.int .i64 x.1,.int .i64 x.2.1,.bool x.2.2]
def glRow (x:Gl):List PV:=[.sl 1 (x.con.map conRow),.sl 3 (x.an.map i3Row),.int .i64 x.h1,.int .i64 x.h2,.int .i64 x.h3,.int .i64 x.w,.sl 3 (x.del.map dlRow),.sl 2 (x.prog.map mvRow)]
def Gl.ok (x:Gl):Prop:=x.con.length≤3∧(∀ y∈x.con,y.length≤5)∧x.an.length≤3
def fr96 (r:Nat) (vs:List (Nat×AV)) (c0 c1:AV) (h1 h2 h3 w:Int) (c6:AV) (d:Dr) (M:List (Slot×Blk)):Fr:=⟨[(1,.p (.int .i64 r)),(4,.ptr (4,0) 8 0 0),(5,.ptr (20,0) 2 0 0),(6,.ptr (6,0) 8 0 0)]++vs,[((4,0),.box [.p .nsl,.p .nsl,.p (.int .i64 0),.p (.int .i64 0),.p (.int .i64 0),.p (.int .i64 0),.p .nsl,.p .nsl]),((6,0),.box [c0,c1,.p (.int .i64 h1),.p (.int .i64 h2),.p (.int .i64 h3),.p (.int .i64 w),c6,.p (.sl 2 [])]),((20,0),.box [.p (.sl 1 (d.l.map intRow)),.p (.int .i64 d.a)])]++M⟩
attribute [local simp] fr96
theorem b96 (l:List Int) (hl:∀ x∈l,R x) (hl2:l.length≤140737488355328) (r:Nat) (hr:r≤1000) :
  ∃ x:Gl,(x.ok∧x.prog=[])∧Best Tryz.prog 96 [.sl 1 (l.map intRow),.int .i64 r] (.p (.agg (glRow x))):=by
 obtain ⟨v,⟨x,rfl,hx⟩,h⟩:=bestE (Q:=fun v=>∃ x:Gl,v=.agg (glRow x)∧x.ok∧x.prog=[]) mixed fn96 ok96 (args:=[.sl 1 (l.map intRow),.int .i64 r]) (by simp) (by
  simp -dsimp [ac96,↓ awpC_of xc96a]
  obtain ⟨w,d1,hd1,wl,p⟩:=b50n ⟨l,0⟩ ⟨hl,hl2⟩ 64 (20,0) (by decide) (by decide)
  refine call_m p (by simp) (by simp) (by simp) ?_
  simp -dsimp [↓ awpC_of xc96a]
  refine awpC_in ?_
  simp -dsimp [xc96a,↓ awpC_of xc96b]
  obtain ⟨n,d2,hd2,nl,p⟩:=b50n d1 hd1 3 (20,0) (by decide) (by decide)
  refine call_m p (by simp) (by simp) (by simp) ?_
  simp -dsimp [↓ awpC_of xc96b]
  refine loopE n (fun k (y:List (List (Int×Int×Bool))×Dr)=>fr96 r [(7,.p (.int .i64 n)),(8,.p (.int .i64 k))] (.ref (65,k) 1 0 k) (.ref (90,0) 3 0 0) 0 0 0 w (.ref (127,0) 3 0 0) y.2 [((65,k),.sl 178 1 (y.1.map conRow)),((90,0),.sl 140 3 []),((127,0),.sl 182 3 [])]) (fun k y=>y.2.ok∧y.1.length=k∧∀ x∈y.1,x.length≤5) ([],d2) (fun k y hk hQ=>?_) ⟨hd2,rfl,by simp⟩ (by simp)
  obtain ⟨con,d⟩:=y
  obtain ⟨hd,hc,hc5⟩:=hQ
  dsimp only at hd hc hc5
  by_cases h:k<n
  ·have wk:R ((k:Int)+1):=⟨by omega,by omega⟩
   simp -dsimp [h]
   obtain ⟨v1,d3,hd3,v1l,p⟩:=b50n d hd 3 (20,0) (by decide) (by decide)
   refine call_m p (by simp) (by simp) (by simp) ?_
   have q:R ((3:Int)+v1):=⟨by omega,by omega⟩
   simp -dsimp [wr q]
   obtain ⟨v2,d4,hd4,v2l,p⟩:=b50n d3 hd3 40 (20,0) (by decide) (by decide)
   refine call_m p (by simp) (by simp) (by simp) ?_
   have q2:R ((v2:Int) - 10):=⟨by omega,by omega⟩
   simp -dsimp [wr q2]
   obtain ⟨v3,d5,hd5,v3l,p⟩:=b50n d4 hd4 40 (20,0) (by decide) (by decide)
   refine call_m p (by simp) (by simp) (by simp) ?_
   have q3:R ((v3:Int) - 10):=⟨by omega,by omega⟩
   simp -dsimp [wr q3]
   obtain ⟨m,hm⟩:∃ m:Nat,(3:Int)+v1=m:=⟨3+v1,by omega⟩
   have hm5:m≤5:=by omega
   rw [hm]
   refine loopE m (fun j (y:List (Int×Int×Bool)×Dr)=>fr96 r [(7,.p (.int .i64 n)),(8,.p (.int .i64 k)),(9,.ref (60,j) 3 0 j),(10,.p (.int .i64 m)),(11,.p (.int .i64 (v2 - 10))),(12,.p (.int .i64 (v3 - 10))),(13,.p (.int .i64 j))] (.ref (65,k) 1 0 k) (.ref (90,0) 3 0 0) 0 0 0 w (.ref (127,0) 3 0 0) y.2 [((60,j),.sl 180 3 (y.1.map ptRow)),((65,k),.sl 178 1 (con.map conRow)),((90,0),.sl 140 3 []),((127,0),.sl 182 3 [])]) (fun j y=>y.2.ok∧y.1.length=j) ([],d5) (fun j y hj hQ=>?_) ⟨hd5,rfl⟩ (by simp)
   obtain ⟨y,d6⟩:=y
   obtain ⟨hd6,hy⟩:=hQ
   dsimp only at hd6 hy
   by_cases hjm:j<m
   ·have wj:R ((j:Int)+1):=⟨by omega,by omega⟩
    simp -dsimp [hjm]
    obtain ⟨u1,d7,hd7,u1l,p⟩:=b50n d6 hd6 50 (20,0) (by decide) (by decide)
    refine call_m p (by simp) (by simp) (by simp) ?_
    have e1:R ((v2:Int) - 10+u1):=⟨by omega,by omega⟩
    simp -dsimp [wr e1]
    obtain ⟨u2,d8,hd8,u2l,p⟩:=b50n d7 hd7 50 (20,0) (by decide) (by decide)
    refine call_m p (by simp) (by simp) (by simp) ?_
    have e2:R ((v3:Int) - 10+u2):=⟨by omega,by omega⟩
    simp -dsimp [wr e2]
    obtain ⟨u3,d9,hd9,u3l,p⟩:=b50n d8 hd8 3 (20,0) (by decide) (by decide)
    refine call_m p (by simp) (by simp) (by simp) ?_
    have m1:y.length+1≤maxLen:=by unfold maxLen;omega
    have m2:(y.length+1)*24≤140737488355328:=by omega
    subst hy
    simp -dsimp [wr wj,List.range,List.range.loop,m1,m2,hjm]
    refine ⟨y++[((v2:Int) - 10+u1,(v3:Int) - 10+u2,decide (0<u3))],d9,⟨hd9,by simp⟩,?_⟩
    simp [ptRow]
   ·have:j=m:=by omega
    subst this
    have ht:List.take j (y.map ptRow)=y.map ptRow:=List.take_of_length_le (by simp;omega)
    have m1:con.length+1≤maxLen:=by unfold maxLen;omega
    have m2:(con.length+1)*24≤140737488355328:=by omega
    subst hc
    simp -dsimp [hy,ht,wr wk,List.range,List.range.loop,m1,m2,h]
    refine ⟨con++[y],d6,⟨hd6,by simp,fun z hz=>?_⟩,?_⟩
    ·rcases List.mem_append.1 hz with h1 | h1
     ·exact hc5 z h1
     ·rw [List.mem_singleton.1 h1];omega
    ·simp [conRow,ptRow];try rfl
  ·have:k=n:=by omega
   subst this
   have ht:List.take k (con.map conRow)=con.map conRow:=List.take_of_length_le (by simp;omega)
   simp -dsimp [h,ht,hc,↓ awpC_of xc96b]
   refine awpC_in ?_
   simp -dsimp [xc96b,↓ awpC_of xc96c]
   have hc3:con.length≤3:=by omega
   obtain ⟨u0,d1,hd1,u0l,p⟩:=b50n d hd 2 (20,0) (by decide) (by decide)
   refine call_m p (by simp) (by simp) (by simp) ?_
   have e0:R ((1:Int)+u0):=⟨by omega,by omega⟩
   simp -dsimp [wr e0,↓ awpC_of xc96c]
   obtain ⟨n,d2,hd2,nl,p⟩:=b50n d1 hd1 3 (20,0) (by decide) (by decide)
   refine call_m p (by simp) (by simp) (by simp) ?_
   simp -dsimp [↓ awpC_of xc96c]
   refine loopE n (fun k (y:List (Int×Int×Int)×Dr)=>fr96 r [(7,.p (.int .i64 n)),(15,.p (.int .i64 (1+u0))),(16,.p (.int .i64 k))] (.p (.sl 1 (con.map conRow))) (.ref (90,k) 3 0 k) 0 0 0 w (.ref (127,0) 3 0 0) y.2 [((90,k),.sl 140 3 (y.1.map i3Row)),((127,0),.sl 182 3 [])]) (fun k y=>y.2.ok∧y.1.length=k) ([],d2) (fun k y hk hQ=>?_) ⟨hd2,rfl⟩ (by simp)
   obtain ⟨an,d3⟩:=y
   obtain ⟨hd3,ha⟩:=hQ
   dsimp only at hd3 ha
   by_cases h:k<n
   ·have wk:R ((k:Int)+1):=⟨by omega,by omega⟩
    have e1:R ((1:Int)+u0+k):=⟨by omega,by omega⟩
    simp -dsimp [h,wr e1]
    obtain ⟨u1,d4,hd4,u1l,p⟩:=b50n d3 hd3 60 (20,0) (by decide) (by decide)
    refine call_m p (by simp) (by simp) (by simp) ?_
    have e2:R ((u1:Int) - 10):=⟨by omega,by omega⟩
    simp -dsimp [wr e2,wr e1]
    obtain ⟨u2,d5,hd5,u2l,p⟩:=b50n d4 hd4 60 (20,0) (by decide) (by decide)
    refine call_m p (by simp) (by simp) (by simp) ?_
    have e3:R ((u2:Int) - 10):=⟨by omega,by omega⟩
    have m1:an.length+1≤maxLen:=by unfold maxLen;omega
    have m2:(an.length+1)*24≤140737488355328:=by omega
    subst ha
    simp -dsimp [wr e3,wr e2,wr e1,wr wk,List.range,List.range.loop,m1,m2,h]
    refine ⟨an++[((1:Int)+u0+an.length,(u1:Int) - 10,(u2:Int) - 10)],d5,⟨hd5,by simp⟩,?_⟩
    simp [i3Row]
   ·have:k=n:=by omega
    subst this
    have ht:List.take k (an.map i3Row)=an.map i3Row:=List.take_of_length_le (by simp;omega)
    simp -dsimp [h,ht,ha,↓ awpC_of xc96c]
    have ha3:an.length≤3:=by omega
    refine awpC_in (seqG1 (α:=(Int×Int×Int)×Dr) (fun y=>fr96 r [] (.p (.sl 1 (con.map conRow))) (.p (.sl 3 (an.map i3Row))) y.1.1 y.1.2.1 y.1.2.2 w (.ref (127,0) 3 0 0) y.2 [((127,0),.sl 182 3 [])]) (fun y=>y.2.ok) ?_ ?_)
    ·simp -dsimp
     obtain ⟨z0,d4,hd4,z0l,p⟩:=b50n d3 hd3 3 (20,0) (by decide) (by decide)
     refine call_m p (by simp) (by simp) (by simp) ?_
     simp -dsimp
     by_cases hz:z0=0
     ·simp -dsimp [hz]
      obtain ⟨z1,d5,hd5,z1l,p⟩:=b50n d4 hd4 3 (20,0) (by decide) (by decide)
      refine call_m p (by simp) (by simp) (by simp) ?_
      have e1:R ((1:Int)+z1):=⟨by omega,by omega⟩
      simp -dsimp [wr e1]
      obtain ⟨z2,d6,hd6,z2l,p⟩:=b50n d5 hd5 60 (20,0) (by decide) (by decide)
      refine call_m p (by simp) (by simp) (by simp) ?_
      have e2:R ((z2:Int) - 10):=⟨by omega,by omega⟩
      simp -dsimp [wr e2]
      obtain ⟨z3,d7,hd7,z3l,p⟩:=b50n d6 hd6 60 (20,0) (by decide) (by decide)
      refine call_m p (by simp) (by simp) (by simp) ?_
      have e3:R ((z3:Int) - 10):=⟨by omega,by omega⟩
      simp -dsimp [wr e3]
      exact ⟨1+z1,z2 - 10,z3 - 10,d7,hd7,by simp⟩
     ·simp -dsimp [hz]
      exact ⟨0,0,0,d4,hd4,by simp⟩
    ·rintro ⟨⟨g1,g2,g3⟩,d4⟩ hd4
     dsimp only at hd4 ⊢
     simp -dsimp
     refine loopE r (fun k (y:List (Int×Int×List (Int×Int))×Dr)=>fr96 r [(17,.p (.int .i64 k))] (.p (.sl 1 (con.map conRow))) (.p (.sl 3 (an.map i3Row))) g1 g2 g3 w (.ref (127,y.1.length) 3 0 y.1.length) y.2 [((127,y.1.length),.sl 182 3 (y.1.map dlRow))]) (fun k y=>y.2.ok∧y.1.length≤2) ([],d4) (fun k y hk hQ=>?_) ⟨hd4,by simp⟩ (by simp)
     obtain ⟨dl,d5⟩:=y
     obtain ⟨hd5,hdl⟩:=hQ
     dsimp only at hd5 hdl
     by_cases h:k<r∧dl.length<2
     ·obtain ⟨ha,hb⟩:=h
      have hb':(dl.length:Int)<2:=by omega
      have wk:R ((k:Int)+1):=⟨by omega,by omega⟩
      simp -dsimp [xc96d,ha,hb']
      obtain ⟨z0,d6,hd6,z0l,p⟩:=b50n d5 hd5 2 (20,0) (by decide) (by decide)
      refine call_m p (by simp) (by simp) (by simp) ?_
      simp -dsimp
      by_cases hz:z0=1
      ·simp -dsimp [hz]
       obtain ⟨b1,mv,d7,hd7,p⟩:=b133s d6 hd6 con an g1 k (by omega) (fun x hx=>by have:=hc5 x hx;omega) (by omega) (20,0) (.p (.int .i64 g2)) (.p (.int .i64 g3)) (.p (.int .i64 w)) (.ref (127,dl.length) 3 0 dl.length) (.p (.sl 2 []))
       refine call_m p (by simp) (by simp) (by simp) ?_
       have m1:dl.length+1≤maxLen:=by unfold maxLen;omega
       have m2:(dl.length+1)*40≤140737488355328:=by omega
       simp -dsimp [wr wk,List.range,List.range.loop,m1,m2,ha]
       refine ⟨dl++[((k:Int),b1,mv)],d7,⟨hd7,by simp;omega⟩,?_⟩
       simp [dlRow]
      ·have hz':¬(z0:Int)=1:=by omega
       simp -dsimp [hz',wr wk,ha]
       refine ⟨dl,d6,⟨hd6,hdl⟩,?_⟩
       simp
     ·have ht:List.take dl.length (dl.map dlRow)=dl.map dlRow:=List.take_of_length_le (by simp)
      have hq:¬(k<r)∨(k<r∧¬dl.length<2):=by omega
      rcases hq with hq | ⟨hq,hq2⟩
      ·simp -dsimp [xc96d,hq,ht,retE]
       refine ⟨⟨con,an,g1,g2,g3,w,dl,[]⟩,by simp [glRow],⟨hc3,hc5,ha3⟩,rfl⟩
      ·have hq2':¬(dl.length:Int)<2:=by omega
       simp -dsimp [xc96d,hq,hq2',ht,retE]
       refine ⟨⟨con,an,g1,g2,g3,w,dl,[]⟩,by simp [glRow],⟨hc3,hc5,ha3⟩,rfl⟩)
 exact ⟨x,hx,h⟩
end
section
def xc54b:AC:=by
 apply fun (y:AC) (_:@Eq AC (let e0:=[48,1000000,1000001,1000002,1000003,1000004,1000005];let e1:=[44,1000000,1000001,1000002,1000003,1000004,1000005];(qs (qr [(ym 22 0),(qi 23 (.call 50 [.v 22,.c (.int .i64 3)]) [0]),(yc 24 .eql 23 (qz 0) [1]),(yn 25 24 [2,1]),(qg 26 (qm 3) 25 true [3]),(qg 27 (qn 26) 25 true [4,3]),(qg 28 (qc .eql 27 (qz 0)) 25 true [5,3]),(qg 29 (qm 28) 25 true [6,3,3]),(qg 30 (qm 6) 29 false [7]),(qg 31 (qm 3) 29 false [7]),(qg 32 (qm 3) 29 false [7]),(qg 33 (qn 32) 29 false [10,7]),(qg 34 (qc .sub 33 (qz 1)) 29 false [11,7]),(qg 35 (qj 3 31 34) 29 false [9,12,7]),(qg 36 (qf 0 35) 29 false [13,7]),(qg 37 (ql 36) 29 false [14,7]),(qg 38 (qb .gtr 30 37) 29 false [8,15,7]),(qg 39 (.pick (.v 29) (.c (.bool true)) (.v 38)) 25 true [7,16,3]),(qi 40 (.pick (.v 25) (.v 39) (.c (.bool false))) [3,17])]) (qk [0,3,4,5,6,40] (qq (.v 40) (qd [(qa (ym 41 3) [42,43,44,45,46,47,48,49,50,51] [44,48,51,1000000,1000001,1000002,1000003,1000004,1000005] [] [] 2),(qa (ym 42 6) [41,43,44,45,46,47,48,49] [44,48,1000000,1000001,1000002,1000003,1000004,1000005] [] [0] 2),(qe (ym 43 0) [41,42,47] [0,1] 2),(qa (qi 44 (.call 50 [.v 43,.c (.int .i64 20)]) [2]) [41,42,47] [] e1 [0,1] 1),(qa (qi 45 (.idxS (.c (.str ⟨#[64,65,66,96,97,104,105,106,128,144,152,153,154,184,185,192,200,32,48,33]⟩)) (.v 44)) [3]) [41,42,47,48,49] e0 [] [0,1] 2),(qa (qi 46 (.conv .i64 (.v 45)) [4]) [41,42,47,48,49] e0 [] [0,1] 2),(qa (ym 47 0) [41,42,43,44,45,46] e1 [] [0,1,2,3,4,5] 2),(qa (qi 48 (.call 50 [.v 47,.c (.int .i64 40)]) [6,3]) [41,42,45,46] [] e0 [0,1,4,5] 1),(qe (yc 49 .sub 48 (qz 25) [7]) [41,42,45,46] [0,1,4,5] 2),(qe (qi 50 (.build [.int .i64 0,.int .i64 0,.int .i64 0] [(0,1,.v 42),(1,1,.v 46),(2,1,.v 49)]) [1,5,8]) [41] [0] 2),(qa (qi 51 (.bslice 91 3 1 [.int .i64 0,.int .i64 0,.int .i64 0] [(0,3,.v 50)]) [9]) [41] [] [51] [0] 1),(qa (qi 52 (.app 91 3 24 (.v 41) (.v 51)) [0,10,7]) [] [] [52] [] 1),(qe (yn 3 52 [11,11,0,1,2,3,4,5,6,7,8,9,10,11]) [] [] 2)]) .skip)))) y)=>y
 dsimp
def xc54:AC:=by
 apply fun (y:AC) (_:@Eq AC (qs (qs (qr [(ym 9 5),(yc 10 .lss 9 (qz 20) [0]),(yn 11 10 [1]),(qg 12 (qm 3) 11 true [2]),(qg 13 (qn 12) 11 true [3,2]),(qg 14 (qm 4) 11 true [2]),(qg 15 (qb .lss 13 14) 11 true [4,5,2]),(qi 16 (.pick (.v 11) (.v 15) (.c (.bool false))) [2,6])]) (qk [0,3,4,5,16] (qq (.v 16) .skip (.exit 0)))) (qk [0,3,4,5] (qs (.block 1 (qs (qr [(ym 19 5),(qi 20 (.idxS (.c (.str ⟨#[64,65,66,96,97,104,105,106,128,144,152,153,154,184,185,192,200,32,48,33]⟩)) (.v 19)) [0]),(qi 21 (.conv .i64 (.v 20)) [1]),(yn 6 21 [2,0,1,2])]) (qk [0,3,4,5,6] xc54b))) (qk [0,3,4,5] (qr [(ym 17 5),(yc 18 .add 17 (qz 1) [0]),(yn 5 18 [1,0,1])]))))) y)=>y
 dsimp
def ac54:AC:=by
 apply fun (y:AC) (_:@Eq AC (qk [0] (qs (qr [(qp 2 (.mov (.c .nsl)))]) (qk [0] (qs (qr [(qp 3 (.mov (.c .nsl)))]) (.ghost (.own 3 52 91 3) (qk [0,3] (qs (qr [(ym 7 0),(qi 8 (.call 50 [.v 7,.c (.int .i64 5)]) [0]),(yn 4 8 [1,1,0,1])]) (qk [0,3,4] (qs (qs (qr [(qp 5 (.mov (qz 0)))]) (qk [0,3,4,5] (.block 0 (.loop (qk [0,3,4,5] xc54))))) (.ghost (.canV 3 (3,1)) (.ghost (.freeze (3,1)) (qk [0,3] (qs (qr [(ym 53 3),(yn 2 53 [0,0])]) (qk [0,2] .ret)))))))))))))) y)=>y
 dsimp
theorem fn54:factOf Tryz.prog 54=some (ac54.strip,[.tmp 2],54):=by kernel_rfl
theorem ok54:ac54.okAll=true:=by kernel_rfl
def xc53c:AC:=by
 apply fun (y:AC) (_:@Eq AC (let e0:=[51,54,1000000,1000001,1000002,1000003,1000004,1000005];let e1:=[51,1000000,1000001,1000002,1000003,1000004,1000005];let e2:=[0,1,2,7,8,11,12];let e3:=[49,50,51,52,53,54];let e4:=[47,48,49];(qs (qr [(ym 31 8),(ym 32 0),(ym 33 1),(qi 34 (.call 50 [.v 32,.v 33]) [1,2]),(ym 35 0),(qi 36 (.call 50 [.v 35,.c (.int .i64 50)]) [4,3]),(qi 37 (.bin .add (qz 8) (.v 36)) [5]),(qi 38 (.build [.int .i64 0,.int .i64 0,.int .i64 0,.nsl] [(0,1,.v 31),(1,1,.v 34),(2,1,.v 37)]) [0,3,6]),(qp 11 (.alloc [.int .i64 0,.int .i64 0,.int .i64 0,.nsl])),(qo (.store 4 (.v 11) (.v 38)) [8,7,5,0,1,2,3,4,5,6,7,8])]) (qk [0,1,2,7,8,11] (.ghost (.ownC (11,0) 3 (55,0) 136 2) (qs (qs (qr [(qp 12 (.mov (qz 0)))]) (qk e2 (.block 4 (.loop (qk e2 (qs (qs (qr [(ym 39 12),(ym 40 2),(yb 41 .lss 39 40 [0,1])]) (qk [0,1,2,7,8,11,12,41] (qq (.v 41) .skip (.exit 4)))) (qk e2 (qs (.block 5 (qs (qr [(ym 44 0),(qi 45 (.call 50 [.v 44,.c (.int .i64 4)]) [0]),(yc 46 .eql 45 (qz 1) [1])]) (qk [0,1,2,7,8,11,12,46] (qq (.v 46) (qd [(qa (qp 47 (qf 3 11)) e3 e0 [] [] 2),(qa (yk 48 47 [0]) e3 e0 [] [] 0),(qa (ym 49 12) [47,48,50,51,52] e1 [] [0,1] 2),(qe (ym 50 0) e4 [0,1,2] 2),(qa (qi 51 (.call 50 [.v 50,.c (.int .i64 40)]) [3]) e4 [] e1 [0,1,2] 1),(qe (yc 52 .sub 51 (qz 15) [4]) e4 [0,1,2] 2),(qe (qi 53 (.build [.int .i64 0,.int .i64 0] [(0,1,.v 49),(1,1,.v 52)]) [2,5]) [47,48] [0,1] 2),(qa (qi 54 (.bslice 136 2 1 [.int .i64 0,.int .i64 0] [(0,2,.v 53)]) [6]) [47,48] [] [54] [0,1] 1),(qa (qi 55 (.app 136 2 16 (.v 48) (.v 54)) [1,7,4]) [] [] [34,36,45,51,54,55,58,62,63] [] 1),(qe (yf 56 3 11 [0,1,2,3,4,5,6,7,8]) [] [] 2),(qa (qo (.store 1 (.v 56) (.v 55)) [9,8,8,0,1,2,3,4,5,6,7,8]) [] [] [11] [] 1)]) .skip)))) (qk e2 (qr [(ym 42 12),(yc 43 .add 42 (qz 1) [0]),(yn 12 43 [1,0,1])])))))))))) (.ghost (.canC (11,0) 3 (11,1)) (.ghost (.freeze (11,1)) (qk [0,1,2,7,8,11] (qs (qr [(ym 57 0),(qi 58 (.call 50 [.v 57,.c (.int .i64 12)]) [0]),(yc 59 .lss 58 (qz 11) [1])]) (qk [0,1,2,7,8,11,59] (qq (.v 59) (qr [(ym 60 7),(qp 61 (qt 4 11)),(qi 62 (.bslice 89 4 1 [.int .i64 0,.int .i64 0,.int .i64 0,.nsl] [(0,4,.v 61)]) [1]),(qi 63 (.app 89 4 48 (.v 60) (.v 62)) [0,2]),(yn 7 63 [3,3,0,1,2,3])]) .skip))))))))))) y)=>y
 dsimp
def xc53b:AC:=by
 apply fun (y:AC) (_:@Eq AC (qs (qs (qr [(ym 29 9),(qi 30 (.un .not (.v 29)) [0])]) (qk [0,1,2,7,8,30] (qq (.v 30) (.exit 1) .skip))) (qk [0,1,2,7,8] xc53c)) y)=>y
 dsimp
def xc53a:AC:=by
 apply fun (y:AC) (_:@Eq AC (let e0:=[0,1,2,7,8,9,10];(qs (qs (qr [(ym 13 8),(yc 14 .lss 13 (qz 256) [0])]) (qk [0,1,2,7,8,14] (qq (.v 14) .skip (.exit 0)))) (qk [0,1,2,7,8] (qs (.block 1 (qs (qr [(qp 9 (.mov (.c (.bool false))))]) (qk [0,1,2,7,8,9] (qs (qs (qr [(qp 10 (.mov (qz 0)))]) (qk e0 (.block 2 (.loop (qk e0 (qs (qs (qr [(ym 17 10),(yc 18 .lss 17 (qz 20) [0])]) (qk [0,1,2,7,8,9,10,18] (qq (.v 18) .skip (.exit 2)))) (qk e0 (qs (.block 3 (qr [(ym 21 9),(yn 22 21 [0]),(qg 23 (qm 10) 22 false [1]),(qg 24 (.idxS (.c (.str ⟨#[64,65,66,96,97,104,105,106,128,144,152,153,154,184,185,192,200,32,48,33]⟩)) (.v 23)) 22 false [2,1]),(qg 25 (.conv .i64 (.v 24)) 22 false [3,1]),(qg 26 (qm 8) 22 false [1]),(qg 27 (qb .eql 25 26) 22 false [4,5,1]),(qi 28 (.pick (.v 22) (.c (.bool true)) (.v 27)) [1,6]),(yn 9 28 [7,1,0,1,2,3,4,5,6,7])])) (qk e0 (qr [(ym 19 10),(yc 20 .add 19 (qz 1) [0]),(yn 10 20 [1,0,1])])))))))))) (qk [0,1,2,7,8,9] xc53b))))) (qk [0,1,2,7,8] (qr [(ym 15 8),(yc 16 .add 15 (qz 1) [0]),(yn 8 16 [1,0,1])])))))) y)=>y
 dsimp
def ac53:AC:=by
 apply fun (y:AC) (_:@Eq AC (qk [0,1,2] (qs (qr [(qp 6 (.mov (.c .nsl)))]) (qk [0,1,2] (qs (qr [(qp 7 (.mov (.c .nsl)))]) (.ghost (.own 7 63 89 4) (qk [0,1,2,7] (qs (qs (qr [(qp 8 (.mov (qz 0)))]) (qk [0,1,2,7,8] (.block 0 (.loop (qk [0,1,2,7,8] xc53a))))) (.ghost (.canV 7 (7,1)) (.ghost (.freeze (7,1)) (qk [0,7] (qs (qr [(ym 64 7),(yn 6 64 [0,0])]) (qk [0,6] .ret)))))))))))) y)=>y
 dsimp
theorem fn53:factOf Tryz.prog 53=some (ac53.strip,[.tmp 6],65):=by kernel_rfl
theorem ok53:ac53.okAll=true:=by kernel_rfl
end
section
set_option maxHeartbeats 2000000
theorem pool_get {k:Nat} (hk:k<20):∃ b:UInt8,(⟨#[64,65,66,96,97,104,105,106,128,144,152,153,154,184,185,192,200,32,48,33]⟩:ByteArray)[k]?=some b:=
 ⟨_,getElem?_pos _ k hk⟩
theorem wu8 (b:UInt8):IntKind.i64.wrap (b.toNat:Int)=b.toNat:=wr ⟨by omega,by have:=b.toNat_lt;omega⟩
def PairsOk:List (Int×Int×Int)→Prop
 | []=>True
 | x :: l=>(0≤x.1∧x.1≤255∧0≤x.2.1∧x.2.1≤255∧-25≤x.2.2∧x.2.2≤14)∧(∀ y∈l,x.1<y.1)∧PairsOk l
theorem PairsOk.snoc {l:List (Int×Int×Int)} {x:Int×Int×Int} (h:PairsOk l) (h1:0≤x.1∧x.1≤255∧0≤x.2.1∧x.2.1≤255∧-25≤x.2.2∧x.2.2≤14) (h2:∀ y∈l,y.1<x.1):PairsOk (l++[x]):=by
 induction l with
 | nil=>exact ⟨h1,by simp,trivial⟩
 | cons y l ih=>
  refine ⟨h.1,fun z hz=>?_,ih h.2.2 fun z hz=>h2 z (by simp [hz])⟩
  rcases List.mem_append.1 hz with g | g
  ·exact h.2.1 z g
  ·rw [List.mem_singleton.1 g];exact h2 y (by simp)
theorem PairsOk.last {l:List (Int×Int×Int)} {x:Int×Int×Int} (h:PairsOk (l++[x])):∀ y∈l++[x],y.1≤x.1:=by
 induction l with
 | nil=>intro y hy;simp at hy;rw [hy];exact Int.le_refl _
 | cons z l ih=>
  intro y hy
  rcases List.mem_cons.1 hy with rfl | hy
  ·exact Int.le_of_lt (h.2.1 x (by simp))
  ·exact ih h.2.2 y hy
theorem b54' (d0:Dr) (h0:d0.ok):∃ x:List (Int×Int×Int)×Dr,(x.2.ok∧x.1.length≤4∧PairsOk x.1) ∧
  BestF Tryz.prog 54 [((BIG,0),.box [.p (.sl 1 (d0.l.map intRow)),.p (.int .i64 d0.a)])] [.ptr (BIG,0) 2 0 0] [(BIG,0)] (.p (.sl 3 (x.1.map i3Row))) [((BIG,0),.box [.p (.sl 1 (x.2.l.map intRow)),.p (.int .i64 x.2.a)])]:=by
 refine bestEF mixed fn54 ok54 (by simp) (by simp) ?_
 simp -dsimp [ac54]
 obtain ⟨n,d1,hd1,nl,p⟩:=b50n d0 h0 5 (1000000,0) (by decide) (by decide)
 refine call_m p (by simp) (by simp) (by simp) ?_
 simp -dsimp
 refine loopE 20 (fun k (y:List (Int×Int×Int)×Dr)=>⟨[(0,.ptr (1000000,0) 2 0 0),(3,.ref (52,y.1.length) 3 0 y.1.length),(4,.p (.int .i64 n)),(5,.p (.int .i64 k))],[((52,y.1.length),.sl 91 3 (y.1.map i3Row)),((1000000,0),.box [.p (.sl 1 (y.2.l.map intRow)),.p (.int .i64 y.2.a)])]⟩) (fun k y=>y.2.ok∧y.1.length≤n∧PairsOk y.1) ([],d1) (fun k y hk hQ=>?_) ⟨hd1,by simp,trivial⟩ (by simp)
 obtain ⟨y,d⟩:=y
 obtain ⟨hd,hy,hp⟩:=hQ
 dsimp only at hd hy hp
 by_cases h:k<20∧y.length<n
 ·obtain ⟨ha,hb⟩:=h
  have ha':(k:Int)<20:=by omega
  have wk:R ((k:Int)+1):=⟨by omega,by omega⟩
  obtain ⟨b,eb⟩:=pool_get ha
  have hb255:=b.toNat_lt
  simp -dsimp [xc54,ha',hb,eb,wu8,↓ awpC_of xc54b]
  refine awpC_in (seqG1 (fun (z:Bool×Dr)=>⟨[(0,.ptr (1000000,0) 2 0 0),(3,.ref (52,y.length) 3 0 y.length),(4,.p (.int .i64 n)),(5,.p (.int .i64 k)),(6,.p (.int .i64 b.toNat)),(40,.p (.bool z.1))],[((52,y.length),.sl 91 3 (y.map i3Row)),((1000000,0),.box [.p (.sl 1 (z.2.l.map intRow)),.p (.int .i64 z.2.a)])]⟩) (fun z=>z.2.ok∧(z.1=true→∀ x∈y,x.1<(b.toNat:Int))) ?_ ?_)
  ·simp -dsimp
   obtain ⟨q,d1,hd1,ql,p⟩:=b50n d hd 3 (1000000,0) (by decide) (by decide)
   refine call_m p (by simp) (by simp) (by simp) ?_
   rcases List.eq_nil_or_concat y with e0 | ⟨y',z,e0⟩
   ·subst e0
    by_cases hq:q=0
    ·simp -dsimp [hq]
     exact ⟨d1,hd1,rfl,rfl⟩
    ·simp -dsimp [hq]
     exact ⟨d1,hd1,rfl,rfl⟩
   ·rw [List.concat_eq_append] at e0
    subst e0
    have hl:=hp.last
    simp only [List.length_append,List.length_cons,List.length_nil] at hy
    have wy:R ((y'.length:Int)):=⟨by omega,by omega⟩
    have hl1:(y'.length:Int)<y'.length+1:=by omega
    have hn0:¬((y'.length:Int)+1=0):=by omega
    by_cases hq:q=0
    ·by_cases hz:z.1<(b.toNat:Int)
     ·simp -dsimp [hq,wr wy,hz,i3Row,hn0,hl1]
      refine ⟨d1,⟨hd1,fun a b c hx=>?_⟩,rfl,rfl⟩
      have:=hl (a,b,c) (by simpa using hx)
      dsimp only at this
      omega
     ·simp -dsimp [hq,wr wy,hz,i3Row,hn0,hl1]
      exact ⟨d1,hd1,rfl,rfl⟩
    ·simp -dsimp [hq,hn0,hl1]
     exact ⟨d1,hd1,rfl,rfl⟩
  ·rintro ⟨q,d1⟩ ⟨hd1,hq⟩
   dsimp only at hd1 hq ⊢
   cases q with
   | false=>
    simp -dsimp [wr wk]
    exact ⟨ha,y,d1,⟨hd1,hy,hp⟩,rfl,⟨rfl,rfl⟩,rfl,rfl⟩
   | true=>
    simp -dsimp
    obtain ⟨u,d2,hd2,ul,p⟩:=b50n d1 hd1 20 (1000000,0) (by decide) (by decide)
    obtain ⟨c,ec⟩:=pool_get (show u<20 by omega)
    have hc255:=c.toNat_lt
    refine call_m p (by simp) (by simp) (by simp) ?_
    simp -dsimp [ec,wu8]
    obtain ⟨u2,d3,hd3,u2l,p⟩:=b50n d2 hd2 40 (1000000,0) (by decide) (by decide)
    refine call_m p (by simp) (by simp) (by simp) ?_
    have e1:R ((u2:Int) - 25):=⟨by omega,by omega⟩
    have m1:y.length+1≤maxLen:=by unfold maxLen;omega
    have m2:(y.length+1)*24≤140737488355328:=by omega
    simp -dsimp [ec,wu8,wr e1,wr wk,List.range,List.range.loop,m1,m2]
    refine ⟨ha,y++[((b.toNat:Int),(c.toNat:Int),(u2:Int) - 25)],d3,⟨hd3,by simp;omega,hp.snoc (by dsimp only;omega) (hq rfl)⟩,?_⟩
    simp [i3Row]
 ·have ht:List.take y.length (y.map i3Row)=y.map i3Row:=List.take_of_length_le (by simp)
  have hq:¬(k<20)∨(k<20∧¬y.length<n):=by omega
  rcases hq with hq | ⟨hq,hq2⟩
  ·have hq':¬(k:Int)<20:=by omega
   simp -dsimp [xc54,hq',ht,retEF]
   exact ⟨y,rfl,d,⟨rfl,rfl⟩,hd,by omega,hp⟩
  ·have hq':(k:Int)<20:=by omega
   simp -dsimp [xc54,hq',hq2,ht,retEF]
   exact ⟨y,rfl,d,⟨rfl,rfl⟩,hd,by omega,hp⟩
theorem b54 (d0:Dr) (h0:d0.ok) (s:Slot):∃ (x:List (Int×Int×Int)) (d:Dr),d.ok∧(x.length≤4∧PairsOk x) ∧
  BestF Tryz.prog 54 [(s,.box [.p (.sl 1 (d0.l.map intRow)),.p (.int .i64 d0.a)])] [.ptr s 2 0 0] [s] (.p (.sl 3 (x.map i3Row))) [(s,.box [.p (.sl 1 (d.l.map intRow)),.p (.int .i64 d.a)])]:=by
 obtain ⟨⟨x,d⟩,⟨h1,h2⟩,h3⟩:=b54' d0 h0
 exact ⟨x,d,h1,h2,BestF.one h3 s rfl rfl⟩
end
section
set_option maxHeartbeats 2000000
structure Ch where
 code:Int
 glyph:Int
 width:Int
 wide:List (Int×Int)
def chRow (x:Ch):List PV:=[.int .i64 x.code,.int .i64 x.glyph,.int .i64 x.width,.sl 2 (x.wide.map mvRow)]
def Ch.ok (many regions:Int) (x:Ch):Prop:=0≤x.code∧x.code≤255∧0≤x.glyph∧x.glyph<many∧8≤x.width∧x.width≤57∧(∀ y∈x.wide,0≤y.1∧y.1<regions∧-15≤y.2∧y.2≤24)∧x.wide.Pairwise (fun a b=>a.1<b.1)
def ChsOk (many regions:Int) (l:List Ch):Prop:=(∀ x∈l,x.ok many regions)∧l.Pairwise (fun a b=>a.code<b.code)
theorem b53' (d0:Dr) (h0:d0.ok) (many regions:Nat) (hm:1≤many) (hm2:many≤1000) (hr:regions≤1000):∃ x:List Ch×Dr,(x.2.ok∧x.1.length≤256∧ChsOk many regions x.1) ∧
  BestF Tryz.prog 53 [((BIG,0),.box [.p (.sl 1 (d0.l.map intRow)),.p (.int .i64 d0.a)])] [.ptr (BIG,0) 2 0 0,.p (.int .i64 many),.p (.int .i64 regions)] [(BIG,0)] (.p (.sl 4 (x.1.map chRow))) [((BIG,0),.box [.p (.sl 1 (x.2.l.map intRow)),.p (.int .i64 x.2.a)])]:=by
 refine bestEF mixed fn53 ok53 (by simp) (by simp) ?_
 simp -dsimp [ac53]
 refine loopE 256 (fun k (y:(Nat×List Ch)×Dr)=>⟨[(0,.ptr (1000000,0) 2 0 0),(1,.p (.int .i64 many)),(2,.p (.int .i64 regions)),(7,.ref (63,y.1.1) 4 0 y.1.2.length),(8,.p (.int .i64 k))],[((63,y.1.1),.sl 89 4 (y.1.2.map chRow)),((1000000,0),.box [.p (.sl 1 (y.2.l.map intRow)),.p (.int .i64 y.2.a)])]⟩) (fun k y=>y.2.ok∧y.1.2.length≤k∧ChsOk many regions y.1.2∧∀ x∈y.1.2,x.code<k) ((0,[]),d0) (fun k y hk hQ=>?_) ⟨h0,by simp,⟨by simp,.nil⟩,by simp⟩ (by simp)
 obtain ⟨⟨cn,y⟩,d⟩:=y
 obtain ⟨hd,hy,hc,hl⟩:=hQ
 dsimp only at hd hy hc hl
 by_cases h:k<256
 ·have wk:R ((k:Int)+1):=⟨by omega,by omega⟩
  have ha':(k:Int)<256:=by omega
  simp -dsimp [xc53a,ha']
  refine loopE 20 (fun j (z:Bool)=>⟨[(0,.ptr (1000000,0) 2 0 0),(1,.p (.int .i64 many)),(2,.p (.int .i64 regions)),(7,.ref (63,cn) 4 0 y.length),(8,.p (.int .i64 k)),(9,.p (.bool z)),(10,.p (.int .i64 j))],[((63,cn),.sl 89 4 (y.map chRow)),((1000000,0),.box [.p (.sl 1 (d.l.map intRow)),.p (.int .i64 d.a)])]⟩) (fun _ _=>True) false (fun j z hj _=>?_) trivial (by simp)
  by_cases hj2:j<20
  ·obtain ⟨b,eb⟩:=pool_get hj2
   have hb255:=b.toNat_lt
   have hj':(j:Int)<20:=by omega
   have wj:R ((j:Int)+1):=⟨by omega,by omega⟩
   cases z with
   | true=>simp -dsimp [hj',wr wj,hj2]
   | false=>simp -dsimp [hj',eb,wu8,wr wj,hj2]
  ·have hj':¬(j:Int)<20:=by omega
   simp -dsimp [hj',↓ awpC_of xc53b]
   refine awpC_in ?_
   cases z with
   | false=>
    simp -dsimp [xc53b,wr wk]
    exact ⟨h,cn,y,d,⟨hd,by omega,hc,fun x hx=>by have:=hl x hx;omega⟩,⟨rfl,rfl⟩,⟨rfl,rfl⟩,rfl,rfl⟩
   | true=>
    simp -dsimp [xc53b,↓ awpC_of xc53c]
    refine awpC_in ?_
    simp -dsimp [xc53c]
    obtain ⟨gl,d1,hd1,gll,p⟩:=b50n d hd many (1000000,0) (by omega) (by omega)
    refine call_m p (by simp) (by simp) (by simp) ?_
    simp -dsimp
    obtain ⟨wd,d2,hd2,wdl,p⟩:=b50n d1 hd1 50 (1000000,0) (by decide) (by decide)
    refine call_m p (by simp) (by simp) (by simp) ?_
    have e1:R ((8:Int)+wd):=⟨by omega,by omega⟩
    simp -dsimp [wr e1]
    refine loopE regions (fun i (z:List (Int×Int)×Dr)=>⟨[(0,.ptr (1000000,0) 2 0 0),(1,.p (.int .i64 many)),(2,.p (.int .i64 regions)),(7,.ref (63,cn) 4 0 y.length),(8,.p (.int .i64 k)),(11,.ptr (11,0) 4 0 0),(12,.p (.int .i64 i))],[((11,0),.box [.p (.int .i64 k),.p (.int .i64 gl),.p (.int .i64 (8+wd)),.ref (55,z.1.length) 2 0 z.1.length]),((55,z.1.length),.sl 136 2 (z.1.map mvRow)),((63,cn),.sl 89 4 (y.map chRow)),((1000000,0),.box [.p (.sl 1 (z.2.l.map intRow)),.p (.int .i64 z.2.a)])]⟩) (fun i z=>z.2.ok∧z.1.length≤i∧(∀ x∈z.1,0≤x.1∧x.1<i∧-15≤x.2∧x.2≤24)∧z.1.Pairwise (fun a b=>a.1<b.1)) ([],d2) (fun i z hi hQ=>?_) ⟨hd2,by simp,by simp,.nil⟩ (by simp)
    obtain ⟨z,d3⟩:=z
    obtain ⟨hd3,hz,hz1,hz2⟩:=hQ
    dsimp only at hd3 hz hz1 hz2
    by_cases hir:i<regions
    ·have wi:R ((i:Int)+1):=⟨by omega,by omega⟩
     simp -dsimp [hir]
     obtain ⟨u,d4,hd4,ul,p⟩:=b50n d3 hd3 4 (1000000,0) (by decide) (by decide)
     refine call_m p (by simp) (by simp) (by simp) ?_
     simp -dsimp
     by_cases hu:u=1
     ·simp -dsimp [hu]
      obtain ⟨v,d5,hd5,vl,p⟩:=b50n d4 hd4 40 (1000000,0) (by decide) (by decide)
      refine call_m p (by simp) (by simp) (by simp) ?_
      have e2:R ((v:Int) - 15):=⟨by omega,by omega⟩
      have m1:z.length+1≤maxLen:=by unfold maxLen;omega
      have m2:(z.length+1)*16≤140737488355328:=by omega
      simp -dsimp [wr e2,wr wi,List.range,List.range.loop,m1,m2,hir]
      refine ⟨z++[((i:Int),(v:Int) - 15)],d5,⟨hd5,by simp;omega,fun x1 x2 hx=>?_,?_⟩,?_⟩
      ·rcases List.mem_append.1 hx with g | g
       ·have:=hz1 (x1,x2) g;dsimp only at this;omega
       ·have:=List.mem_singleton.1 g;simp only [Prod.mk.injEq] at this;omega
      ·rw [List.pairwise_append]
       refine ⟨hz2,by simp,fun a ha b hb=>?_⟩
       rw [List.mem_singleton.1 hb]
       exact (hz1 a ha).2.1
      ·simp [mvRow]
     ·have hu':¬(u:Int)=1:=by omega
      simp -dsimp [hu',wr wi,hir]
      refine ⟨z,d4,⟨hd4,by omega,fun x1 x2 hx=>by have:=hz1 (x1,x2) hx;dsimp only at this;omega,hz2⟩,?_⟩
      simp
    ·have:i=regions:=by omega
     subst this
     have ht:List.take z.length (z.map mvRow)=z.map mvRow:=List.take_of_length_le (by simp)
     simp -dsimp [hir,ht]
     obtain ⟨u,d4,hd4,ul,p⟩:=b50n d3 hd3 12 (1000000,0) (by decide) (by decide)
     refine call_m p (by simp) (by simp) (by simp) ?_
     simp -dsimp
     by_cases hu:(u:Int)<11
     ·have hu2:¬(11:Int)≤u:=by omega
      have m1:y.length+1≤maxLen:=by unfold maxLen;omega
      have m2:(y.length+1)*48≤140737488355328:=by omega
      simp -dsimp [hu,hu2,wr wk,List.range,List.range.loop,m1,m2]
      refine ⟨fun a b _ q1 q2 _=>by subst q1 q2;right;simp,h,cn+1,y++[⟨k,gl,8+wd,z⟩],d4,⟨hd4,by simp;omega,⟨fun x hx=>?_,?_⟩,fun x hx=>?_⟩,?_⟩
      ·rcases List.mem_append.1 hx with g | g
       ·exact hc.1 x g
       ·rw [List.mem_singleton.1 g]
        exact ⟨by dsimp only;omega,by dsimp only;omega,by dsimp only;omega,by dsimp only;omega,by dsimp only;omega,by dsimp only;omega,hz1,hz2⟩
      ·rw [List.pairwise_append]
       refine ⟨hc.2,by simp,fun a ha b hb=>?_⟩
       rw [List.mem_singleton.1 hb]
       exact hl a ha
      ·rcases List.mem_append.1 hx with g | g
       ·have:=hl x g;omega
       ·rw [List.mem_singleton.1 g];dsimp only;omega
      ·simp [chRow]
     ·have hu2:(11:Int)≤u:=by omega
      simp -dsimp [hu,hu2,wr wk]
      exact ⟨h,cn,y,d4,⟨hd4,by omega,hc,fun x hx=>by have:=hl x hx;omega⟩,⟨rfl,rfl⟩,⟨rfl,rfl⟩,rfl,rfl⟩
 ·have:k=256:=by omega
  subst this
  have ht:List.take y.length (y.map chRow)=y.map chRow:=List.take_of_length_le (by simp)
  simp -dsimp [xc53a,ht,retEF]
  exact ⟨y,rfl,d,⟨rfl,rfl⟩,hd,hy,hc⟩
theorem b53 (d0:Dr) (h0:d0.ok) (many regions:Nat) (hm:1≤many) (hm2:many≤1000) (hr:regions≤1000) (s:Slot):∃ (x:List Ch) (d:Dr),d.ok∧(x.length≤256∧ChsOk many regions x) ∧
  BestF Tryz.prog 53 [(s,.box [.p (.sl 1 (d0.l.map intRow)),.p (.int .i64 d0.a)])] [.ptr s 2 0 0,.p (.int .i64 many),.p (.int .i64 regions)] [s] (.p (.sl 4 (x.map chRow))) [(s,.box [.p (.sl 1 (d.l.map intRow)),.p (.int .i64 d.a)])]:=by
 obtain ⟨⟨x,d⟩,⟨h1,h2⟩,h3⟩:=b53' d0 h0 many regions hm hm2 hr
 exact ⟨x,d,h1,h2,BestF.one h3 s rfl rfl⟩
end
end Go.Abs.A29
