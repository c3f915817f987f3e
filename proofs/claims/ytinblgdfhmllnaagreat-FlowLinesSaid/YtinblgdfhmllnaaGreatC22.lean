/- A part of the proof: an abstract reading of the model, contracts of functions. -/
import Derived.Test.YtinblgdfhmllnaaGreatC21
import Derived.Test.YtinblgdfhmllnaaGreatProg
set_option linter.unusedVariables false
set_option linter.unusedSimpArgs false
namespace Go.Abs.A29
open Go Go.Abs Go.Proofs
set_option maxRecDepth 100000
set_option linter.unusedVariables false
set_option linter.unusedSimpArgs false
attribute [local simp ↓] awp_skip awp_seq awp_cond awp_block awp_exit awp_ret awp_reg awp_draw awp_ghost awp_loop awp_rfun awpR_nil awpR_cons awpX_nil awpX_0 awpX_1 awpX_2 awpI_eq awpI_t awpI_f awpStep_eq
attribute [local simp] condL_true condL_false condL_dec evDel evV evN evS evA initFr Ghost.app Fr.var Fr.blk Fr.ff FF.val Abs.look Fr.app Fr.erase Fr.noSlot AV.noSlot AV.noSlotL Blk.noSlot Fr.spoken AV.fz AV.fzL Blk.fz binV binI shI binS unV fillA FF.parts FF.vals headO intO boundO lenV scalarEq leavesEq AV.aggc AV.cells FF.read FF.rows AV.one PV.one chunk freshB newS pickV retK evRs evRl evR resOf mkTup mkAgg allP cloOf okP_nil okX_p okX okP addN Del.noSlot Del.owners Rnd reify_p normM insM Fr.back Fr.backV Fr.setPs normV insV
attribute [local simp] renF Fr.trim Blk.trim AV.rn AV.rnL Blk.rn AV.among AV.amongL Blk.among okF retM fixS BIG initFF
attribute [local simp] FF.reify FF.reifyL PV.flat
attribute [local simp] ym yn yl yk yb yc yf yj yh qp qe qi qo qg qa qk qz qm ql qt qf qj qn qb qc qs qr qq qd
section
def ac9:AC:=by
 apply fun (y:AC) (_:@Eq AC (let e0:=[0,1,2,3,4];let e1:=[8,33,34,35,36,37,38,39,40,41,42];let e2:=[17,18,19,20,21];let e3:=[8,37,38,39,40,43,44];let e4:=[8,33,34,35,36,39,40,41,43,44];let e5:=[8,33,34,35,36,37,38,43,44];let e6:=[17,22,23,24,25,26,27];let e7:=[0,1,2,3,4,5,6,7,8,9];let e8:=[0,1,2,3,4,5];let e9:=[46,50,51,52];let e10:=[1,4,6,7];(qk [0] (qs (qr [(qp 1 (.box (.v 0))),(qp 2 (.mov (.c .nsl))),(qi 3 (.mov (.c (.str ⟨#[]⟩))) [1]),(qp 4 (.alloc [.int .i64 0,.nsl,.int .i64 0])),(qi 5 (.mov (qz 0)) [2])]) (qk [1,4] (qs (qr [(qp 6 (.mov (.c .nsl)))]) (.ghost (.own 6 32 40 9) (qk [1,4,6] (qs (qs (qr [(qp 7 (.mov (qz 0)))]) (qk e10 (.block 0 (.loop (qk e10 (qs (qs (qr [(ym 9 7),(qp 10 (qf 3 1)),(yk 11 10 [1]),(qi 12 (.bin .rem (.v 11) (.c (.int .u8 4))) [2]),(qi 13 (.conv .i64 (.v 12)) [3]),(yb 14 .lss 9 13 [0,4])]) (qk [1,4,6,7,14] (qq (.v 14) .skip (.exit 0)))) (qk e10 (qs (.block 1 (qd [(qa (ym 17 6) [18,19,20,21,22,23,24,25,26,27,28,29,30,31] [29,31] [] [] 2),(qe (ym 18 7) [17,19,22,23,24,25,26,27] [0] 2),(qe (qp 19 (qf 0 1)) [17,18,22,23,24,25,26,27] [0,1] 2),(qe (qi 20 (.iaddrA 1 3 (.v 19) (.v 18)) [2,1]) e6 [0] 2),(qe (yk 21 20 [3]) e6 [0] 2),(qe (ym 22 7) [17,18,19,20,21,23] e0 2),(qe (qp 23 (qf 0 1)) [17,18,19,20,21,22] e8 2),(qe (qi 24 (.iaddrA 1 3 (.v 23) (.v 22)) [6,5]) e2 e0 2),(qe (yk 25 24 [7]) e2 e0 2),(qe (yh 26 25 [8]) e2 e0 2),(qe (qi 27 (.mm false (.v 26) (qz 16)) [9]) e2 e0 2),(qe (qi 28 (.slcV 1 (.v 21) none (some (.v 27))) [4,10]) [17] [0] 2),(qa (qi 29 (.call 20 [.v 28]) [11]) [17] [] [29] [0] 1),(qe (qi 30 (.field 0 true 9 (.v 29)) [12]) [17] [0] 2),(qa (qi 31 (.bslice 40 9 1 [.str ⟨#[]⟩,.int .i64 0,.nsl,.nsl,.int .i64 0,.nsl,.nsl,.nsl,.str ⟨#[]⟩] [(0,9,.v 30)]) [13]) [17] [] [31] [0] 1),(qa (qi 32 (.app 40 9 168 (.v 17) (.v 31)) [0,14,12]) [] [] [32] [] 1),(qe (yn 6 32 [15,15,0,1,2,3,4,5,6,7,8,9,10,11,12,13,14,15]) [] [] 2)])) (qk e10 (qr [(ym 15 7),(yc 16 .add 15 (qz 1) [0]),(yn 7 16 [1,0,1])])))))))))) (qk [1,4,6] (qs (qd [(qa (qp 33 (qf 6 1)) e3 [8] [] [] 2),(qa (yk 34 33 [0]) e3 [8] [] [] 0),(qa (qi 35 (.call 21 [.v 34,.c (.int .i64 29)]) [1]) e3 [8] [35] [] 0),(qa (qi 36 (.bin .add (qz 4) (.v 35)) [2]) [8,37,38,39,40,41,42,43,44] [8,41,42] [] [] 2),(qa (qp 37 (qf 5 1)) e4 [8,35,41] [] [0,1,2,3] 2),(qa (yk 38 37 [4]) e4 [8,35,41] [] [0,1,2,3] 0),(qa (qp 39 (qf 8 1)) e5 [8,35] [] e8 2),(qa (yk 40 39 [6]) e5 [8,35] [] e8 0),(qa (qi 41 (.call 21 [.v 40,.c (.int .i64 4)]) [7,2]) [8,36,37,38,43,44] [8] [41] [3,4,5] 0),(qa (qi 42 (.call 22 [.v 38,.v 41]) [5,8,8]) [8,36,43,44] [8] [42] [3] 0),(qa (qp 43 (qf 8 1)) e1 [8,35,41,42] [] e7 2),(qa (yk 44 43 [10]) e1 [8,35,41,42] [] e7 0),(qa (qi 45 (.build [.int .i64 0,.nsl,.int .i64 0] [(0,1,.v 36),(1,1,.v 42),(2,1,.v 44)]) [3,9,11]) [8] [8] [] [] 2),(qa (qp 8 (.alloc [.int .i64 0,.nsl,.int .i64 0])) [33,34,35,36,37,38,39,40,41,42,43,44,45] [35,41,42] [8] [0,1,2,3,4,5,6,7,8,9,10,11,12] 0),(qa (qo (.store 3 (.v 8) (.v 45)) [13,12,9,0,1,2,3,4,5,6,7,8,9,10,11,12,13]) [] [] [8] [] 1)]) (qk [1,4,6,8] (qs (qd [(qa (ym 46 6) [47,48,49,50,51,52,53] [49,53] [] [] 2),(qe (qp 47 (qf 4 1)) e9 [0] 2),(qe (yk 48 47 [1]) e9 [0] 2),(qa (qi 49 (.call 23 [.v 48,.c (.int .i64 20)]) [2]) e9 [] [49] [0] 1),(qa (qp 50 (qt 3 8)) [2,3,46,47,48,49,51,52,53] [49,53] [] [0,1,2,3] 0),(qa (qp 51 (qf 7 1)) [46,47,48,49,50] [49] [] e0 2),(qa (yk 52 51 [5]) [46,47,48,49,50] [49] [] e0 0),(qa (qi 53 (.call 21 [.v 52,.c (.int .i64 200)]) [6,3]) [46,50] [] [53] [0,4] 1),(qe (yn 2 46 [0,7,0]) [50] [4] 2),(qe (yn 3 49 [3,8,0,1,2,3,8]) [50] [4] 2),(qa (qo (.store 3 (.v 4) (.v 50)) [4,9,0,1,2,3,4,8,9]) [] [] [4] [] 1),(qe (yn 5 53 [7,10,0,1,2,3,4,5,6,7,8,9,10]) [] [] 2)]) (qk [2,3,4,5] .ret))))))))))))) y)=>y
 dsimp
theorem fn9:factOf Tryz.prog 9=some (ac9.strip,[.tmp 2,.tmp 3,.cell 4 true 3,.tmp 5],54):=by kernel_rfl
theorem ok9:ac9.okAll=true:=by kernel_rfl
end
section
attribute [local simp ↓] awp_scope awp_label
attribute [local simp] w1
set_option maxHeartbeats 400000
attribute [local simp] evC
attribute [local simp ↓] oneN oneI oneSp
def Pg.txt (p:Pg):List UInt8:=texL p.text (min p.text.length 20)
def Pg.set (p:Pg):Stg:=⟨4+p.size % 29,madeAt p.at_ (p.want % 4).toNat,p.want⟩
def Pg.wid (p:Pg):Int:=p.width % 200
theorem oneCor (z:List Cor):((z.map corRow).all fun r=>r.all PV.one)=true:=by
 rw [List.all_eq_true];intro r hr;obtain ⟨x,_,rfl⟩:=List.mem_map.1 hr;rfl
attribute [local simp ↓] oneCor
theorem tk16 (f:List (List Int)):List.take (min (f.length:Int) 16).toNat (f.map llRow)=(f.take 16).map llRow:=by
 rw [show (min (f.length:Int) 16).toNat=min f.length 16 by omega,←List.map_take,←List.take_take,List.take_of_length_le (by simp only [List.length_take];omega)]
theorem b9 (p:Pg) (hp:p.ok):∃ cs:List Cor,cs.length=p.many % 4∧(∀ c∈cs,c.ok)∧Best Tryz.prog 9 [.agg (pgRow p)] (.p (.tup [.sl 9 (cs.map corRow),.str (ba p.txt),.agg (stgRow p.set),.int .i64 p.wid])):=by
 obtain ⟨f0,f1,f2,many,text,at_,size,width,want⟩:=p
 obtain ⟨n0,n1,n2,hm,htl,ht,hs,hw,hwa⟩:=hp
 dsimp only at n0 n1 n2 hm htl ht hs hw hwa
 obtain ⟨c0,l0,g0,hc0,q0⟩:=b20 (f0.take 16) (fun x hx=>n0 x (List.mem_of_mem_take hx)) (by simp;omega)
 obtain ⟨c1,l1,g1,hc1,q1⟩:=b20 (f1.take 16) (fun x hx=>n1 x (List.mem_of_mem_take hx)) (by simp;omega)
 obtain ⟨c2,l2,g2,hc2,q2⟩:=b20 (f2.take 16) (fun x hx=>n2 x (List.mem_of_mem_take hx)) (by simp;omega)
 refine ⟨[c0,c1,c2].take (many % 4),by simp;omega,fun c hc=>?_,?_⟩
 ·have:=List.mem_of_mem_take hc
  simp at this
  rcases this with rfl | rfl | rfl<;>assumption
 refine best mixed fn9 ok9 (by simp [pgRow]) ?_
 have wm:R (many:Int):=⟨by omega,by omega⟩
 have e4:(many:Int).tmod 4=((many % 4:Nat):Int):=(Int.ofNat_tmod many 4).symm
 have e4':(many:Int) % 4=((many % 4:Nat):Int):=by omega
 obtain ⟨k4,ek4⟩:∃ k,many % 4=k:=⟨_,rfl⟩
 have hk4:k4≤3:=by omega
 rw [ek4] at e4 e4'
 have w4:R (k4:Int):=⟨by omega,by omega⟩
 obtain ⟨CS,eCS⟩:∃ C,[c0,c1,c2].take k4=C:=⟨_,rfl⟩
 rw [ek4,eCS]
 simp -dsimp [ac9,pgRow,e4,e4',wr w4]
 refine loopC k4 (fun k=>⟨[(1,.ptr (1,0) 9 0 0),(4,.ptr (4,0) 3 0 0),(6,.ref (32,k) 9 0 k),(7,.p (.int .i64 k))],
  [((1,0),.box [.p (.sl 1 (f0.map llRow)),.p (.sl 1 (f1.map llRow)),.p (.sl 1 (f2.map llRow)),.p (.int .u8 many),.p (.sl 1 (text.map intRow)),.p (.sl 1 (at_.map intRow)),.p (.int .i64 size),.p (.int .i64 width),.p (.int .i64 want)]),
   ((4,0),.box [.p (.int .i64 0),.p .nsl,.p (.int .i64 0)]),((32,k),.sl 40 9 (([c0,c1,c2].take k).map corRow))]⟩) (fun _=>True) (fun k hk _=>?_) trivial (by simp)
 by_cases h:k<k4
 ·have m1:k+1≤maxLen:=by unfold maxLen;omega
  have e1:(k+1)*168≤140737488355328:=by omega
  have wk:R ((k:Int)+1):=⟨by omega,by omega⟩
  have hk3:k=0∨k=1∨k=2:=by omega
  rcases hk3 with rfl | rfl | rfl
  ·have z1:(0:Int)≤min (f0.length:Int) 16:=by omega
   have z2:min (f0.length:Int) 16≤f0.length:=by omega
   have z3:=tk16 f0
   have h':(0:Int)<k4:=by omega
   simp -dsimp [h,h',e4,e4',wr w4,z1,z2,z3]
   refine call_p q0 (by simp) (by simp) ?_
   simp -dsimp [m1,e1,wr wk,corRow,List.range,List.range.loop]
   first | exact h | exact ⟨h,by decide⟩
  ·have z1:(0:Int)≤min (f1.length:Int) 16:=by omega
   have z2:min (f1.length:Int) 16≤f1.length:=by omega
   have z3:=tk16 f1
   have h':(1:Int)<k4:=by omega
   simp -dsimp [h,h',e4,e4',wr w4,z1,z2,z3]
   refine call_p q1 (by simp) (by simp) ?_
   simp -dsimp [m1,e1,wr wk,corRow,List.range,List.range.loop]
   first | exact h | exact ⟨h,by decide⟩
  ·have z1:(0:Int)≤min (f2.length:Int) 16:=by omega
   have z2:min (f2.length:Int) 16≤f2.length:=by omega
   have z3:=tk16 f2
   have h':(2:Int)<k4:=by omega
   simp -dsimp [h,h',e4,e4',wr w4,z1,z2,z3]
   refine call_p q2 (by simp) (by simp) ?_
   simp -dsimp [m1,e1,wr wk,corRow,List.range,List.range.loop]
   first | exact h | exact ⟨h,by decide⟩
 ·have:k=k4:=by omega
  subst this
  rw [eCS]
  have hCS:CS.length=k:=by rw [←eCS];simp;omega
  have htk:List.take k (CS.map corRow)=CS.map corRow:=List.take_of_length_le (by simp [hCS])
  have v1:=b21 (n:=size) (m:=29) hs (by decide) (by decide)
  have v2:=b21 (n:=want) (m:=4) hwa (by decide) (by decide)
  have v3:=b21 (n:=width) (m:=200) hw (by decide) (by decide)
  have v4:=b22 at_ (want % 4).toNat (by omega)
  have v5:=b23 text (by unfold maxLen at htl;omega) ht 20 (by decide)
  obtain ⟨m,em⟩:∃ m:Nat,want % 4=m:=⟨(want % 4).toNat,by omega⟩
  rw [em] at v2 v4
  have em2:(m:Int).toNat=m:=by omega
  rw [em2] at v4
  have w5:R (4+size % 29):=⟨by omega,by omega⟩
  simp -dsimp [h,e4,e4',wr w4]
  refine call_p v1 (by simp) (by simp) ?_
  simp -dsimp [wr w5]
  refine call_p v2 (by simp) (by simp) ?_
  simp -dsimp
  refine call_p v4 (by simp) (by simp) ?_
  simp -dsimp [List.range,List.range.loop]
  refine call_p v5 (by simp) (by simp) ?_
  simp -dsimp
  refine call_p v3 (by simp) (by simp) ?_
  simp -dsimp [resOf,htk,hCS,Pg.txt,Pg.set,Pg.wid,stgRow,em,em2]
end
section
def ac69:AC:=by
 apply fun (y:AC) (_:@Eq AC (let e0:=[1,1];(qk [0] (qs (qr [(qp 2 (.mov (qz 0)))]) (qk [0] (qs (.block 0 (qs (qr [(ym 4 0),(yc 5 .eql 4 (qz 10) [0]),(yn 3 5 [1])]) (qk [0,3] (qq (.v 3) (qs (qr [(qp 2 (.mov (qz 1)))]) (qk [2] .ret)) (qs (qr [(ym 7 0),(yc 8 .eql 7 (qz 32) [0]),(yn 6 8 [1])]) (qk [0,6] (qq (.v 6) (qs (qr [(qp 2 (.mov (qz 2)))]) (qk [2] .ret)) (qs (qr [(ym 10 0),(qi 11 (.call 111 [.v 10,.c (.int .i64 33),.c (.int .i64 47)]) [0]),(yn 9 11 e0)]) (qk [0,9] (qq (.v 9) (qs (qr [(qp 2 (.mov (qz 4)))]) (qk [2] .ret)) (qs (qr [(ym 13 0),(qi 14 (.call 111 [.v 13,.c (.int .i64 48),.c (.int .i64 57)]) [0]),(yn 12 14 e0)]) (qk [0,12] (qq (.v 12) (qs (qr [(qp 2 (.mov (qz 3)))]) (qk [2] .ret)) (qs (qr [(ym 16 0),(qi 17 (.call 111 [.v 16,.c (.int .i64 64),.c (.int .i64 95)]) [0]),(yn 15 17 e0)]) (qk [0,15] (qq (.v 15) (qs (qr [(qp 2 (.mov (qz 5)))]) (qk [2] .ret)) (qs (qr [(ym 19 0),(qi 20 (.call 111 [.v 19,.c (.int .i64 96),.c (.int .i64 103)]) [0]),(yn 21 20 e0),(qg 22 (qm 0) 21 false [2]),(qg 23 (.call 111 [.v 22,.c (.int .i64 144),.c (.int .i64 151)]) 21 false [3,2,2]),(qi 24 (.pick (.v 21) (.c (.bool true)) (.v 23)) [2,4]),(yn 25 24 [5,4]),(qg 26 (qm 0) 25 false [6]),(qg 27 (.call 111 [.v 26,.c (.int .i64 200),.c (.int .i64 207)]) 25 false [7,6,6]),(qi 28 (.pick (.v 25) (.c (.bool true)) (.v 27)) [6,8]),(yn 18 28 [9,8])]) (qk [0,18] (qq (.v 18) (qs (qr [(qp 2 (.mov (qz 6)))]) (qk [2] .ret)) (qs (qr [(ym 30 0),(qi 31 (.call 111 [.v 30,.c (.int .i64 104),.c (.int .i64 127)]) [0]),(yn 29 31 e0)]) (qk [0,29] (qq (.v 29) (qs (qr [(qp 2 (.mov (qz 7)))]) (qk [2] .ret)) (qs (qr [(ym 33 0),(qi 34 (.call 111 [.v 33,.c (.int .i64 128),.c (.int .i64 143)]) [0]),(yn 32 34 e0)]) (qk [0,32] (qq (.v 32) (qs (qr [(qp 2 (.mov (qz 8)))]) (qk [2] .ret)) (qs (qr [(ym 36 0),(qi 37 (.call 111 [.v 36,.c (.int .i64 152),.c (.int .i64 183)]) [0]),(yn 35 37 e0)]) (qk [0,35] (qq (.v 35) (qs (qr [(qp 2 (.mov (qz 9)))]) (qk [2] .ret)) (qs (qr [(ym 39 0),(yc 40 .eql 39 (qz 184) [0]),(yn 38 40 [1])]) (qk [0,38] (qq (.v 38) (qs (qr [(qp 2 (.mov (qz 10)))]) (qk [2] .ret)) (qs (qr [(ym 42 0),(qi 43 (.call 111 [.v 42,.c (.int .i64 185),.c (.int .i64 191)]) [0]),(yn 41 43 e0)]) (qk [0,41] (qq (.v 41) (qs (qr [(qp 2 (.mov (qz 11)))]) (qk [2] .ret)) (qs (qr [(ym 45 0),(qi 46 (.call 111 [.v 45,.c (.int .i64 192),.c (.int .i64 199)]) [0]),(yn 44 46 e0)]) (qk [0,44] (qq (.v 44) (qs (qr [(qp 2 (.mov (qz 12)))]) (qk [2] .ret)) (qs (qr [(ym 48 0),(yc 49 .eql 48 (qz 240) [0]),(yn 47 49 [1])]) (qk [0,47] (qq (.v 47) (qs (qr [(qp 2 (.mov (qz 13)))]) (qk [2] .ret)) (qs (qr [(ym 51 0),(yc 52 .eql 51 (qz 241) [0]),(yn 50 52 [1])]) (qk [50] (qq (.v 50) (qs (qr [(qp 2 (.mov (qz 14)))]) (qk [2] .ret)) .skip))))))))))))))))))))))))))))))))))))))))))) (qk [] (qs (qr [(qp 2 (.mov (qz 0)))]) (qk [2] .ret)))))))) y)=>y
 dsimp
theorem fn69:factOf Tryz.prog 69=some (ac69.strip,[.tmp 2],53):=by kernel_rfl
theorem ok69:ac69.okAll=true:=by kernel_rfl
def ac111:AC:=by
 apply fun (y:AC) (_:@Eq AC (qk [0,1,2] (qs (qr [(qp 6 (.mov (.c (.bool false))))]) (qk [0,1,2] (qs (qr [(ym 7 0),(ym 8 1),(yb 9 .geq 7 8 [0,1]),(yn 10 9 [2]),(qg 11 (qm 0) 10 true [3]),(qg 12 (qm 2) 10 true [3]),(qg 13 (qb .leq 11 12) 10 true [4,5,3]),(qi 14 (.pick (.v 10) (.v 13) (.c (.bool false))) [3,6]),(yn 6 14 [7,3,0,1,2,3,4,5,6,7])]) (qk [6] .ret))))) y)=>y
 dsimp
theorem fn111:factOf Tryz.prog 111=some (ac111.strip,[.tmp 6],15):=by kernel_rfl
theorem ok111:ac111.okAll=true:=by kernel_rfl
def ac109:AC:=by
 apply fun (y:AC) (_:@Eq AC (qk [0,1] (qs (qr [(qp 4 (.mov (qz 0)))]) (qk [0,1] (qs (qr [(ym 5 0),(ym 6 1),(qi 7 (.idxS (.v 5) (.v 6)) [0,1]),(qi 8 (.conv .i64 (.v 7)) [2]),(qi 9 (.call 69 [.v 8]) [3]),(yn 4 9 [4,4,0,1,2,3,4])]) (qk [4] .ret))))) y)=>y
 dsimp
theorem fn109:factOf Tryz.prog 109=some (ac109.strip,[.tmp 4],10):=by kernel_rfl
theorem ok109:ac109.okAll=true:=by kernel_rfl
def ac110:AC:=by
 apply fun (y:AC) (_:@Eq AC (qk [0] (qs (qr [(qp 2 (.mov (.c (.bool false))))]) (qk [0] (qs (qr [(ym 4 0),(qi 5 (.call 69 [.v 4]) [0]),(yn 3 5 [1,1,0,1])]) (qk [3] (qs (qr [(ym 6 3),(yc 7 .eql 6 (qz 6) [0]),(yn 8 7 [1]),(qg 9 (qm 3) 8 false [2]),(qg 10 (qc .eql 9 (qz 10)) 8 false [3,2]),(qi 11 (.pick (.v 8) (.c (.bool true)) (.v 10)) [2,4]),(yn 12 11 [5,2]),(qg 13 (qm 3) 12 false [6]),(qg 14 (qc .eql 13 (qz 11)) 12 false [7,6]),(qi 15 (.pick (.v 12) (.c (.bool true)) (.v 14)) [6,8]),(yn 16 15 [9,6]),(qg 17 (qm 3) 16 false [10]),(qg 18 (qc .eql 17 (qz 12)) 16 false [11,10]),(qi 19 (.pick (.v 16) (.c (.bool true)) (.v 18)) [10,12]),(yn 20 19 [13,10]),(qg 21 (qm 3) 20 false [14]),(qg 22 (qc .eql 21 (qz 13)) 20 false [15,14]),(qi 23 (.pick (.v 20) (.c (.bool true)) (.v 22)) [14,16]),(yn 24 23 [17,14]),(qg 25 (qm 3) 24 false [18]),(qg 26 (qc .eql 25 (qz 14)) 24 false [19,18]),(qi 27 (.pick (.v 24) (.c (.bool true)) (.v 26)) [18,20]),(yn 2 27 [21,18,0,1,2,3,4,5,6,7,8,9,10,11,12,13,14,15,16,17,18,19,20,21])]) (qk [2] .ret))))))) y)=>y
 dsimp
theorem fn110:factOf Tryz.prog 110=some (ac110.strip,[.tmp 2],28):=by kernel_rfl
theorem ok110:ac110.okAll=true:=by kernel_rfl
def ac68:AC:=by
 apply fun (y:AC) (_:@Eq AC (qk [0,1,2] (qs (qr [(qp 6 (.mov (.c (.bool false))))]) (qk [0,1,2] (qs (qs (qr [(ym 8 1),(yc 9 .eql 8 (qz 0) [0]),(yn 10 9 [1]),(qg 11 (qm 2) 10 false [2]),(qg 12 (qc .eql 11 (qz 6)) 10 false [3,2]),(qi 13 (.pick (.v 10) (.c (.bool true)) (.v 12)) [2,4]),(yn 14 13 [5,2]),(qg 15 (qm 0) 14 false [6]),(qg 16 (qm 1) 14 false [6]),(qg 17 (qc .sub 16 (qz 1)) 14 false [8,6]),(qg 18 (.call 109 [.v 15,.v 17]) 14 false [7,9,6,6]),(qg 19 (qc .eql 18 (qz 1)) 14 false [10,6]),(qi 20 (.pick (.v 14) (.c (.bool true)) (.v 19)) [6,11])]) (qk [0,1,20] (qq (.v 20) (qs (qr [(qp 6 (.mov (.c (.bool true))))]) (qk [6] .ret)) .skip))) (qk [0,1] (qs (qr [(ym 21 0),(ym 22 1),(qi 23 (.idxS (.v 21) (.v 22)) [0,1]),(qi 24 (.conv .i64 (.v 23)) [2]),(qi 25 (.call 110 [.v 24]) [3]),(yn 7 25 [4,4,0,1,2,3,4])]) (qk [0,1,7] (qs (qr [(ym 26 7),(qi 27 (.un .not (.v 26)) [0]),(yn 28 27 [1]),(qg 29 (qm 0) 28 true [2]),(qg 30 (qm 1) 28 true [2]),(qg 31 (.call 109 [.v 29,.v 30]) 28 true [3,4,2,2]),(qg 32 (qc .eql 31 (qz 9)) 28 true [5,2]),(qg 33 (qm 32) 28 true [6,5,2]),(qg 34 (qm 0) 33 true [7]),(qg 35 (qm 1) 33 true [7]),(qg 36 (qc .sub 35 (qz 1)) 33 true [9,7]),(qg 37 (.call 109 [.v 34,.v 36]) 33 true [8,10,7,7]),(qg 38 (qc .eql 37 (qz 10)) 33 true [11,7]),(qg 39 (.pick (.v 33) (.v 38) (.c (.bool false))) 28 true [7,12,2]),(qg 40 (.un .not (.v 39)) 28 true [13,2]),(qi 41 (.pick (.v 28) (.v 40) (.c (.bool false))) [2,14]),(yn 6 41 [15,11,0,1,2,3,4,5,6,7,8,9,10,11,12,13,14,15])]) (qk [6] .ret))))))))) y)=>y
 dsimp
theorem fn68:factOf Tryz.prog 68=some (ac68.strip,[.tmp 6],42):=by kernel_rfl
theorem ok68:ac68.okAll=true:=by kernel_rfl
def ac70:AC:=by
 apply fun (y:AC) (_:@Eq AC (qk [0,1] (qs (qr [(qp 3 (.box (.v 1))),(qp 4 (.mov (qz 0)))]) (qk [0,3] (qs (qs (qr [(qp 7 (qf 0 3)),(yk 8 7 [0]),(yc 9 .lss 8 (qz 0) [1]),(yn 10 9 [2]),(qg 11 (qf 0 3) 10 false [3]),(qg 12 (ql 11) 10 false [4,3]),(qg 13 (qf 1 3) 10 false [3]),(qg 14 (ql 13) 10 false [6,3]),(qg 15 (qb .geq 12 14) 10 false [5,7,3]),(qi 16 (.pick (.v 10) (.c (.bool true)) (.v 15)) [3,8]),(yn 17 16 [9,3]),(qg 18 (qf 1 3) 17 false [10]),(qg 19 (ql 18) 17 false [11,10]),(qg 20 (qm 0) 17 false [10]),(qg 21 (.len true (.v 20)) 17 false [13,10]),(qg 22 (qb .gtr 19 21) 17 false [12,14,10]),(qi 23 (.pick (.v 17) (.c (.bool true)) (.v 22)) [10,15])]) (qk [0,3,23] (qq (.v 23) (qs (qr [(qp 4 (.mov (qz (-1))))]) (qk [4] .ret)) .skip))) (qk [0,3] (qs (qs (qr [(qp 24 (qf 0 3)),(yk 25 24 [0]),(yn 5 25 [1,0,1])]) (qk [0,3,5] (.block 0 (.loop (qk [0,3,5] (qs (qs (qr [(ym 26 5),(qp 27 (qf 1 3)),(yk 28 27 [1]),(yb 29 .lss 26 28 [0,2])]) (qk [0,3,5,29] (qq (.v 29) .skip (.exit 0)))) (qk [0,3,5] (qs (.block 1 (qs (qr [(ym 32 0),(ym 33 5),(qi 34 (.idxS (.v 32) (.v 33)) [0,1]),(qi 35 (.conv .i64 (.v 34)) [2]),(qi 36 (.call 110 [.v 35]) [3]),(yn 6 36 [4,4,0,1,2,3,4])]) (qk [0,3,5,6] (qs (qr [(ym 37 6),(qi 38 (.un .not (.v 37)) [0])]) (qk [0,3,5,38] (qq (.v 38) (qs (qr [(ym 39 5),(yn 4 39 [0,0])]) (qk [4] .ret)) .skip)))))) (qk [0,3,5] (qr [(ym 30 5),(yc 31 .add 30 (qz 1) [0]),(yn 5 31 [1,0,1])])))))))))) (qk [3] (qs (qr [(qp 40 (qf 0 3)),(yk 41 40 [0]),(yn 4 41 [1,0,1])]) (qk [4] .ret))))))))) y)=>y
 dsimp
theorem fn70:factOf Tryz.prog 70=some (ac70.strip,[.tmp 4],42):=by kernel_rfl
theorem ok70:ac70.okAll=true:=by kernel_rfl
def ac34:AC:=by
 apply fun (y:AC) (_:@Eq AC (qk [0,1] (qs (qr [(qp 3 (.box (.v 1))),(qp 4 (.mov (qz 0)))]) (qk [0,3] (qs (qr [(ym 5 0),(ym 6 0),(qp 7 (qt 2 3)),(qi 8 (.call 70 [.v 6,.v 7]) [1,2]),(qi 9 (.idxS (.v 5) (.v 8)) [0,3]),(qi 10 (.conv .i64 (.v 9)) [4]),(qi 11 (.call 69 [.v 10]) [5,3]),(yn 4 11 [6,6,0,1,2,3,4,5,6])]) (qk [4] .ret))))) y)=>y
 dsimp
theorem fn34:factOf Tryz.prog 34=some (ac34.strip,[.tmp 4],12):=by kernel_rfl
theorem ok34:ac34.okAll=true:=by kernel_rfl
def ac73:AC:=by
 apply fun (y:AC) (_:@Eq AC (qk [0,1] (qs (qr [(qp 2 (.box (.v 0))),(qp 4 (.mov (qz 0))),(qi 5 (.mov (.c (.bool false))) [1])]) (qk [1,2] (qs (qr [(qp 9 (qt 9 2)),(ym 10 1),(qi 11 (.call 81 [.v 9,.v 10]) [0,1]),(yn 8 11 [2]),(qi 12 (.ext (.v 8) 0) [3]),(qi 13 (.ext (.v 8) 1) [3]),(qp 6 (.alloc [.int .i64 0,.int .i64 0,.int .i64 0,.nsl])),(qo (.store 4 (.v 6) (.v 12)) [6,4,2,0,1,2,3,4,6]),(yn 7 13 [5,7,0,1,2,3,4,5,6,7])]) (qk [6,7] (qs (qr [(qp 14 (qf 1 6)),(yk 15 14 [0]),(ym 16 7),(yn 4 15 [1,0,1]),(yn 5 16 [2,3,0,1,2,3])]) (qk [4,5] .ret))))))) y)=>y
 dsimp
theorem fn73:factOf Tryz.prog 73=some (ac73.strip,[.tmp 4,.tmp 5],17):=by kernel_rfl
theorem ok73:ac73.okAll=true:=by kernel_rfl
def ac36:AC:=by
 apply fun (y:AC) (_:@Eq AC (qk [0,1] (qs (qr [(qp 2 (.box (.v 0))),(qp 4 (.mov (.c (.bool false))))]) (qk [1,2] (qs (qs (qr [(qp 5 (.mov (qz 0)))]) (qk [1,2,5] (.block 0 (.loop (qk [1,2,5] (qs (qs (qr [(ym 8 5),(ym 9 1),(yh 10 9 [1]),(yb 11 .lss 8 10 [0,2])]) (qk [1,2,5,11] (qq (.v 11) .skip (.exit 0)))) (qk [1,2,5] (qs (.block 1 (qs (qd [(qe (qp 15 (qt 9 2)) [16,17,18,19] [] 2),(qe (ym 16 1) [15,17] [0] 2),(qe (ym 17 5) [15,16] [0,1] 2),(qe (yj 18 1 16 17 [1,2]) [15] [0] 2),(qe (yk 19 18 [3]) [15] [0] 2),(qa (qi 20 (.call 73 [.v 15,.v 19]) [0,4]) [] [] [20] [] 1),(qe (yn 14 20 [5]) [] [] 2),(qe (qi 21 (.ext (.v 14) 0) [6]) [22] [] 2),(qe (qi 22 (.ext (.v 14) 1) [6]) [6,21] [7] 2),(qe (yn 6 21 [7,5,0,1,2,3,4,5,6,7]) [22] [8] 2),(qe (yn 7 22 [8,9,0,1,2,3,4,5,6,7,8,9]) [] [] 2)]) (qk [1,2,5,7] (qs (qr [(ym 23 7),(qi 24 (.un .not (.v 23)) [0])]) (qk [1,2,5,24] (qq (.v 24) (qs (qr [(qp 4 (.mov (.c (.bool false))))]) (qk [4] .ret)) .skip)))))) (qk [1,2,5] (qr [(ym 12 5),(yc 13 .add 12 (qz 1) [0]),(yn 5 13 [1,0,1])])))))))))) (qk [] (qs (qr [(qp 4 (.mov (.c (.bool true))))]) (qk [4] .ret))))))) y)=>y
 dsimp
theorem fn36:factOf Tryz.prog 36=some (ac36.strip,[.tmp 4],25):=by kernel_rfl
theorem ok36:ac36.okAll=true:=by kernel_rfl
def ac81:AC:=by
 apply fun (y:AC) (_:@Eq AC (let e0:=[1,2,4,6];(qk [0,1] (qs (qr [(qp 2 (.box (.v 0))),(qp 4 (.alloc [.int .i64 0,.int .i64 0,.int .i64 0,.nsl])),(qp 5 (.mov (.c (.bool false))))]) (qk [1,2,4] (qs (qs (qr [(qp 6 (.mov (qz 0)))]) (qk e0 (.block 0 (.loop (qk e0 (qs (qs (qr [(ym 7 6),(qp 8 (qf 5 2)),(yk 9 8 [1]),(yh 10 9 [2]),(yb 11 .lss 7 10 [0,3])]) (qk [1,2,4,6,11] (qq (.v 11) .skip (.exit 0)))) (qk e0 (qs (.block 1 (qs (qr [(qp 14 (qf 5 2)),(yk 15 14 [0]),(ym 16 6),(yj 17 4 15 16 [1,2]),(yf 18 0 17 [3]),(yk 19 18 [4]),(ym 20 1),(yb 21 .eql 19 20 [5,6])]) (qk [1,2,4,6,21] (qq (.v 21) (qs (qr [(qp 22 (qf 5 2)),(yk 23 22 [0]),(ym 24 6),(yj 25 4 23 24 [1,2]),(qi 26 (qt 4 25) [3]),(qo (.store 4 (.v 4) (.v 26)) [4,0,1,2,3,4]),(qi 5 (.mov (.c (.bool true))) [5,0,1,2,3,4,5])]) (qk [4,5] (.ghost (.zslC (4,0) 3 2) .ret))) .skip)))) (qk e0 (qr [(ym 12 6),(yc 13 .add 12 (qz 1) [0]),(yn 6 13 [1,0,1])])))))))))) (qk [4] (qs (qr [(qp 27 (.build [.int .i64 0,.int .i64 0,.int .i64 0,.nsl] [])),(qo (.store 4 (.v 4) (.v 27)) [0,0]),(qi 5 (.mov (.c (.bool false))) [1,0,1])]) (qk [4,5] (.ghost (.zslC (4,0) 3 2) .ret))))))))) y)=>y
 dsimp
theorem fn81:factOf Tryz.prog 81=some (ac81.strip,[.cell 4 true 4,.tmp 5],28):=by kernel_rfl
theorem ok81:ac81.okAll=true:=by kernel_rfl
def xc33b:AC:=by
 apply fun (y:AC) (_:@Eq AC (qs (qs (qr [(ym 30 0),(qi 31 (.len true (.v 30)) [0]),(yc 32 .gtr 31 (qz 0) [1])]) (qk [0,3,4,32] (qq (.v 32) (qr [(ym 33 3),(ym 34 4),(ym 35 0),(qi 36 (.len true (.v 35)) [2]),(qi 37 (.build [.int .i64 0,.int .i64 0] [(0,1,.v 34),(1,1,.v 36)]) [1,3]),(qi 38 (.bslice 66 2 1 [.int .i64 0,.int .i64 0] [(0,2,.v 37)]) [4]),(qi 39 (.app 66 2 16 (.v 33) (.v 38)) [0,5]),(yn 3 39 [6,6,0,1,2,3,4,5,6])]) .skip))) (qk [3] (qs (qr [(ym 40 3),(yn 2 40 [0,0])]) (qk [2] .ret)))) y)=>y
 dsimp
def ac33:AC:=by
 apply fun (y:AC) (_:@Eq AC (let e0:=[0,3,4,5];(qk [0] (qs (qr [(qp 2 (.mov (.c .nsl)))]) (qk [0] (qs (qr [(qp 3 (.mov (.c .nsl)))]) (.ghost (.own 3 28 66 2) (qk [0,3] (qs (qr [(qp 4 (.mov (qz 0)))]) (qk [0,3,4] (qs (qs (qr [(qp 5 (.mov (qz 0)))]) (qk e0 (.block 0 (.loop (qk e0 (qs (qs (qr [(ym 7 5),(ym 8 0),(qi 9 (.len true (.v 8)) [1]),(yb 10 .lss 7 9 [0,2])]) (qk [0,3,4,5,10] (qq (.v 10) .skip (.exit 0)))) (qk e0 (qs (.block 1 (qs (qr [(ym 13 0),(ym 14 5),(ym 15 5),(ym 16 4),(yb 17 .sub 15 16 [2,3]),(qi 18 (.call 68 [.v 13,.v 14,.v 17]) [0,1,4]),(yn 6 18 [5,5,0,1,2,3,4,5])]) (qk [0,3,4,5,6] (qs (qs (qr [(ym 19 6),(qi 20 (.un .not (.v 19)) [0])]) (qk [0,3,4,5,20] (qq (.v 20) (.exit 1) .skip))) (qk e0 (qs (qs (qr [(ym 21 5),(yc 22 .gtr 21 (qz 0) [0])]) (qk [0,3,4,5,22] (qq (.v 22) (qr [(ym 23 3),(ym 24 4),(ym 25 5),(qi 26 (.build [.int .i64 0,.int .i64 0] [(0,1,.v 24),(1,1,.v 25)]) [1,2]),(qi 27 (.bslice 66 2 1 [.int .i64 0,.int .i64 0] [(0,2,.v 26)]) [3]),(qi 28 (.app 66 2 16 (.v 23) (.v 27)) [0,4]),(yn 3 28 [5,5,0,1,2,3,4,5])]) .skip))) (qk [0,3,5] (qr [(ym 29 5),(yn 4 29 [0,0])])))))))) (qk e0 (.ghost (.canV 3 (28,0)) (qr [(ym 11 5),(yc 12 .add 11 (qz 1) [0]),(yn 5 12 [1,0,1])]))))))))))) (qk [0,3,4] xc33b))))))))))) y)=>y
 dsimp
theorem fn33:factOf Tryz.prog 33=some (ac33.strip,[.tmp 2],41):=by kernel_rfl
theorem ok33:ac33.okAll=true:=by kernel_rfl
end
section
set_option maxHeartbeats 4000000
attribute [local simp] ba_size wb ba_at w1 w6
theorem b111 (c lo hi:Int):Best Tryz.prog 111 [.int .i64 c,.int .i64 lo,.int .i64 hi] (.p (.bool (decide (lo≤c) && decide (c≤hi)))):=by
 refine best mixed fn111 ok111 (by simp) ?_
 by_cases h1:lo≤c<;>by_cases h2:c≤hi<;>simp -dsimp [ac111,h1,h2]
theorem blk_sorted:∀ (j:Nat) (h:j<blkL.length),∀ y∈blkL.take j,y.2.1<(blkL[j]).1:=by decide
theorem cls_of {c:Int} {lo hi k s:Int} (h:(lo,hi,k,s)∈blkL) (h1:lo≤c) (h2:c≤hi):clsN c=k:=by
 obtain ⟨j,hj,e⟩:=List.mem_iff_getElem.1 h
 have hn:∀ y∈blkL.take j,inB c y=false:=fun y hy=>by
  have:=blk_sorted j hj y hy
  rw [e] at this
  dsimp only at this
  unfold inB
  rw [Bool.and_eq_false_iff,decide_eq_false_iff_not,decide_eq_false_iff_not]
  omega
 have:=kindN_at (c:=c) (k:=j) (b:=(lo,hi,k,s)) (by rw [List.getElem?_eq_getElem hj,e]) (by simp [inB,h1,h2]) hn
 unfold clsN;rw [this]
theorem b69 (c:Int):Best Tryz.prog 69 [.int .i64 c] (.p (.int .i64 (clsN c))):=by
 refine best mixed fn69 ok69 (by simp) ?_
 by_cases g1:c=10
 ·subst g1
  have hr:clsN 10=1:=rfl
  simp -dsimp [ac69,hr]
 by_cases g2:c=32
 ·subst g2
  have hr:clsN 32=2:=rfl
  simp -dsimp [ac69,hr]
 simp -dsimp [ac69,g1,g2]
 refine call_p (b111 c 33 47) (by simp) (by simp) ?_
 by_cases g3:33≤c∧c≤47
 ·have hr:=cls_of (c:=c) (lo:=33) (hi:=47) (k:=4) (s:=0) (by decide) g3.1 g3.2
  simp -dsimp [g3.1,g3.2,hr]
 have e3:(decide ((33:Int)≤c) && decide (c≤47))=false:=by simpa using g3
 simp -dsimp [e3]
 refine call_p (b111 c 48 57) (by simp) (by simp) ?_
 by_cases g4:48≤c∧c≤57
 ·have hr:=cls_of (c:=c) (lo:=48) (hi:=57) (k:=3) (s:=0) (by decide) g4.1 g4.2
  simp -dsimp [g4.1,g4.2,hr]
 have e4:(decide ((48:Int)≤c) && decide (c≤57))=false:=by simpa using g4
 simp -dsimp [e4]
 refine call_p (b111 c 64 95) (by simp) (by simp) ?_
 by_cases g5:64≤c∧c≤95
 ·have hr:=cls_of (c:=c) (lo:=64) (hi:=95) (k:=5) (s:=1) (by decide) g5.1 g5.2
  simp -dsimp [g5.1,g5.2,hr]
 have e5:(decide ((64:Int)≤c) && decide (c≤95))=false:=by simpa using g5
 simp -dsimp [e5]
 refine call_p (b111 c 96 103) (by simp) (by simp) ?_
 by_cases g6:96≤c∧c≤103
 ·have hr:=cls_of (c:=c) (lo:=96) (hi:=103) (k:=6) (s:=1) (by decide) g6.1 g6.2
  simp -dsimp [g6.1,g6.2,hr]
 have e6:(decide ((96:Int)≤c) && decide (c≤103))=false:=by simpa using g6
 simp -dsimp [e6]
 refine call_p (b111 c 144 151) (by simp) (by simp) ?_
 by_cases g7:144≤c∧c≤151
 ·have hr:=cls_of (c:=c) (lo:=144) (hi:=151) (k:=6) (s:=2) (by decide) g7.1 g7.2
  simp -dsimp [g7.1,g7.2,hr]
 have e7:(decide ((144:Int)≤c) && decide (c≤151))=false:=by simpa using g7
 simp -dsimp [e7]
 refine call_p (b111 c 200 207) (by simp) (by simp) ?_
 by_cases g8:200≤c∧c≤207
 ·have hr:=cls_of (c:=c) (lo:=200) (hi:=207) (k:=6) (s:=3) (by decide) g8.1 g8.2
  simp -dsimp [g8.1,g8.2,hr]
 have e8:(decide ((200:Int)≤c) && decide (c≤207))=false:=by simpa using g8
 simp -dsimp [e8]
 refine call_p (b111 c 104 127) (by simp) (by simp) ?_
 by_cases g9:104≤c∧c≤127
 ·have hr:=cls_of (c:=c) (lo:=104) (hi:=127) (k:=7) (s:=2) (by decide) g9.1 g9.2
  simp -dsimp [g9.1,g9.2,hr]
 have e9:(decide ((104:Int)≤c) && decide (c≤127))=false:=by simpa using g9
 simp -dsimp [e9]
 refine call_p (b111 c 128 143) (by simp) (by simp) ?_
 by_cases g10:128≤c∧c≤143
 ·have hr:=cls_of (c:=c) (lo:=128) (hi:=143) (k:=8) (s:=2) (by decide) g10.1 g10.2
  simp -dsimp [g10.1,g10.2,hr]
 have e10:(decide ((128:Int)≤c) && decide (c≤143))=false:=by simpa using g10
 simp -dsimp [e10]
 refine call_p (b111 c 152 183) (by simp) (by simp) ?_
 by_cases g11:152≤c∧c≤183
 ·have hr:=cls_of (c:=c) (lo:=152) (hi:=183) (k:=9) (s:=3) (by decide) g11.1 g11.2
  simp -dsimp [g11.1,g11.2,hr]
 have e11:(decide ((152:Int)≤c) && decide (c≤183))=false:=by simpa using g11
 by_cases g12:c=184
 ·subst g12
  have hr:clsN 184=10:=rfl
  simp -dsimp [hr]
 simp -dsimp [e11,g12]
 refine call_p (b111 c 185 191) (by simp) (by simp) ?_
 by_cases g13:185≤c∧c≤191
 ·have hr:=cls_of (c:=c) (lo:=185) (hi:=191) (k:=11) (s:=3) (by decide) g13.1 g13.2
  simp -dsimp [g13.1,g13.2,hr]
 have e13:(decide ((185:Int)≤c) && decide (c≤191))=false:=by simpa using g13
 simp -dsimp [e13]
 refine call_p (b111 c 192 199) (by simp) (by simp) ?_
 by_cases g14:192≤c∧c≤199
 ·have hr:=cls_of (c:=c) (lo:=192) (hi:=199) (k:=12) (s:=3) (by decide) g14.1 g14.2
  simp -dsimp [g14.1,g14.2,hr]
 have e14:(decide ((192:Int)≤c) && decide (c≤199))=false:=by simpa using g14
 by_cases g15:c=240
 ·subst g15
  have hr:clsN 240=13:=rfl
  simp -dsimp [hr]
 by_cases g16:c=241
 ·subst g16
  have hr:clsN 241=14:=rfl
  simp -dsimp [hr]
 have hr:clsN c=0:=by
  have:kindN c=(0,0):=kindN_none fun y hy=>by
   simp only [blkL,List.mem_cons,List.not_mem_nil,or_false] at hy
   unfold inB
   rw [Bool.and_eq_false_iff,decide_eq_false_iff_not,decide_eq_false_iff_not]
   rcases hy with rfl | rfl | rfl | rfl | rfl | rfl | rfl | rfl | rfl | rfl | rfl | rfl | rfl | rfl | rfl | rfl
   all_goals (dsimp only;omega)
  unfold clsN;rw [this]
 simp -dsimp [e14,g15,g16,hr]
end
section
set_option maxHeartbeats 4000000
attribute [local simp] ba_size wb ba_at w1 w6
attribute [local simp ↓] oneN oneI oneSp
theorem b110 (c:Int):Best Tryz.prog 110 [.int .i64 c] (.p (.bool (extN c))):=by
 refine best mixed fn110 ok110 (by simp) ?_
 simp -dsimp [ac110]
 refine call_p (b69 c) (by simp) (by simp) ?_
 unfold extN
 generalize clsN c=k
 by_cases h1:k=6
 ·simp -dsimp [h1]
 by_cases h2:k=10
 ·simp -dsimp [h2]
 by_cases h3:k=11
 ·simp -dsimp [h3]
 by_cases h4:k=12
 ·simp -dsimp [h4]
 by_cases h5:k=13
 ·simp -dsimp [h5]
 by_cases h6:k=14
 ·simp -dsimp [h6]
 ·simp -dsimp [h1,h2,h3,h4,h5,h6]
theorem b109 (t:List UInt8) (i:Nat) (h:i<t.length):Best Tryz.prog 109 [.str (ba t),.int .i64 i] (.p (.int .i64 (clsT t i))):=by
 refine best mixed fn109 ok109 (by simp) ?_
 simp -dsimp [ac109,ba_get h]
 refine call_p (b69 (cT t i)) (by simp [cT]) (by simp) ?_
 simp -dsimp [clsT]
theorem b68 (t:List UInt8) (i f:Nat) (h:i<t.length) (hf:f≤i) (hl:t.length≤1000000):Best Tryz.prog 68 [.str (ba t),.int .i64 i,.int .i64 ((i:Int) - f)] (.p (.bool (begT t i f))):=by
 refine best mixed fn68 ok68 (by simp) ?_
 have hget:=ba_get h
 by_cases h0:i=0
 ·subst h0
  have hb:begT t 0 f=true:=by simp [begT]
  simp -dsimp [ac68,hb]
 have h0':¬(i:Int)=0:=by omega
 by_cases h6:(i:Int) - f=6
 ·have hb:begT t i f=true:=by simp [begT,h6]
  simp -dsimp [ac68,h0,h0',h6,hb]
 obtain ⟨m,em⟩:∃ m:Nat,(i:Int) - 1=m:=⟨i - 1,by omega⟩
 have em':i - 1=m:=by omega
 have wm:R (m:Int):=⟨by omega,by omega⟩
 have q1:=b109 t m (by omega)
 have q2:=b109 t i h
 have q3:=b110 (cT t i)
 simp -dsimp [ac68,h0,h0',h6,em,wr wm]
 refine call_p q1 (by simp) (by simp) ?_
 by_cases h1:clsT t m=1
 ·have hb:begT t i f=true:=by simp [begT,em',h1]
  simp -dsimp [h1,hb]
 simp -dsimp [h1,h]
 refine call_p q3 (by simp [cT]) (by simp) ?_
 by_cases h2:extN (cT t i)=true
 ·have hb:begT t i f=false:=by simp [begT,em',h0,h1,h2,h6]
  simp -dsimp [h2,hb]
 have h2':extN (cT t i)=false:=by simpa using h2
 simp -dsimp [h2']
 refine call_p q2 (by simp) (by simp) ?_
 by_cases h3:clsT t i=9
 ·simp -dsimp [h3,em,wr wm]
  refine call_p q1 (by simp) (by simp) ?_
  by_cases h4:clsT t m=10
  ·have hb:begT t i f=false:=by simp [begT,em',h0,h1,h2',h3,h4,h6]
   simp -dsimp [h4,hb]
  ·have hb:begT t i f=true:=by simp [begT,em',h1,h2',h3,h4]
   simp -dsimp [h4,hb]
 ·have hb:begT t i f=true:=by simp [begT,em',h1,h2',h3]
  simp -dsimp [h3,hb]
def clT (t:List UInt8) (i:Nat):List (Nat×Nat):=spQ (stT t i).1 ((stT t i).1.length - 1) (stT t i).2
theorem spQ_ext {L L':List Nat} {k n n':Nat} (h:∀ j,j<k→L.getD j 0=L'.getD j 0) (hn:0<k→n=n'):spQ L k n=spQ L' k n':=by
 unfold spQ
 refine List.map_congr_left fun j hj=>?_
 have hj:j<k:=by simpa using hj
 rw [h j hj]
 by_cases h2:j+1<k
 ·rw [if_pos h2,if_pos h2,h (j+1) h2]
 ·rw [if_neg h2,if_neg h2,hn (by omega)]
theorem stT_last (t:List UInt8) {i:Nat} (h:0<i):0<(stT t i).1.length∧(stT t i).1.getD ((stT t i).1.length - 1) 0=(stT t i).2:=by
 have:=(stT_inv t i).2.1 h
 rw [List.getLast?_eq_getElem?] at this
 have hl:=(List.getElem?_eq_some_iff.1 this).1
 exact ⟨by omega,by rw [List.getD_eq_getElem?_getD,this];rfl⟩
theorem spQ_snoc {L:List Nat} {k n:Nat}:spQ L (k+1) n=(spQ L k (L.getD k 0))++[(L.getD k 0,n)]:=by
 unfold spQ
 rw [List.range_succ,List.map_append]
 congr 1
 ·refine List.map_congr_left fun j hj=>?_
  have hj:j<k:=by simpa using hj
  rw [if_pos (by omega)]
  by_cases h2:j+1<k
  ·rw [if_pos h2]
  ·rw [if_neg h2,show j+1=k by omega]
 ·simp
theorem clT_yes {t:List UInt8} {i:Nat} (h:0<i) (hs:stT t (i+1)=((stT t i).1++[i],i)):clT t (i+1)=clT t i++[((stT t i).2,i)]:=by
 obtain ⟨h1,h2⟩:=stT_last t h
 unfold clT
 rw [hs]
 dsimp only
 clear hs
 generalize (stT t i).1=L at *
 generalize (stT t i).2=f at *
 obtain ⟨k,ek⟩:∃ k,L.length=k+1:=⟨L.length - 1,by omega⟩
 rw [List.length_append,ek]
 simp only [List.length_singleton,Nat.add_sub_cancel]
 rw [ek,Nat.add_sub_cancel] at h2
 rw [spQ_snoc]
 have hg:∀ j,j<k+1→(L++[i]).getD j 0=L.getD j 0:=fun j hj=>by
  rw [List.getD_eq_getElem?_getD,List.getD_eq_getElem?_getD,List.getElem?_append_left (by omega)]
 rw [hg k (by omega),h2]
 congr 1
 exact spQ_ext (fun j hj=>hg j (by omega)) (fun _=>rfl)
theorem clT_end {t:List UInt8} (h:0<t.length):splT t=clT t t.length++[((stT t t.length).2,t.length)]:=by
 obtain ⟨h1,h2⟩:=stT_last t h
 unfold splT clT
 obtain ⟨k,ek⟩:∃ k,(stT t t.length).1.length=k+1:=⟨(stT t t.length).1.length - 1,by omega⟩
 rw [ek,Nat.add_sub_cancel] at h2
 rw [ek,Nat.add_sub_cancel,spQ_snoc,h2]
theorem clT_len (t:List UInt8) (i:Nat):(clT t i).length≤i:=by
 have:=stT_len t i
 simp [clT];omega
theorem b33 (t:List UInt8) (hl:t.length≤1000000):Best Tryz.prog 33 [.str (ba t)] (.p (.sl 2 ((splT t).map spRow))):=by
 refine best mixed fn33 ok33 (by simp) ?_
 simp -dsimp [ac33,↓ awpC_of xc33b]
 refine loopC t.length (fun k=>⟨[(0,.p (.str (ba t))),(3,.ref (28,0) 2 0 (clT t k).length),(4,.p (.int .i64 (stT t k).2)),(5,.p (.int .i64 k))],[((28,0),.sl 66 2 ((clT t k).map spRow))]⟩) (fun _=>True) (fun k hk _=>?_) trivial (by simp [stT,clT,spQ])
 have hcl:=clT_len t k
 have hle:=stT_le t k
 by_cases h:k<t.length
 ·have wk:R ((k:Int)+1):=⟨by omega,by omega⟩
  have wf:R ((k:Int) - (stT t k).2):=⟨by omega,by omega⟩
  have q:=b68 t k (stT t k).2 h hle hl
  simp -dsimp [h,wr wf,↓ awpC_of xc33b]
  refine call_p q (by simp) (by simp) ?_
  cases hb:begT t k (stT t k).2 with
  | false=>
   have hs:stT t (k+1)=stT t k:=by simp [stT,hb]
   have hc:clT t (k+1)=clT t k:=by unfold clT;rw [hs]
   have ht:List.take (clT t k).length ((clT t k).map spRow)=(clT t k).map spRow:=List.take_of_length_le (by simp)
   simp -dsimp [h,wr wk,hs,hc,ht]
  | true=>
   have hs:stT t (k+1)=((stT t k).1++[k],k):=by simp only [stT,hb,if_true]
   by_cases h0:0<k
   ·have hc:=clT_yes h0 hs
    have h0':(0:Int)<k:=by omega
    obtain ⟨C,eC⟩:∃ C,clT t k=C:=⟨_,rfl⟩
    obtain ⟨f,ef⟩:∃ f,(stT t k).2=f:=⟨_,rfl⟩
    rw [eC,ef] at hc
    rw [eC] at hcl
    have m1:C.length+1≤maxLen:=by unfold maxLen;omega
    have e1:(C.length+1)*16≤140737488355328:=by omega
    have ht:List.take (C.length+1) (C.map spRow++[[.int .i64 (f:Int),.int .i64 (k:Int)]])=C.map spRow++[[.int .i64 (f:Int),.int .i64 (k:Int)]]:=List.take_of_length_le (by simp)
    simp -dsimp [h,h0,h0',eC,ef,m1,e1,wr wk,hs,hc,ht,List.range,List.range.loop,-List.all_eq_true]
    rfl
   ·have:k=0:=by omega
    subst this
    have hc:clT t (0+1)=[]:=by unfold clT;rw [hs];simp [stT,spQ]
    have hc0:clT t 0=[]:=by simp [clT,stT,spQ]
    simp -dsimp [h,hs,hc,hc0]
 ·have:k=t.length:=by omega
  subst this
  simp -dsimp [h,↓ awpC_of xc33b]
  refine awpC_in ?_
  by_cases h0:0<t.length
  ·have h0':(0:Int)<t.length:=by omega
   rw [clT_end h0]
   obtain ⟨C,eC⟩:∃ C,clT t t.length=C:=⟨_,rfl⟩
   obtain ⟨f,ef⟩:∃ f,(stT t t.length).2=f:=⟨_,rfl⟩
   rw [eC] at hcl
   have m1:C.length+1≤maxLen:=by unfold maxLen;omega
   have e1:(C.length+1)*16≤140737488355328:=by omega
   have ht:List.take (C.length+1) (C.map spRow++[[.int .i64 (f:Int),.int .i64 (t.length:Int)]])=C.map spRow++[[.int .i64 (f:Int),.int .i64 (t.length:Int)]]:=List.take_of_length_le (by simp)
   simp -dsimp [xc33b,h0,h0',eC,ef,m1,e1,ht,List.range,List.range.loop,-List.all_eq_true,resOf]
   rfl
  ·have:t=[]:=List.length_eq_zero_iff.1 (by omega)
   subst this
   have hc0:clT [] 0=[]:=by simp [clT,stT,spQ]
   simp -dsimp [xc33b,hc0,resOf,splT,stT,spQ]
theorem b70 (t:List UInt8) (a b:Nat) (hab:a<b) (hb:b≤t.length) (hl:t.length≤1000000):Best Tryz.prog 70 [.str (ba t),.agg (spRow (a,b))] (.p (.int .i64 (baseT t a b))):=by
 refine best mixed fn70 ok70 (by simp [spRow]) ?_
 have n1:¬(a:Int)<0:=by omega
 have n2:¬(b:Int)≤a:=by omega
 have n3:¬(t.length:Int)<b:=by omega
 simp -dsimp [ac70,spRow,n1,n2,n3]
 refine loopC (b - a) (fun k=>⟨[(0,.p (.str (ba t))),(3,.ptr (3,0) 2 0 0),(5,.p (.int .i64 ((a+k:Nat):Int)))],[((3,0),.box [.p (.int .i64 a),.p (.int .i64 b)])]⟩) (fun k=>∀ j,a≤j→j<a+k→extN (cT t j)=true) (fun k hk hall=>?_) (by intro j h1 h2;omega) (by simp)
 obtain ⟨q,eq⟩:∃ q,a+k=q:=⟨_,rfl⟩
 rw [eq] at hall
 dsimp only
 rw [eq]
 by_cases h:q<b
 ·have h':(q:Int)<b:=by omega
  have hq:q<t.length:=by omega
  have wk:R ((q:Int)+1):=⟨by omega,by omega⟩
  simp -dsimp [h',h,hq]
  refine call_p (b110 (cT t q)) (by simp [cT]) (by simp) ?_
  cases e:extN (cT t q) with
  | false=>
   have hr:=baseT_at (a:=a) (b:=b) (by omega) h e hall
   simp -dsimp [hr]
   try omega
  | true=>
   simp -dsimp [wr wk]
   refine ⟨by omega,fun j h1 h2=>?_,by omega⟩
   by_cases hj:j=q
   ·rw [hj];exact e
   ·exact hall j h1 (by omega)
 ·have h':¬(q:Int)<b:=by omega
  have hr:=baseT_none (t:=t) (a:=a) (b:=b) fun j h1 h2=>hall j h1 (by omega)
  simp -dsimp [h',h,hr]
theorem b34 (t:List UInt8) (a b:Nat) (hab:a<b) (hb:b≤t.length) (hl:t.length≤1000000) :
  Best Tryz.prog 34 [.str (ba t),.agg (spRow (a,b))] (.p (.int .i64 (clsT t (baseT t a b)))):=by
 refine best mixed fn34 ok34 (by simp [spRow]) ?_
 have hbs:=baseT_le (t:=t) hab
 have hbl:baseT t a b<t.length:=by omega
 simp -dsimp [ac34,spRow]
 refine call_p (b70 t a b hab hb hl) (by simp [spRow]) (by simp) ?_
 simp -dsimp [hbl]
 refine call_p (b69 (cT t (baseT t a b))) (by simp [cT]) (by simp) ?_
 simp -dsimp [clsT]
end
section
def ac72:AC:=by
 apply fun (y:AC) (_:@Eq AC (let e0:=[0,3,5,6,7];(qk [0,1] (qs (qr [(qp 3 (.box (.v 1))),(qp 4 (.mov (.c .nsl)))]) (qk [0,3] (qs (qs (qr [(qp 9 (qf 0 3)),(yk 10 9 [0]),(yc 11 .lss 10 (qz 0) [1]),(yn 12 11 [2]),(qg 13 (qf 0 3) 12 false [3]),(qg 14 (ql 13) 12 false [4,3]),(qg 15 (qf 1 3) 12 false [3]),(qg 16 (ql 15) 12 false [6,3]),(qg 17 (qb .geq 14 16) 12 false [5,7,3]),(qi 18 (.pick (.v 12) (.c (.bool true)) (.v 17)) [3,8]),(yn 19 18 [9,3]),(qg 20 (qf 1 3) 19 false [10]),(qg 21 (ql 20) 19 false [11,10]),(qg 22 (qm 0) 19 false [10]),(qg 23 (.len true (.v 22)) 19 false [13,10]),(qg 24 (qb .gtr 21 23) 19 false [12,14,10]),(qi 25 (.pick (.v 19) (.c (.bool true)) (.v 24)) [10,15])]) (qk [0,3,25] (qq (.v 25) (qs (qr [(qp 4 (.mov (.c .nsl)))]) (qk [4] .ret)) .skip))) (qk [0,3] (qs (qr [(qp 5 (.mov (.c .nsl))),(qi 6 (.mov (.c .nsl)) [0])]) (.ghost (.own 6 56 3 1) (.ghost (.own 5 45 3 1) (qk [0,3,5,6] (qs (qs (qr [(qp 26 (qf 0 3)),(yk 27 26 [0]),(yn 7 27 [1,0,1])]) (qk e0 (.block 0 (.loop (qk e0 (qs (qs (qr [(ym 28 7),(qp 29 (qf 1 3)),(yk 30 29 [1]),(yb 31 .lss 28 30 [0,2])]) (qk [0,3,5,6,7,31] (qq (.v 31) .skip (.exit 0)))) (qk e0 (qs (.block 1 (qs (qr [(ym 34 0),(ym 35 7),(qi 36 (.idxS (.v 34) (.v 35)) [0,1]),(qi 37 (.conv .i64 (.v 36)) [2]),(qi 38 (.call 69 [.v 37]) [3]),(yn 8 38 [4,4,0,1,2,3,4])]) (qk [0,3,5,6,7,8] (.block 2 (qs (qr [(ym 40 8),(yc 41 .eql 40 (qz 12) [0]),(yn 39 41 [1])]) (qk [0,3,5,6,7,8,39] (qq (.v 39) (qr [(ym 42 5),(ym 43 7),(qi 44 (.bslice 3 1 1 [.int .i64 0] [(0,1,.v 43)]) [1]),(qi 45 (.app 3 1 8 (.v 42) (.v 44)) [0,2]),(yn 5 45 [3,3,0,1,2,3])]) (qs (qr [(ym 47 8),(yc 48 .neq 47 (qz 13) [0]),(yn 49 48 [1]),(qg 50 (qm 8) 49 true [2]),(qg 51 (qc .neq 50 (qz 14)) 49 true [3,2]),(qi 52 (.pick (.v 49) (.v 51) (.c (.bool false))) [2,4]),(yn 46 52 [5,2])]) (qk [0,3,5,6,7,46] (qq (.v 46) (qr [(ym 53 6),(ym 54 7),(qi 55 (.bslice 3 1 1 [.int .i64 0] [(0,1,.v 54)]) [1]),(qi 56 (.app 3 1 8 (.v 53) (.v 55)) [0,2]),(yn 6 56 [3,3,0,1,2,3])]) .skip)))))))))) (qk e0 (.ghost (.canV 6 (56,0)) (.ghost (.canV 5 (45,0)) (qr [(ym 32 7),(yc 33 .add 32 (qz 1) [0]),(yn 7 33 [1,0,1])])))))))))))) (qk [5,6] (qs (qr [(ym 57 5),(ym 58 6),(qi 59 (.app 3 1 8 (.v 57) (.v 58)) [0,1]),(yn 4 59 [2,2,0,1,2])]) (qk [4] .ret)))))))))))))) y)=>y
 dsimp
theorem fn72:factOf Tryz.prog 72=some (ac72.strip,[.tmp 4],60):=by kernel_rfl
theorem ok72:ac72.okAll=true:=by kernel_rfl
def ac35:AC:=by
 apply fun (y:AC) (_:@Eq AC (let e0:=[0,5,6,7];(qk [0,1] (qs (qr [(qp 3 (.box (.v 1))),(qp 4 (.mov (.c .nsl)))]) (qk [0,3] (qs (qr [(ym 8 0),(qp 9 (qt 2 3)),(qi 10 (.call 72 [.v 8,.v 9]) [0,1]),(qi 11 (.call 71 [.v 10]) [2,2]),(yn 5 11 [3,3,0,1,2,3])]) (qk [0,5] (qs (qr [(qp 6 (.mov (.c .nsl)))]) (.ghost (.own 6 27 3 1) (qk [0,5,6] (qs (qs (qr [(qp 7 (.mov (qz 0)))]) (qk e0 (.block 0 (.loop (qk e0 (qs (qs (qr [(ym 12 7),(ym 13 5),(yh 14 13 [1]),(yb 15 .lss 12 14 [0,2])]) (qk [0,5,6,7,15] (qq (.v 15) .skip (.exit 0)))) (qk e0 (qs (.block 1 (qr [(ym 18 6),(ym 19 0),(ym 20 5),(ym 21 7),(yj 22 1 20 21 [2,3]),(yk 23 22 [4]),(qi 24 (.idxS (.v 19) (.v 23)) [1,5]),(qi 25 (.conv .i64 (.v 24)) [6]),(qi 26 (.bslice 3 1 1 [.int .i64 0] [(0,1,.v 25)]) [7]),(qi 27 (.app 3 1 8 (.v 18) (.v 26)) [0,8]),(yn 6 27 [9,9,0,1,2,3,4,5,6,7,8,9])])) (qk e0 (.ghost (.canV 6 (27,0)) (qr [(ym 16 7),(yc 17 .add 16 (qz 1) [0]),(yn 7 17 [1,0,1])]))))))))))) (qk [6] (qs (qr [(ym 28 6),(yn 4 28 [0,0])]) (qk [4] .ret))))))))))))) y)=>y
 dsimp
theorem fn35:factOf Tryz.prog 35=some (ac35.strip,[.tmp 4],29):=by kernel_rfl
theorem ok35:ac35.okAll=true:=by kernel_rfl
def xc14c:AC:=by
 apply fun (y:AC) (_:@Eq AC (qr [(ym 51 6),(ym 52 8),(qi 53 (.bslice 3 1 1 [.int .i64 0] [(0,1,.v 52)]) [1]),(qi 54 (.app 3 1 8 (.v 51) (.v 53)) [0,2]),(yn 6 54 [3,3,0,1,2,3])]) y)=>y
 dsimp
def xc14b:AC:=by
 apply fun (y:AC) (_:@Eq AC (let e0:=[0,1,5,6,7,8,9,10,11];(qs (qs (qr [(ym 33 0),(yh 34 33 [0]),(yc 35 .sub 34 (qz 1) [1]),(yn 11 35 [2,0,1,2])]) (qk e0 (.block 2 (.loop (qk e0 (qs (qs (qr [(ym 36 11),(yc 37 .geq 36 (qz 0) [0]),(yn 38 37 [1]),(qg 39 (qm 9) 38 true [2]),(qg 40 (.un .not (.v 39)) 38 true [3,2]),(qi 41 (.pick (.v 38) (.v 40) (.c (.bool false))) [2,4])]) (qk [0,1,5,6,7,8,9,10,11,41] (qq (.v 41) .skip (.exit 2)))) (qk e0 (qs (.block 3 (qs (qr [(ym 44 0),(ym 45 11),(yj 46 9 44 45 [0,1]),(qi 47 (qt 9 46) [2]),(ym 48 10),(qi 49 (.call 36 [.v 47,.v 48]) [3,4])]) (qk [0,1,5,6,7,8,9,10,11,49] (qq (.v 49) (qr [(ym 50 11),(yn 8 50 [0,0])]) .skip)))) (qk e0 (qr [(ym 42 11),(yc 43 .sub 42 (qz 1) [0]),(yn 11 43 [1,0,1])])))))))))) (qk [0,1,5,6,7,8] xc14c))) y)=>y
 dsimp
def ac14:AC:=by
 apply fun (y:AC) (_:@Eq AC (let e0:=[0,1,5,6,7];(qk [0,1] (qs (qr [(qp 4 (.mov (.c .nsl)))]) (qk [0,1] (qs (qr [(ym 12 1),(qi 13 (.call 33 [.v 12]) [0]),(yn 5 13 [1,1,0,1])]) (qk [0,1,5] (qs (qr [(qp 6 (.mov (.c .nsl)))]) (.ghost (.own 6 54 3 1) (qk [0,1,5,6] (qs (qs (qr [(qp 7 (.mov (qz 0)))]) (qk e0 (.block 0 (.loop (qk e0 (qs (qs (qr [(ym 14 7),(ym 15 5),(yh 16 15 [1]),(yb 17 .lss 14 16 [0,2])]) (qk [0,1,5,6,7,17] (qq (.v 17) .skip (.exit 0)))) (qk e0 (qs (.block 1 (qs (qr [(qp 8 (.mov (qz (-1))))]) (qk [0,1,5,6,7,8] (qs (qr [(ym 20 1),(ym 21 5),(ym 22 7),(yj 23 2 21 22 [1,2]),(qi 24 (qt 2 23) [3]),(qi 25 (.call 34 [.v 20,.v 24]) [0,4]),(yc 26 .eql 25 (qz 1) [5]),(yn 9 26 [6,5,0,1,2,3,4,5,6])]) (qk [0,1,5,6,7,8,9] (qs (qr [(ym 27 1),(ym 28 5),(ym 29 7),(yj 30 2 28 29 [1,2]),(qi 31 (qt 2 30) [3]),(qi 32 (.call 35 [.v 27,.v 31]) [0,4]),(yn 10 32 [5,5,0,1,2,3,4,5])]) (qk [0,1,5,6,7,8,9,10] xc14b))))))) (qk e0 (.ghost (.canV 6 (54,0)) (qr [(ym 18 7),(yc 19 .add 18 (qz 1) [0]),(yn 7 19 [1,0,1])]))))))))))) (qk [6] (qs (qr [(ym 55 6),(yn 4 55 [0,0])]) (qk [4] .ret))))))))))))) y)=>y
 dsimp
theorem fn14:factOf Tryz.prog 14=some (ac14.strip,[.tmp 4],56):=by kernel_rfl
theorem ok14:ac14.okAll=true:=by kernel_rfl
end
section
set_option maxHeartbeats 4000000
attribute [local simp] ba_size wb ba_at w1 w6
attribute [local simp ↓] oneN oneI oneSp
theorem withL_mem {l:List Int} {n x:Int} (hs:l.Pairwise (·<·)):x∈withL l n↔x∈l∨x=n:=by
 unfold withL
 split
 ·rename_i h
  have:=List.mem_of_getElem? h
  constructor
  ·exact .inl
  ·rintro (h | rfl)
   ·exact h
   ·exact this
 ·have:x∈l↔x∈l.take (posL l n)∨x∈l.drop (posL l n):=by
   rw [←List.mem_append,List.take_append_drop]
  simp only [List.mem_append,List.mem_cons,this]
  grind
theorem withL_sorted {l:List Int} {n:Int} (hs:l.Pairwise (·<·)):(withL l n).Pairwise (·<·):=by
 unfold withL
 split
 ·exact hs
 ·rename_i hne
  have hlt:∀ a∈l.take (posL l n),a<n:=fun a ha=>by
   obtain ⟨k,hk,rfl⟩:=List.mem_take_iff_getElem.1 ha
   have:=twN_get (fun x=>decide (x<n)) l k l[k] (by unfold posL at hk;omega) (by simp)
   simpa using this
  have hgt:∀ b∈l.drop (posL l n),n<b:=fun b hb=>by
   obtain ⟨k,hk,rfl⟩:=List.mem_drop_iff_getElem.1 hb
   have hp:posL l n<l.length:=by omega
   have h1:=twN_end (fun x=>decide (x<n)) l l[posL l n] (by show l[posL l n]?=_;simp [hp])
   have h2:l[posL l n]≠n:=fun e=>hne (by simp [hp,e])
   simp at h1
   rcases Nat.eq_zero_or_pos k with h0 | h0
   ·subst h0;simp;omega
   ·have:=List.pairwise_iff_getElem.1 hs (posL l n) (posL l n+k) hp (by omega) (by omega)
    omega
  rw [List.pairwise_append,List.pairwise_cons]
  refine ⟨hs.sublist (List.take_sublist _ _),⟨hgt,hs.sublist (List.drop_sublist _ _)⟩,fun a ha b hb=>?_⟩
  have h1:=hlt a ha
  rcases List.mem_cons.1 hb with rfl | hb
  ·exact h1
  ·have:=hgt b hb;omega
theorem foldW (l:List Int):∀ m:List Int,m.Pairwise (·<·)→(l.foldl withL m).Pairwise (·<·)∧∀ x,x∈l.foldl withL m↔x∈m∨x∈l:=by
 induction l with
 | nil=>intro m h;exact ⟨h,fun x=>by simp⟩
 | cons a l ih=>
  intro m h
  obtain ⟨h1,h2⟩:=ih (withL m a) (withL_sorted h)
  refine ⟨h1,fun x=>?_⟩
  rw [List.foldl_cons,h2,withL_mem h,List.mem_cons]
  grind
theorem sorted_ext {l m:List Int} (hl:l.Pairwise (·<·)) (hm:m.Pairwise (·<·)) (h:∀ x,x∈l↔x∈m):l=m:=by
 have hp:l.Perm m:=(List.perm_ext_iff_of_nodup (hl.imp fun h=>by omega) (hm.imp fun h=>by omega)).2 h
 exact List.Perm.eq_of_pairwise (le:=(·<·)) (fun a b _ _ h1 h2=>by omega) hl hm hp
def natI (i:Nat):Int:=i
theorem norm_vis (t:List UInt8) (a b:Nat):normL ((ordT t a b).map natI)=(visT t a b).map natI:=by
 obtain ⟨h1,h2⟩:=foldW ((ordT t a b).map natI) [] List.Pairwise.nil
 refine sorted_ext h1 ?_ fun x=>?_
 ·rw [List.pairwise_map]
  exact List.Pairwise.imp (fun h=>by unfold natI;omega) (List.Pairwise.filter _ List.pairwise_lt_range')
 ·show x∈List.foldl withL [] _↔_
  rw [h2,List.mem_map,List.mem_map]
  simp only [List.not_mem_nil,false_or,(vis_perm t a b).mem_iff]
theorem natRow_I (l:List Nat):l.map natRow=(l.map natI).map intRow:=by rw [List.map_map];rfl
theorem b72 (t:List UInt8) (a b:Nat) (hab:a<b) (hb:b≤t.length) (hl:t.length≤1000000) :
  Best Tryz.prog 72 [.str (ba t),.agg (spRow (a,b))] (.p (.sl 1 ((ordT t a b).map natRow))):=by
 refine best mixed fn72 ok72 (by simp [spRow]) ?_
 have n1:¬(a:Int)<0:=by omega
 have n2:¬(b:Int)≤a:=by omega
 have n3:¬(t.length:Int)<b:=by omega
 simp -dsimp [ac72,spRow,n1,n2,n3]
 refine loopC (b - a) (fun k=>⟨[(0,.p (.str (ba t))),(3,.ptr (3,0) 2 0 0),(5,.ref (45,0) 1 0 (plT t true [12] a (a+k)).length),(6,.ref (56,0) 1 0 (plT t false [12,13,14] a (a+k)).length),(7,.p (.int .i64 ((a+k:Nat):Int)))],[((3,0),.box [.p (.int .i64 a),.p (.int .i64 b)]),((45,0),.sl 3 1 ((plT t true [12] a (a+k)).map natRow)),((56,0),.sl 3 1 ((plT t false [12,13,14] a (a+k)).map natRow))]⟩) (fun _=>True) (fun k hk _=>?_) trivial (by simp [plT])
 obtain ⟨q,eq⟩:∃ q,a+k=q:=⟨_,rfl⟩
 have hs1:=plT_succ (t:=t) (has:=true) (cs:=[12]) (a:=a) (k:=k)
 have hs2:=plT_succ (t:=t) (has:=false) (cs:=[12,13,14]) (a:=a) (k:=k)
 have hp1:=plT_len (t:=t) (has:=true) (cs:=[12]) (a:=a) (b:=a+k)
 have hp2:=plT_len (t:=t) (has:=false) (cs:=[12,13,14]) (a:=a) (b:=a+k)
 have e1:a+(k+1)=q+1:=by omega
 rw [e1] at hs1 hs2
 dsimp only
 rw [e1]
 rw [eq] at hs1 hs2 hp1 hp2 ⊢
 by_cases h:q<b
 ·have h':(q:Int)<b:=by omega
  have hq:q<t.length:=by omega
  have wk:R ((q:Int)+1):=⟨by omega,by omega⟩
  obtain ⟨L,eL⟩:∃ L,plT t true [12] a q=L:=⟨_,rfl⟩
  obtain ⟨M,eM⟩:∃ M,plT t false [12,13,14] a q=M:=⟨_,rfl⟩
  rw [eL] at hs1 hp1 ⊢
  rw [eM] at hs2 hp2 ⊢
  have m1:L.length+1≤maxLen:=by unfold maxLen;omega
  have m2:(L.length+1)*8≤140737488355328:=by omega
  have m3:M.length+1≤maxLen:=by unfold maxLen;omega
  have m4:(M.length+1)*8≤140737488355328:=by omega
  have t1:List.take (L.length+1) (L.map natRow++[[.int .i64 (q:Int)]])=L.map natRow++[[.int .i64 (q:Int)]]:=List.take_of_length_le (by simp)
  have t2:List.take (M.length+1) (M.map natRow++[[.int .i64 (q:Int)]])=M.map natRow++[[.int .i64 (q:Int)]]:=List.take_of_length_le (by simp)
  have t3:List.take L.length (L.map natRow)=L.map natRow:=List.take_of_length_le (by simp)
  have t4:List.take M.length (M.map natRow)=M.map natRow:=List.take_of_length_le (by simp)
  rw [hs1,hs2]
  unfold plP
  simp -dsimp [h',h,hq]
  refine call_p (b69 (cT t q)) (by simp [cT]) (by simp) ?_
  have ec:clsN (cT t q)=clsT t q:=rfl
  rw [ec]
  generalize clsT t q=c
  by_cases c12:c=12
  ·simp -dsimp [c12,m1,m2,t1,t4,wr wk,List.range,List.range.loop,-List.all_eq_true]
   exact ⟨by omega,rfl⟩
  ·by_cases c13:c=13
   ·simp -dsimp [c13,t3,t4,wr wk,List.range,List.range.loop,-List.all_eq_true]
    omega
   ·by_cases c14:c=14
    ·simp -dsimp [c14,t3,t4,wr wk,List.range,List.range.loop,-List.all_eq_true]
     omega
    ·simp -dsimp [c12,c13,c14,m3,m4,t2,t3,wr wk,List.range,List.range.loop,-List.all_eq_true]
     exact ⟨by omega,rfl⟩
 ·have h':¬(q:Int)<b:=by omega
  have:q=b:=by omega
  subst this
  have m1:(plT t true [12] a q).length+(plT t false [12,13,14] a q).length≤maxLen:=by unfold maxLen;omega
  have m2:((plT t true [12] a q).length+(plT t false [12,13,14] a q).length)*8≤140737488355328:=by omega
  have t4:List.take (plT t false [12,13,14] a q).length ((plT t false [12,13,14] a q).map natRow)=(plT t false [12,13,14] a q).map natRow:=List.take_of_length_le (by simp)
  simp -dsimp [h',m1,m2,t4,resOf,ordT,-List.all_eq_true]
  exact List.take_of_length_le (by simp)
theorem b35 (t:List UInt8) (a b:Nat) (hab:a<b) (hb:b≤t.length) (hl:t.length≤1000000) :
  Best Tryz.prog 35 [.str (ba t),.agg (spRow (a,b))] (.p (.sl 1 ((codesT t a b).map intRow))):=by
 refine best mixed fn35 ok35 (by simp [spRow]) ?_
 have hol:=ordT_len (t:=t) (a:=a) (b:=b)
 have q71:=b71 ((ordT t a b).map natI) (by simp;omega)
 rw [norm_vis,←natRow_I,←natRow_I] at q71
 obtain ⟨V,eV⟩:∃ V,visT t a b=V:=⟨_,rfl⟩
 have hm:∀ i∈V,i<t.length:=fun i hi=>by have:=visT_mem (eV ▸ hi);omega
 have hVl:V.length≤1000000:=by have:=visT_len (t:=t) (a:=a) (b:=b);rw [eV] at this;omega
 have hc:codesT t a b=V.map (cT t):=by unfold codesT;rw [eV]
 rw [eV] at q71
 rw [hc]
 simp -dsimp [ac35,spRow]
 refine call_p (b72 t a b hab hb hl) (by simp [spRow]) (by simp) ?_
 simp -dsimp
 refine call_p q71 (by simp) (by simp) ?_
 simp -dsimp
 refine loopC V.length (fun k=>⟨[(0,.p (.str (ba t))),(5,.p (.sl 1 (V.map natRow))),(6,.ref (27,0) 1 0 k),(7,.p (.int .i64 k))],[((27,0),.sl 3 1 (((V.take k).map (cT t)).map intRow))]⟩) (fun _=>True) (fun k hk _=>?_) trivial (by simp)
 by_cases h:k<V.length
 ·obtain ⟨i,ei⟩:∃ i,V[k]=i:=⟨_,rfl⟩
  have hi:i<t.length:=hm i (by rw [←ei];simp)
  have wk:R ((k:Int)+1):=⟨by omega,by omega⟩
  have m1:k+1≤maxLen:=by unfold maxLen;omega
  have e1:(k+1)*8≤140737488355328:=by omega
  have hs:((V.take (k+1)).map (cT t)).map intRow=((V.take k).map (cT t)).map intRow++[[.int .i64 (cT t i)]]:=by
   rw [List.take_add_one,List.getElem?_eq_getElem h,ei];simp [intRow]
  obtain ⟨L,eL⟩:∃ L,(V.take k).map (cT t)=L:=⟨_,rfl⟩
  rw [eL] at hs
  have hLl:L.length=k:=by rw [←eL];simp;omega
  have ht3:List.take (k+1) (L.map intRow++[[.int .i64 (cT t i)]])=L.map intRow++[[.int .i64 (cT t i)]]:=List.take_of_length_le (by simp;omega)
  rw [eL,hs]
  simp only [cT] at ht3 ⊢
  simp -dsimp [h,natRow,ei,hi,m1,e1,hLl,ht3,wr wk,List.range,List.range.loop,-List.all_eq_true]
 ·have:k=V.length:=by omega
  subst this
  rw [List.take_length]
  have ht4:List.take V.length (((V.map (cT t))).map intRow)=(V.map (cT t)).map intRow:=List.take_of_length_le (by simp)
  obtain ⟨L,eL⟩:∃ L,V.map (cT t)=L:=⟨_,rfl⟩
  rw [eL] at ht4 ⊢
  have hLl:L.length=V.length:=by rw [←eL];simp
  simp -dsimp [h,resOf,hLl,ht4]
  rw [←eL,List.map_map]
theorem b81 (c:Cor) (hc:c.ch.length≤1000) (code:Int):Best Tryz.prog 81 [.agg (corRow c),.int .i64 code] (.p (.tup [.agg (chRow ((findN c code).getD ch0)),.bool (hasN c code)])):=by
 refine best mixed fn81 ok81 (by simp [corRow]) ?_
 simp -dsimp [ac81,corRow]
 refine loopC c.ch.length (fun k=>⟨[(1,.p (.int .i64 code)),(2,.ptr (2,0) 9 0 0),(4,.ptr (4,0) 4 0 0),(6,.p (.int .i64 k))],[((2,0),.box ((corRow c).map .p)),((4,0),.box [.p (.int .i64 0),.p (.int .i64 0),.p (.int .i64 0),.p .nsl])]⟩) (fun k=>∀ y∈c.ch.take k,decide (y.code=code)=false) (fun k hk hall=>?_) (by simp) (by simp [corRow])
 by_cases h:k<c.ch.length
 ·obtain ⟨x,ex⟩:∃ x,c.ch[k]=x:=⟨_,rfl⟩
  have hx:c.ch[k]?=some x:=by simp [h,ex]
  have w:R ((k:Int)+1):=⟨by omega,by omega⟩
  by_cases hq:x.code=code
  ·have hf:findN c code=some x:=by
    unfold findN
    rw [List.find?_eq_some_iff_getElem]
    refine ⟨by simp [hq],k,h,ex,fun j hj=>?_⟩
    rw [hall _ (List.mem_take_iff_getElem.2 ⟨j,by omega,rfl⟩)];rfl
   simp -dsimp [corRow,h,ex,chRow,hq,hf,hasN]
  ·have go:=take_succ_all (p:=fun y:Ch=>decide (y.code=code)=false) hx hall (by simp [hq])
   simp -dsimp [corRow,h,ex,chRow,hq,wr w]
   simpa using go
 ·have:k=c.ch.length:=by omega
  subst this
  rw [List.take_length] at hall
  have hf:findN c code=none:=by unfold findN;rw [List.find?_eq_none];intro x hx;simp [hall x hx]
  simp -dsimp [corRow,h,chRow,hf,hasN,ch0]
theorem b73 (c:Cor) (hc:c.ch.length≤1000) (code:Int):Best Tryz.prog 73 [.agg (corRow c),.int .i64 code] (.p (.tup [.int .i64 (glyN c code),.bool (hasN c code)])):=by
 refine best mixed fn73 ok73 (by simp [corRow]) ?_
 simp -dsimp [ac73,corRow]
 refine call_p (b81 c hc code) (by simp [corRow]) (by simp) ?_
 simp -dsimp [chRow,glyN]
theorem b36 (c:Cor) (hc:c.ch.length≤1000) (codes:List Int) (hl:codes.length≤1000):Best Tryz.prog 36 [.agg (corRow c),.sl 1 (codes.map intRow)] (.p (.bool (allN codes c))):=by
 refine best mixed fn36 ok36 (by simp [corRow]) ?_
 simp -dsimp [ac36,corRow]
 refine loopC codes.length (fun k=>⟨[(1,.p (.sl 1 (codes.map intRow))),(2,.ptr (2,0) 9 0 0),(5,.p (.int .i64 k))],[((2,0),.box ((corRow c).map .p))]⟩) (fun k=>∀ y∈codes.take k,hasN c y=true) (fun k hk hall=>?_) (by simp) (by simp [corRow])
 by_cases h:k<codes.length
 ·obtain ⟨x,ex⟩:∃ x,codes[k]=x:=⟨_,rfl⟩
  have hx:codes[k]?=some x:=by simp [h,ex]
  have w:R ((k:Int)+1):=⟨by omega,by omega⟩
  simp -dsimp [corRow,h,ex,intRow]
  refine call_p (b73 c hc x) (by simp [corRow]) (by simp) ?_
  cases e:hasN c x with
  | false=>
   have hr:allN codes c=false:=by
    unfold allN
    rw [Bool.not_eq_false',List.any_eq_true]
    exact ⟨x,List.mem_of_getElem? hx,by simp [e]⟩
   simp -dsimp [corRow,hr]
  | true=>
   have go:=take_succ_all (p:=fun y=>hasN c y=true) hx hall e
   simp -dsimp [corRow,wr w,h]
   exact go
 ·have:k=codes.length:=by omega
  subst this
  rw [List.take_length] at hall
  have hr:allN codes c=true:=by
   unfold allN
   rw [Bool.not_eq_true',List.any_eq_false]
   intro x hx;simp [hall x hx]
  simp -dsimp [corRow,h,hr]
end
end Go.Abs.A29
