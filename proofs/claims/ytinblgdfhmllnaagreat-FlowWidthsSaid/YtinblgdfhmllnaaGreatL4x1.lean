/- Proved: the law FlowWidths returns true for every input, and its arguments read behind the call as they did; no condition beyond the given row. -/
import Derived.Test.YtinblgdfhmllnaaGreatC27
import Derived.Test.YtinblgdfhmllnaaGreatProg
set_option linter.unusedVariables false
set_option linter.unusedSimpArgs false
namespace Go.Abs.A29
open Go Go.Abs Go.Proofs
set_option maxRecDepth 100000
set_option linter.unusedVariables false
set_option linter.unusedSimpArgs false
attribute [local simp ↓] awp_skip awp_seq awp_cond awp_block awp_exit awp_ret awp_reg awp_draw awp_ghost awp_loop awp_rfun awpR_nil awpR_cons awpX_nil awpX_0 awpX_1 awpX_2 awpI_eq awpI_t awpI_f awpStep_eq
attribute [local simp] condL_true condL_false condL_dec evDel evV evN evS evA initFr Ghost.app Fr.var Fr.blk Fr.ff FF.val Abs.look Fr.app Fr.erase Fr.noSlot AV.noSlot AV.noSlotL Blk.noSlot Fr.spoken AV.fz AV.fzL Blk.fz binV binI shI binS unV fillA FF.parts FF.vals headO intO boundO lenV scalarEq leavesEq AV.aggc AV.cells FF.read FF.rows AV.one PV.one chunk freshB newS pickV retK evRs evRl evR resOf mkTup mkAgg allP cloOf okP_nil okX_p okX okP addN Del.noSlot Del.owners Rnd reify_p normM insM Fr.back Fr.backV Fr.setPs normV insV
attribute [local simp] renF Fr.trim Blk.trim AV.rn AV.rnL Blk.rn AV.among AV.amongL Blk.among okF retM fixS BIG initFF
attribute [local simp] FF.reify FF.reifyL PV.flat
attribute [local simp] ym yn yl yk yb yc yf yj yh qp qe qi qo qg qa qk qz qm ql qt qf qj qn qb qc qs qr qq qd
section
def ac3:AC:=by
 apply fun (y:AC) (_:@Eq AC (let e0:=[1,5,7,8,9,12];let e1:=[6,5,5,0,1,2,3,4,5,6];let e2:=[13];let e3:=[14];let e4:=[1,5,7,8,9];(qk [0,1,2] (qs (qr [(qp 3 (.box (.v 0))),(qp 5 (.box (.v 2))),(qp 6 (.mov (.c (.bool false))))]) (qk [1,3,5] (qs (qr [(qp 15 (.call 8 [])),(yn 7 15 [0,0,0])]) (qk [1,3,5,7] (qs (qr [(qp 17 (qt 9 3)),(qi 18 (.call 9 [.v 17]) [0]),(yn 16 18 [1]),(qi 19 (.ext (.v 16) 0) [2]),(qi 20 (.ext (.v 16) 1) [2]),(qi 21 (.ext (.v 16) 2) [2]),(qi 22 (.ext (.v 16) 3) [2]),(qp 10 (.alloc [.int .i64 0,.nsl,.int .i64 0])),(yn 8 19 [3,1,0,1,2,3,7]),(yn 9 20 [4,8,0,1,2,3,4,7,8]),(qo (.store 3 (.v 10) (.v 21)) [7,5,9,0,1,2,3,4,5,7,8,9]),(yn 11 22 [6,10,0,1,2,3,4,5,6,7,8,9,10])]) (qk e4 (qs (qr [(ym 23 1),(ym 24 1),(qi 25 (.len true (.v 24)) [1]),(qi 26 (.mm false (.v 25) (qz 60)) [2]),(qi 27 (.slcS (.v 23) none (some (.v 26))) [0,3]),(yn 1 27 [4,0,1,2,3,4])]) (qk e4 (qs (qr [(qp 28 (qf 1 5)),(yk 29 28 [0]),(qp 30 (qf 1 5)),(yk 31 30 [2]),(yh 32 31 [3]),(qi 33 (.mm false (.v 32) (qz 5)) [4]),(qi 34 (.slcV 1 (.v 29) none (some (.v 33))) [1,5]),(yf 35 1 5 [0,1,2,3,4,5,6]),(qo (.store 1 (.v 35) (.v 34)) [7,6,0,1,2,3,4,5,6])]) (qk e4 (qs (qs (qr [(qp 12 (.mov (qz 0)))]) (qk e0 (.block 0 (.loop (qk e0 (qs (qs (qr [(ym 36 12),(ym 37 8),(yh 38 37 [1]),(yb 39 .lss 36 38 [0,2])]) (qk [1,5,7,8,9,12,39] (qq (.v 39) .skip (.exit 0)))) (qk e0 (qs (.block 1 (qs (qd [(qa (ym 42 8) [13,43,46] e2 [] [] 2),(qa (ym 43 12) [13,42,46] e2 [] [0] 2),(qa (yj 44 9 42 43 [0,1]) [13,46] e2 [] [] 2),(qa (qi 45 (qt 9 44) [2]) [13,46] e2 [] [] 0),(qa (qp 46 (qt 3 5)) [13,42,43,44,45] e2 [] [0,1,2,3] 0),(qa (qi 47 (.call 10 [.v 45,.v 46]) [3,4]) e2 e2 [47] [] 0),(qa (qp 13 (.alloc [.int .i64 0,.nsl,.int .i64 0])) [42,43,44,45,46,47] [47] e2 [0,1,2,3,4,5] 0),(qa (qo (.store 3 (.v 13) (.v 47)) e1) [] [] e2 [] 1)]) (qk [1,5,7,8,9,12,13] (qs (qd [(qa (ym 48 8) [14,49,52] e3 [] [] 2),(qa (ym 49 12) [14,48,52] e3 [] [0] 2),(qa (yj 50 9 48 49 [0,1]) [14,52] e3 [] [] 2),(qa (qi 51 (qt 9 50) [2]) [14,52] e3 [] [] 0),(qa (qp 52 (qt 3 5)) [14,48,49,50,51] e3 [] [0,1,2,3] 0),(qa (qi 53 (.call 11 [.v 51,.v 52]) [3,4]) e3 e3 [53] [] 0),(qa (qp 14 (.alloc [.int .i64 0,.nsl,.int .i64 0])) [48,49,50,51,52,53] [53] e3 [0,1,2,3,4,5] 0),(qa (qo (.store 3 (.v 14) (.v 53)) e1) [] [] e3 [] 1)]) (qk [1,5,7,8,9,12,13,14] (qs (qr [(qp 54 (qf 0 13)),(yk 55 54 [0]),(qp 56 (qf 0 14)),(yk 57 56 [2]),(yb 58 .neq 55 57 [1,3]),(yn 59 58 [4]),(qg 60 (qf 2 13) 59 false [5]),(qg 61 (ql 60) 59 false [6,5]),(qg 62 (qf 2 14) 59 false [5]),(qg 63 (ql 62) 59 false [8,5]),(qg 64 (qb .neq 61 63) 59 false [7,9,5]),(qi 65 (.pick (.v 59) (.c (.bool true)) (.v 64)) [5,10]),(yn 66 65 [11,5]),(qg 67 (qf 1 13) 66 false [12]),(qg 68 (ql 67) 66 false [13,12]),(qg 69 (qf 1 14) 66 false [12]),(qg 70 (ql 69) 66 false [15,12]),(qg 71 (.call 12 [.v 68,.v 70]) 66 false [14,16,12,12]),(qg 72 (.un .not (.v 71)) 66 false [17,12]),(qi 73 (.pick (.v 66) (.c (.bool true)) (.v 72)) [12,18])]) (qk [1,5,7,8,9,12,73] (qq (.v 73) (qs (qr [(qp 6 (.mov (.c (.bool false))))]) (qk [6] .ret)) .skip)))))))) (qk e0 (qr [(ym 40 12),(yc 41 .add 40 (qz 1) [0]),(yn 12 41 [1,0,1])])))))))))) (qk [1,7,8,9] (qs (qr [(ym 74 7),(yn 75 74 [0]),(qg 76 (qm 8) 75 true [1]),(qg 77 (qm 9) 75 true [1]),(qg 78 (.call 13 [.v 76,.v 77]) 75 true [2,3,1,1]),(qg 79 (qm 8) 75 true [1]),(qg 80 (qm 9) 75 true [1]),(qg 81 (.call 14 [.v 79,.v 80]) 75 true [5,6,4,1]),(qg 82 (.call 12 [.v 78,.v 81]) 75 true [4,7,7,1]),(qi 83 (.pick (.v 75) (.v 82) (.c (.bool false))) [1,8]),(yn 84 83 [9,8]),(qg 85 (qm 8) 84 true [10]),(qg 86 (qm 1) 84 true [10]),(qg 87 (.call 13 [.v 85,.v 86]) 84 true [11,12,10,10]),(qg 88 (qm 8) 84 true [10]),(qg 89 (qm 1) 84 true [10]),(qg 90 (.call 14 [.v 88,.v 89]) 84 true [14,15,13,10]),(qg 91 (.call 12 [.v 87,.v 90]) 84 true [13,16,16,10]),(qi 92 (.pick (.v 84) (.v 91) (.c (.bool false))) [10,17]),(yn 6 92 [18,17,0,1,2,3,4,5,6,7,8,9,10,11,12,13,14,15,16,17,18])]) (qk [6] .ret)))))))))))))))) y)=>y
 dsimp
theorem fn3:factOf Tryz.prog 3=some (ac3.strip,[.tmp 6],93):=by kernel_rfl
theorem ok3:ac3.okAll=true:=by kernel_rfl
def ac4:AC:=by
 apply fun (y:AC) (_:@Eq AC (qk [0,1] (qs (qr [(qp 2 (.box (.v 0))),(qp 3 (.box (.v 1))),(qp 4 (.mov (.c (.bool false))))]) (qk [2,3] (qs (qr [(qp 10 (.call 8 [])),(yn 5 10 [0,0,0])]) (qk [2,3,5] (qs (qr [(qp 12 (qt 9 2)),(qi 13 (.call 9 [.v 12]) [0]),(yn 11 13 [1]),(qi 14 (.ext (.v 11) 0) [2]),(qi 15 (.ext (.v 11) 1) [2]),(qi 16 (.ext (.v 11) 2) [2]),(qi 17 (.ext (.v 11) 3) [2]),(qp 8 (.alloc [.int .i64 0,.nsl,.int .i64 0])),(yn 6 14 [3,1,0,1,2,3,7]),(yn 7 15 [4,8,0,1,2,3,4,7,8]),(qo (.store 3 (.v 8) (.v 16)) [7,5,9,0,1,2,3,4,5,7,8,9]),(yn 9 17 [6,10,0,1,2,3,4,5,6,7,8,9,10])]) (qk [3,5,6,7,8] (qs (qr [(qp 18 (qf 1 3)),(yk 19 18 [0]),(qp 20 (qf 1 3)),(yk 21 20 [2]),(yh 22 21 [3]),(qi 23 (.mm false (.v 22) (qz 5)) [4]),(qi 24 (.slcV 1 (.v 19) none (some (.v 23))) [1,5]),(yf 25 1 3 [0,1,2,3,4,5,6]),(qo (.store 1 (.v 25) (.v 24)) [7,6,0,1,2,3,4,5,6])]) (qk [3,5,6,7,8] (qs (qd [(qe (ym 26 5) [] [] 2),(qe (yn 27 26 [0]) [] [] 2),(qe (qg 28 (qm 6) 27 true [1]) [29,30,32,33,34] [] 2),(qe (qg 29 (qm 7) 27 true [1]) [28,30,32,33,34] [2] 2),(qe (qg 30 (qt 3 8) 27 true [1]) [28,29,32,33,34] [2,3] 2),(qa (qg 31 (.call 15 [.v 28,.v 29,.v 30]) 27 true [2,3,4,1,1]) [32,33,34] [] [31] [] 1),(qa (qg 32 (qm 6) 27 true [1]) [28,29,30,31,33,34] [31] [] [2,3,4,5] 2),(qa (qg 33 (qm 7) 27 true [1]) [28,29,30,31,32,34] [31] [] [2,3,4,5,6] 2),(qa (qg 34 (qt 3 8) 27 true [1]) [28,29,30,31,32,33] [31] [] [2,3,4,5,6,7] 0),(qa (qg 35 (.call 16 [.v 32,.v 33,.v 34]) 27 true [6,7,8,5,1]) [] [] [35] [] 1),(qa (qg 36 (.call 12 [.v 31,.v 35]) 27 true [5,9,9,1]) [] [] [36] [] 1),(qe (qi 37 (.pick (.v 27) (.v 36) (.c (.bool false))) [1,10]) [] [] 2),(qe (yn 38 37 [11,10]) [] [] 2),(qe (qg 39 (qm 6) 38 true [12]) [40,41,43,44,45] [] 2),(qe (qg 40 (qm 7) 38 true [12]) [39,41,43,44,45] [13] 2),(qe (qg 41 (qt 3 3) 38 true [12]) [39,40,43,44,45] [13,14] 2),(qa (qg 42 (.call 15 [.v 39,.v 40,.v 41]) 38 true [13,14,15,12,12]) [43,44,45] [] [42] [] 1),(qa (qg 43 (qm 6) 38 true [12]) [39,40,41,42,44,45] [42] [] [13,14,15,16] 2),(qa (qg 44 (qm 7) 38 true [12]) [39,40,41,42,43,45] [42] [] [13,14,15,16,17] 2),(qa (qg 45 (qt 3 3) 38 true [12]) [39,40,41,42,43,44] [42] [] [13,14,15,16,17,18] 0),(qa (qg 46 (.call 16 [.v 43,.v 44,.v 45]) 38 true [17,18,19,16,12]) [] [] [46] [] 1),(qa (qg 47 (.call 12 [.v 42,.v 46]) 38 true [16,20,20,12]) [] [] [47] [] 1),(qe (qi 48 (.pick (.v 38) (.v 47) (.c (.bool false))) [12,21]) [] [] 2),(qe (yn 4 48 [22,21,0,1,2,3,4,5,6,7,8,9,10,11,12,13,14,15,16,17,18,19,20,21,22]) [] [] 2)]) (qk [4] .ret))))))))))) y)=>y
 dsimp
theorem fn4:factOf Tryz.prog 4=some (ac4.strip,[.tmp 4],49):=by kernel_rfl
theorem ok4:ac4.okAll=true:=by kernel_rfl
end
section
attribute [local simp ↓] awp_scope awp_label
attribute [local simp] w1
set_option maxHeartbeats 400000
attribute [local simp] evC
attribute [local simp ↓] oneN oneI oneSp oneCor
theorem ba_ext (s:List UInt8) (k:Nat) (h:k≤s.length):(ba s).extract 0 k=ba (s.take k):=by
 apply ByteArray.ext
 simp [ba,ByteArray.data_extract]
theorem tkI (l:List Int) (n:Nat):List.take (min (l.length:Int) n).toNat (l.map intRow)=(l.take n).map intRow:=by
 rw [show (min (l.length:Int) n).toNat=min l.length n by omega,←List.map_take,←List.take_take,List.take_of_length_le (by simp only [List.length_take];omega)]
def Stg.cut (z:Stg):Stg:=⟨z.size,z.at_.take 5,z.feat⟩
theorem b4 (h8:Best Tryz.prog 8 [] (.p (.bool true))) (p:Pg) (hp:p.ok) (z:Stg) (hz:z.at_.length≤maxLen):Best Tryz.prog 4 [.agg (pgRow p),.agg (stgRow z)] (.p (.bool true)):=by
 refine best mixed fn4 ok4 (by simp [pgRow,stgRow]) ?_
 obtain ⟨cs,hl,hcs,q9⟩:=p.made hp
 have ht:=p.txt_len
 have ha:=p.at_len
 have q15:=b15 cs hcs p.txt (by omega) p.set (by omega)
 have q16:=b16 cs hcs p.txt (by omega) p.set (by omega)
 have hz5:z.cut.at_.length≤5:=by simp [Stg.cut];omega
 have q15':=b15 cs hcs p.txt (by omega) z.cut (by omega)
 have q16':=b16 cs hcs p.txt (by omega) z.cut (by omega)
 have hwl:∀ s,(widthsN cs p.txt s).length≤100000000:=fun s=>by
  have:=splT_len p.txt
  unfold widthsN;split
  ·simp;omega
  ·simp
 have q12:=fun s=>b12 (widthsN cs p.txt s) (widthsN cs p.txt s) (hwl s)
 generalize p.txt=T at *
 generalize p.set=S at *
 obtain ⟨size,at_,feat⟩:=z
 simp only [Stg.cut] at q15' q16' hz5
 have z1:(0:Int)≤min (at_.length:Int) 5:=by omega
 have z2:min (at_.length:Int) 5≤at_.length:=by omega
 have z3:List.take (min (at_.length:Int) 5).toNat (at_.map intRow)=(at_.take 5).map intRow:=tkI at_ 5
 simp -dsimp [ac4,pgRow,stgRow]
 refine call_p h8 (by simp) (by simp) ?_
 simp -dsimp
 refine call_p q9 (by simp [pgRow]) (by simp) ?_
 simp -dsimp [stgRow,z1,z2,z3]
 refine call_p q15 (by simp [stgRow]) (by simp) ?_
 simp -dsimp
 refine call_p q16 (by simp [stgRow]) (by simp) ?_
 simp -dsimp
 refine call_p (q12 S) (by simp) (by simp) ?_
 simp -dsimp
 refine call_p q15' (by simp [stgRow]) (by simp) ?_
 simp -dsimp
 refine call_p q16' (by simp [stgRow]) (by simp) ?_
 simp -dsimp
 refine call_p (q12 ⟨size,at_.take 5,feat⟩) (by simp) (by simp) ?_
 simp -dsimp [resOf]
theorem b3 (h8:Best Tryz.prog 8 [] (.p (.bool true))) (p:Pg) (hp:p.ok) (s:List UInt8) (hs:s.length≤maxLen) (z:Stg) (hz:z.at_.length≤maxLen):Best Tryz.prog 3 [.agg (pgRow p),.str (ba s),.agg (stgRow z)] (.p (.bool true)):=by
 refine best mixed fn3 ok3 (by simp [pgRow,stgRow]) ?_
 obtain ⟨cs,hl,hcs,q9⟩:=p.made hp
 have ht:=p.txt_len
 have ha:=p.at_len
 have hz5:z.cut.at_.length≤5:=by simp [Stg.cut];omega
 have hs6:(s.take 60).length≤60:=by simp;omega
 have q13:=fun t hl=>b13 cs hcs.one t hl
 have q14:=fun t hl=>b14 cs hcs.one t hl
 have hfl:∀ t:List UInt8,t.length≤100→(fontsN cs t).length≤100000000:=fun t h=>by
  have:=splT_len t
  simp [fontsN];omega
 have q12:=fun (l:List Int) (h:l.length≤100000000)=>b12 l l h
 have q10:=fun (k:Nat) (h:k<cs.length)=>b10 cs[k] ((hcs.2 cs[k] (List.getElem_mem h)).ax) z.cut (by omega)
 have q11:=fun (k:Nat) (h:k<cs.length)=>b11 cs[k] ((hcs.2 cs[k] (List.getElem_mem h)).ax) z.cut (by omega)
 have hal:∀ (k:Nat) (h:k<cs.length),(setN cs[k].ax.length z.cut.at_).length≤100000000:=fun k h=>by
  have:=(hcs.2 cs[k] (List.getElem_mem h)).ax
  simp [setN];omega
 generalize p.txt=T at *
 generalize p.set=S at *
 obtain ⟨size,at_,feat⟩:=z
 simp only [Stg.cut] at q10 q11 hz5 hal
 have z1:(0:Int)≤min (at_.length:Int) 5:=by omega
 have z2:min (at_.length:Int) 5≤at_.length:=by omega
 have z3:List.take (min (at_.length:Int) 5).toNat (at_.map intRow)=(at_.take 5).map intRow:=tkI at_ 5
 have y1:(0:Int)≤min (s.length:Int) 60:=by omega
 have y2:min (s.length:Int) 60≤s.length:=by omega
 have y4:(min (s.length:Int) 60).toNat≤s.length:=by omega
 have y3:s.take (min (s.length:Int) 60).toNat=s.take 60:=by
  rw [show (min (s.length:Int) 60).toNat=min s.length 60 by omega,←List.take_take,List.take_of_length_le (by simp only [List.length_take];omega)]
 have y5:=ba_ext s _ y4
 have y6:=ba_size s
 simp -dsimp [ac3,pgRow,stgRow]
 refine call_p h8 (by simp) (by simp) ?_
 simp -dsimp
 refine call_p q9 (by simp [pgRow]) (by simp) ?_
 rw [y3] at y5
 simp -dsimp [stgRow,z1,z2,z3,y1,y2,y5,y6]
 refine loopC cs.length (fun k=>⟨[(1,.p (.str (ba (s.take 60)))),(5,.ptr (5,0) 3 0 0),(7,.p (.bool true)),(8,.p (.sl 9 (cs.map corRow))),(9,.p (.str (ba T))),(12,.p (.int .i64 k))],
  [((5,0),.box [.p (.int .i64 size),.p (.sl 1 ((at_.take 5).map intRow)),.p (.int .i64 feat)])]⟩) (fun _=>True) (fun k hk _=>?_) trivial (by simp)
 by_cases h:k<cs.length
 ·have wk:R ((k:Int)+1):=⟨by omega,by omega⟩
  have p10:=q10 k h
  have p11:=q11 k h
  have p12:=q12 _ (hal k h)
  obtain ⟨c,ec⟩:∃ c,cs[k]=c:=⟨_,rfl⟩
  rw [ec] at p10 p11 p12
  simp only [Stg.own] at p10 p11
  obtain ⟨A,eA⟩:∃ A,setN c.ax.length (at_.take 5)=A:=⟨_,rfl⟩
  rw [eA] at p10 p11 p12
  simp -dsimp [h,ec,corRow]
  refine call_p p10 (by simp [stgRow,corRow]) (by simp) ?_
  simp -dsimp [stgRow,h,ec,corRow]
  refine call_p p11 (by simp [stgRow,corRow]) (by simp) ?_
  simp -dsimp [stgRow]
  refine call_p p12 (by simp) (by simp) ?_
  simp -dsimp [h,wr wk]
 ·have:k=cs.length:=by omega
  subst this
  simp -dsimp [h]
  refine call_p (q13 T (by omega)) (by simp) (by simp) ?_
  simp -dsimp
  refine call_p (q14 T (by omega)) (by simp) (by simp) ?_
  simp -dsimp
  refine call_p (q12 _ (hfl T (by omega))) (by simp) (by simp) ?_
  simp -dsimp
  refine call_p (q13 (s.take 60) (by omega)) (by simp) (by simp) ?_
  simp -dsimp
  refine call_p (q14 (s.take 60) (by omega)) (by simp) (by simp) ?_
  simp -dsimp
  refine call_p (q12 _ (hfl (s.take 60) (by omega))) (by simp) (by simp) ?_
  simp -dsimp [resOf]
end
end Go.Abs.A29
namespace Go.Proofs.YtinblgdfhmllnaaGreat
open Go Go.Abs Go.ChangeShapes Go.WideShapes Go.RowKit Go.Proofs Go.Abs.A29
set_option maxRecDepth 100000
set_option linter.unusedVariables false
theorem flowWidths_lifted (os:Os) (started:os.Started) (H:Type) (enc:TypeId×Value→H) :
  ReturnsInHanded {} Tryz.checked os 4 .any (ChangeSpec.pre6 enc Tryz.prog Tryz.f4 Rows.flowWidthsSpec [] false)
   (Rows.flowWidthsSpec.post enc Tryz.prog Tryz.f4 false true false false):=by
 refine returnsInHanded_of_change (C:=Tryz.checked) own started (by kernel_rfl) Tryz.func4
  (ChangeSpec.witness6_at (enc:=enc) (C:=Tryz.checked) (os:=os) false (restWorld os) #[.agg #[.slice none 0 0,.slice none 0 0,.slice none 0 0,.int .u8 0,.slice none 0 0,.slice none 0 0,.int .i64 0,.int .i64 0,.int .i64 0],.agg #[.int .i64 0,.slice none 0 0,.int .i64 0]] 8 rfl (by kernel_rfl) (by kernel_rfl) (by kernel_rfl) (by kernel_rfl) (by kernel_rfl)) ?_
 intro W base args ds gs before hval hW _ _
 have hW':=hW
 obtain ⟨p,q,hA,hV,-,-,-⟩:=hW'
 have hA:DataW.TrodAll enc Tryz.prog W 0 (fun _=>true) true Tryz.f4.params.toList args.toList ds p:=hA
 rw [Tryz.params4] at hA
 have hval:∀ (j:Nat) t v,Tryz.f4.params[j]?=some t→args[j]?=some v→Value.okWide Tryz.prog W .any base t v:=hval
 rw [Tryz.params4] at hval
 obtain ⟨v0,v1,d0,d1,p0,p1,rfl,rfl,rfl,h0,h1⟩:=trodAll_two hA
 obtain ⟨a0,o0,r0⟩:=Rd.argT Tryz.underlying26 rd_page (hval 0 26 v0 rfl rfl) h0
 obtain ⟨a1,o1,r1⟩:=Rd.argT Tryz.underlying28 rd_set (hval 1 28 v1 rfl rfl) h1
 exact law_step rfl rfl hW rfl (by decide +kernel) ((b4 b8 a0 o0 ⟨a1.1,a1.2.1,a1.2.2⟩ o1.2.1.2)) (Ps.cons r0 (Ps.one r1))
theorem flowWidths_holds:Rows.FlowWidthsSaid:=
 OpenClaim.holds_of_wide 4 Tryz.f4 rfl rfl rfl rfl rfl rfl rfl ⟨rfl,rfl,rfl,rfl,rfl⟩ rfl rfl rfl rfl rfl (by kernel_rfl) Tryz.func4 (by kernel_rfl)
  (of_decide_eq_true (by kernel_rfl)) (by unfold Func.isWrapper;rw [if_neg (of_decide_eq_false (by kernel_rfl))];exact ⟨rfl,rfl⟩)
  (fun os started H enc _=>flowWidths_lifted os started H enc)
end Go.Proofs.YtinblgdfhmllnaaGreat
