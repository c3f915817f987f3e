/- Proved: the law FlowFurther returns true for every input, and its arguments read behind the call as they did; no condition beyond the given row. -/
import Derived.Test.YtinblgdfhmllnaaGreatC27
import Derived.Test.YtinblgdfhmllnaaGreatProg
set_option linter.unusedVariables false
set_option linter.unusedSimpArgs false
namespace Go.Abs.A29
open Go Go.Abs Go.Proofs
set_option maxRecDepth 100000
set_option linter.unusedVariables false
set_option linter.unusedSimpArgs false
attribute [local simp ↓] awp_skip awp_seq awp_cond awp_block awp_exit awp_ret awp_reg awp_draw awp_ghost awp_loop awp_rfun awpR_nil awpR_cons awpX_nil awpX_0 awpX_1 awpX_2 awpI_eq awpI_t awpI_f awpStep_eq
attribute [local simp] condL_true condL_false condL_dec evDel evV evN evS evA initFr Ghost.app Fr.var Fr.blk Fr.ff FF.val Abs.look Fr.app Fr.erase Fr.noSlot AV.noSlot AV.noSlotL Blk.noSlot Fr.spoken AV.fz AV.fzL Blk.fz binV binI shI binS unV fillA FF.parts FF.vals headO intO boundO lenV scalarEq leavesEq AV.aggc AV.cells FF.read FF.rows AV.one PV.one chunk freshB newS pickV retK evRs evRl evR resOf mkTup mkAgg allP cloOf okP_nil okX_p okX okP addN Del.noSlot Del.owners Rnd reify_p normM insM Fr.back Fr.backV Fr.setPs normV insV
attribute [local simp] renF Fr.trim Blk.trim AV.rn AV.rnL Blk.rn AV.among AV.amongL Blk.among okF retM fixS BIG initFF
attribute [local simp] FF.reify FF.reifyL PV.flat
attribute [local simp] ym yn yl yk yb yc yf yj yh qp qe qi qo qg qa qk qz qm ql qt qf qj qn qb qc qs qr qq qd
section
theorem fontN_app {cs:List Cor} {c:Cor} {t:List UInt8} {x:Nat×Nat} :
  (0≤fontN cs t x→fontN (cs++[c]) t x=fontN cs t x)∧(fontN cs t x<0→fontN (cs++[c]) t x=-1∨fontN (cs++[c]) t x=cs.length)∧fontN cs t x<cs.length∧-1≤fontN cs t x:=by
 unfold fontN
 split
 ·refine ⟨fun h=>by omega,fun _=>.inl rfl,by omega,by omega⟩
 ·unfold idxS
  rw [List.findIdx?_append]
  cases e:cs.findIdx? (allN (codesT t x.1 x.2)) with
  | some k=>
   have:=(List.findIdx?_eq_some_iff_findIdx_eq.1 e).1
   refine ⟨fun _=>rfl,fun h=>?_,?_,?_⟩
   ·simp only at h;omega
   ·simp only;omega
   ·simp only;omega
  | none=>
   refine ⟨fun h=>by simp only at h;omega,fun _=>?_,by simp only;omega,by simp only;omega⟩
   simp only [List.findIdx?_cons,List.findIdx?_nil,Option.none_or]
   cases allN (codesT t x.1 x.2) c<;>simp
theorem befN_app {cs:List Cor} {c:Cor} {t:List UInt8} {i:Nat} (h:0≤fontN cs t ((splT t).getD i (0,0))):befN (cs++[c]) t i=befN cs t i:=by
 have h1:=fontN_app (cs:=cs) (c:=c) (t:=t) (x:=(splT t).getD i (0,0))
 have h2:=fontN_app (cs:=cs) (c:=c) (t:=t) (x:=(splT t).getD (i - 1) (0,0))
 have e:(fontN (cs++[c]) t ((splT t).getD (i - 1) (0,0))=fontN (cs++[c]) t ((splT t).getD i (0,0)))=(fontN cs t ((splT t).getD (i - 1) (0,0))=fontN cs t ((splT t).getD i (0,0))):=by
  rw [h1.1 h]
  obtain ⟨a,ea⟩:∃ a,fontN cs t ((splT t).getD i (0,0))=a:=⟨_,rfl⟩
  obtain ⟨p,ep⟩:∃ p,fontN cs t ((splT t).getD (i - 1) (0,0))=p:=⟨_,rfl⟩
  obtain ⟨p',ep'⟩:∃ p,fontN (cs++[c]) t ((splT t).getD (i - 1) (0,0))=p:=⟨_,rfl⟩
  rw [ea] at h1 h
  rw [ep,ep'] at h2
  rw [ea,ep,ep']
  apply propext
  rcases Int.lt_or_le p 0 with q | q
  ·have:=h2.2.1 q
   constructor<;>intro<;>omega
  ·rw [h2.1 q]
 unfold befN
 simp only [e]
theorem wdN_app {cs:List Cor} {c:Cor} {t:List UInt8} {s:Stg} {i:Nat} (h:0≤fontN cs t ((splT t).getD i (0,0))∨fontN (cs++[c]) t ((splT t).getD i (0,0))<0):wdN (cs++[c]) t s i=wdN cs t s i:=by
 have h1:=fontN_app (cs:=cs) (c:=c) (t:=t) (x:=(splT t).getD i (0,0))
 have hb:=fun h=>befN_app (cs:=cs) (c:=c) (t:=t) (i:=i) h
 unfold wdN
 split
 ·rfl
 ·rcases Int.lt_or_le (fontN cs t ((splT t).getD i (0,0))) 0 with q | q
  ·rw [if_pos q,if_pos (by omega)]
  ·rw [if_neg (by omega),if_neg (by have:=h1.1 q;omega),hb q,h1.1 q]
   have:(cs++[c]).getD (fontN cs t ((splT t).getD i (0,0))).toNat cor0=cs.getD (fontN cs t ((splT t).getD i (0,0))).toNat cor0:=by
    rw [List.getD_eq_getElem?_getD,List.getElem?_append_left (by omega),←List.getD_eq_getElem?_getD]
   rw [this]
end
section
def ac6:AC:=by
 apply fun (y:AC) (_:@Eq AC (let e0:=[3,8,9,10,11,12,13];let e1:=[16,17,18,19];let e2:=[57,58,59,60];(qk [0] (qs (qr [(qp 1 (.box (.v 0))),(qp 2 (.mov (.c (.bool false))))]) (qk [1] (qs (qr [(qp 14 (.call 8 [])),(yn 3 14 [0,0,0])]) (qk [1,3] (qs (qr [(qp 16 (qt 9 1)),(qi 17 (.call 9 [.v 16]) [0]),(yn 15 17 [1]),(qi 18 (.ext (.v 15) 0) [2]),(qi 19 (.ext (.v 15) 1) [2]),(qi 20 (.ext (.v 15) 2) [2]),(qi 21 (.ext (.v 15) 3) [2]),(qp 6 (.alloc [.int .i64 0,.nsl,.int .i64 0])),(yn 4 18 [3,1,0,1,2,3,7]),(yn 5 19 [4,8,0,1,2,3,4,7,8]),(qo (.store 3 (.v 6) (.v 20)) [7,5,9,0,1,2,3,4,5,7,8,9]),(yn 7 21 [6,10,0,1,2,3,4,5,6,7,8,9,10])]) (qk [3,4,5,6] (qs (qs (qr [(ym 22 4),(yh 23 22 [0]),(yc 24 .eql 23 (qz 0) [1])]) (qk [3,4,5,6,24] (qq (.v 24) (qs (qr [(ym 25 3),(yn 2 25 [0,0])]) (qk [2] .ret)) .skip))) (qk [3,4,5,6] (qs (qr [(ym 26 4),(ym 27 4),(yh 28 27 [1]),(yc 29 .sub 28 (qz 1) [2]),(qi 30 (.slcV 9 (.v 26) none (some (.v 29))) [0,3]),(yn 8 30 [4,0,1,2,3,4])]) (qk [3,4,5,6,8] (qs (qr [(ym 31 8),(ym 32 5),(qi 33 (.call 13 [.v 31,.v 32]) [0,1]),(yn 9 33 [2,2,0,1,2])]) (qk [3,4,5,6,8,9] (qs (qr [(ym 34 4),(ym 35 5),(qi 36 (.call 13 [.v 34,.v 35]) [0,1]),(yn 10 36 [2,2,0,1,2])]) (qk [3,4,5,6,8,9,10] (qs (qr [(ym 37 8),(ym 38 5),(qp 39 (qt 3 6)),(qi 40 (.call 15 [.v 37,.v 38,.v 39]) [0,1,2]),(yn 11 40 [3,3,0,1,2,3])]) (qk [3,4,5,6,8,9,10,11] (qs (qr [(ym 41 4),(ym 42 5),(qp 43 (qt 3 6)),(qi 44 (.call 15 [.v 41,.v 42,.v 43]) [0,1,2]),(yn 12 44 [3,3,0,1,2,3])]) (qk [3,8,9,10,11,12] (qs (qs (qr [(ym 45 9),(yh 46 45 [0]),(ym 47 10),(yh 48 47 [2]),(yb 49 .neq 46 48 [1,3]),(yn 50 49 [4]),(qg 51 (qm 11) 50 false [5]),(qg 52 (qn 51) 50 false [6,5]),(qg 53 (qm 9) 50 false [5]),(qg 54 (qn 53) 50 false [8,5]),(qg 55 (qb .neq 52 54) 50 false [7,9,5]),(qi 56 (.pick (.v 50) (.c (.bool true)) (.v 55)) [5,10]),(yn 57 56 [11,5]),(qg 58 (qm 12) 57 false [12]),(qg 59 (qn 58) 57 false [13,12]),(qg 60 (qm 9) 57 false [12]),(qg 61 (qn 60) 57 false [15,12]),(qg 62 (qb .neq 59 61) 57 false [14,16,12]),(qi 63 (.pick (.v 57) (.c (.bool true)) (.v 62)) [12,17])]) (qk [3,8,9,10,11,12,63] (qq (.v 63) (qs (qr [(qp 2 (.mov (.c (.bool false))))]) (qk [2] .ret)) .skip))) (qk [3,8,9,10,11,12] (qs (qs (qr [(qp 13 (.mov (qz 0)))]) (qk e0 (.block 0 (.loop (qk e0 (qs (qs (qr [(ym 64 13),(ym 65 9),(yh 66 65 [1]),(yb 67 .lss 64 66 [0,2])]) (qk [3,8,9,10,11,12,13,67] (qq (.v 67) .skip (.exit 0)))) (qk e0 (qs (.block 1 (qs (qd [(qe (ym 70 9) [71] [] 2),(qe (ym 71 13) [70] [0] 2),(qe (yj 72 1 70 71 [0,1]) [] [] 2),(qe (yk 73 72 [2]) [] [] 2),(qe (yc 74 .geq 73 (qz 0) [3]) [] [] 2),(qe (yn 75 74 [4]) [] [] 2),(qe (qg 76 (qm 9) 75 true [5]) [77,80,81,82,83] [] 2),(qe (qg 77 (qm 13) 75 true [5]) [76,80,81,82,83] [6] 2),(qe (qg 78 (qj 1 76 77) 75 true [6,7,5]) [80,81,82,83] [] 2),(qe (qg 79 (ql 78) 75 true [8,5]) [80,81,82,83] [] 2),(qe (qg 80 (qm 10) 75 true [5]) [76,77,78,79,81] [6,7,8,9] 2),(qe (qg 81 (qm 13) 75 true [5]) [76,77,78,79,80] [6,7,8,9,10] 2),(qe (qg 82 (qj 1 80 81) 75 true [10,11,5]) [76,77,78,79] [6,7,8,9] 2),(qe (qg 83 (ql 82) 75 true [12,5]) [76,77,78,79] [6,7,8,9] 2),(qe (qg 84 (qb .neq 79 83) 75 true [9,13,5]) [] [] 2),(qe (qg 85 (qm 84) 75 true [14,5,5]) [] [] 2),(qe (qg 86 (qm 11) 85 false [15]) [87,90,91,92,93] [] 2),(qe (qg 87 (qm 13) 85 false [15]) [86,90,91,92,93] [16] 2),(qe (qg 88 (qj 1 86 87) 85 false [16,17,15]) [90,91,92,93] [] 2),(qe (qg 89 (ql 88) 85 false [18,15]) [90,91,92,93] [] 2),(qe (qg 90 (qm 12) 85 false [15]) [86,87,88,89,91] e1 2),(qe (qg 91 (qm 13) 85 false [15]) [86,87,88,89,90] [16,17,18,19,20] 2),(qe (qg 92 (qj 1 90 91) 85 false [20,21,15]) [86,87,88,89] e1 2),(qe (qg 93 (ql 92) 85 false [22,15]) [86,87,88,89] e1 2),(qe (qg 94 (qb .neq 89 93) 85 false [19,23,15]) [] [] 2),(qe (qg 95 (.pick (.v 85) (.c (.bool true)) (.v 94)) 75 true [15,24,5]) [] [] 2),(qe (qi 96 (.pick (.v 75) (.v 95) (.c (.bool false))) [5,25]) [] [] 2),(qe (yn 97 96 [26,15]) [] [] 2),(qe (qg 98 (qm 9) 97 false [27]) [99] [] 2),(qe (qg 99 (qm 13) 97 false [27]) [98] [28] 2),(qe (qg 100 (qj 1 98 99) 97 false [28,29,27]) [] [] 2),(qe (qg 101 (ql 100) 97 false [30,27]) [] [] 2),(qe (qg 102 (qc .lss 101 (qz 0)) 97 false [31,27]) [] [] 2),(qe (qg 103 (qm 102) 97 false [32,27,27]) [] [] 2),(qe (qg 104 (qm 10) 103 true [33]) [105] [] 2),(qe (qg 105 (qm 13) 103 true [33]) [104] [34] 2),(qe (qg 106 (qj 1 104 105) 103 true [34,35,33]) [] [] 2),(qe (qg 107 (ql 106) 103 true [36,33]) [] [] 2),(qe (qg 108 (qc .geq 107 (qz 0)) 103 true [37,33]) [] [] 2),(qe (qg 109 (.pick (.v 103) (.v 108) (.c (.bool false))) 97 false [33,38,27]) [] [] 2),(qe (qg 110 (qm 109) 97 false [39,33,27]) [] [] 2),(qe (qg 111 (qm 10) 110 true [40]) [112,115,116] [] 2),(qe (qg 112 (qm 13) 110 true [40]) [111,115,116] [41] 2),(qe (qg 113 (qj 1 111 112) 110 true [41,42,40]) [115,116] [] 2),(qe (qg 114 (ql 113) 110 true [43,40]) [115,116] [] 2),(qe (qg 115 (qm 8) 110 true [40]) [111,112,113,114] [41,42,43,44] 2),(qe (qg 116 (qn 115) 110 true [45,40]) [111,112,113,114] [41,42,43,44] 2),(qe (qg 117 (qb .neq 114 116) 110 true [44,46,40]) [] [] 2),(qe (qg 118 (.pick (.v 110) (.v 117) (.c (.bool false))) 97 false [40,47,27]) [] [] 2),(qe (qi 119 (.pick (.v 97) (.c (.bool true)) (.v 118)) [27,48]) [] [] 2),(qe (yn 120 119 [49,40]) [] [] 2),(qe (qg 121 (qm 10) 120 false [50]) [122] [] 2),(qe (qg 122 (qm 13) 120 false [50]) [121] [51] 2),(qe (qg 123 (qj 1 121 122) 120 false [51,52,50]) [] [] 2),(qe (qg 124 (ql 123) 120 false [53,50]) [] [] 2),(qe (qg 125 (qc .lss 124 (qz 0)) 120 false [54,50]) [] [] 2),(qe (qg 126 (qm 125) 120 false [55,50,50]) [] [] 2),(qe (qg 127 (qm 11) 126 true [56]) [128,131,132,133,134] [] 2),(qe (qg 128 (qm 13) 126 true [56]) [127,131,132,133,134] [57] 2),(qe (qg 129 (qj 1 127 128) 126 true [57,58,56]) [131,132,133,134] [] 2),(qe (qg 130 (ql 129) 126 true [59,56]) [131,132,133,134] [] 2),(qe (qg 131 (qm 12) 126 true [56]) [127,128,129,130,132] e2 2),(qe (qg 132 (qm 13) 126 true [56]) [127,128,129,130,131] [57,58,59,60,61] 2),(qe (qg 133 (qj 1 131 132) 126 true [61,62,56]) [127,128,129,130] e2 2),(qe (qg 134 (ql 133) 126 true [63,56]) [127,128,129,130] e2 2),(qe (qg 135 (qb .neq 130 134) 126 true [60,64,56]) [] [] 2),(qe (qg 136 (.pick (.v 126) (.v 135) (.c (.bool false))) 120 false [56,65,50]) [] [] 2),(qe (qi 137 (.pick (.v 120) (.c (.bool true)) (.v 136)) [50,66]) [] [] 2)]) (qk [3,8,9,10,11,12,13,137] (qq (.v 137) (qs (qr [(qp 2 (.mov (.c (.bool false))))]) (qk [2] .ret)) .skip)))) (qk e0 (qr [(ym 68 13),(yc 69 .add 68 (qz 1) [0]),(yn 13 69 [1,0,1])])))))))))) (qk [3] (qs (qr [(ym 138 3),(yn 2 138 [0,0])]) (qk [2] .ret)))))))))))))))))))))))))) y)=>y
 dsimp
theorem fn6:factOf Tryz.prog 6=some (ac6.strip,[.tmp 2],139):=by kernel_rfl
theorem ok6:ac6.okAll=true:=by kernel_rfl
end
section
attribute [local simp ↓] awp_scope awp_label
attribute [local simp] w1
set_option maxHeartbeats 400000
attribute [local simp] evC
attribute [local simp ↓] oneN oneI oneSp oneCor
theorem b6 (h8:Best Tryz.prog 8 [] (.p (.bool true))) (p:Pg) (hp:p.ok):Best Tryz.prog 6 [.agg (pgRow p)] (.p (.bool true)):=by
 refine best mixed fn6 ok6 (by simp [pgRow]) ?_
 obtain ⟨cs,hl,hcs,q9⟩:=p.made hp
 have ht:=p.txt_len
 have ha:=p.at_len
 have hf:=p.fit
 rcases List.eq_nil_or_concat cs with rfl | ⟨few,c,rfl⟩
 ·simp -dsimp [ac6,pgRow]
  refine call_p h8 (by simp) (by simp) ?_
  simp -dsimp
  refine call_p q9 (by simp [pgRow]) (by simp) ?_
  simp -dsimp [stgRow,resOf]
 rw [List.concat_eq_append] at hl hcs q9
 have hcf:CorsOk2 few:=⟨by have:=hcs.1;simp at this;omega,fun x hx=>hcs.2 x (by simp [hx])⟩
 have q13:=b13 few hcf.one p.txt (by omega)
 have q13':=b13 (few++[c]) hcs.one p.txt (by omega)
 have q15:=b15 few hcf p.txt (by omega) p.set (by omega)
 have q15':=b15 (few++[c]) hcs p.txt (by omega) p.set (by omega)
 have hn:(splT p.txt).length≤20:=by have:=splT_len p.txt;omega
 have la:(fontsN few p.txt).length=(splT p.txt).length:=by simp [fontsN]
 have lb:(fontsN (few++[c]) p.txt).length=(splT p.txt).length:=by simp [fontsN]
 have lv:(widthsN few p.txt p.set).length=(splT p.txt).length:=by simp [widthsN,hf]
 have lw:(widthsN (few++[c]) p.txt p.set).length=(splT p.txt).length:=by simp [widthsN,hf]
 have key:∀ (k:Nat) (h1:k<(fontsN few p.txt).length) (h2:k<(fontsN (few++[c]) p.txt).length) (h3:k<(widthsN few p.txt p.set).length) (h4:k<(widthsN (few++[c]) p.txt p.set).length),
   (0≤(fontsN few p.txt)[k]→(fontsN (few++[c]) p.txt)[k]=(fontsN few p.txt)[k]∧(widthsN few p.txt p.set)[k]=(widthsN (few++[c]) p.txt p.set)[k]) ∧
   ((fontsN few p.txt)[k]<0→0≤(fontsN (few++[c]) p.txt)[k]→(fontsN (few++[c]) p.txt)[k]=few.length) ∧
   ((fontsN (few++[c]) p.txt)[k]<0→(fontsN few p.txt)[k]<0∧(widthsN few p.txt p.set)[k]=(widthsN (few++[c]) p.txt p.set)[k]):=by
  intro k h1 h2 h3 h4
  have hk:k<(splT p.txt).length:=by omega
  have hx:(splT p.txt).getD k (0,0)=(splT p.txt)[k]:=by simp [hk]
  have e1:(fontsN few p.txt)[k]=fontN few p.txt ((splT p.txt).getD k (0,0)):=by rw [hx];simp [fontsN]
  have e2:(fontsN (few++[c]) p.txt)[k]=fontN (few++[c]) p.txt ((splT p.txt).getD k (0,0)):=by rw [hx];simp [fontsN]
  have e3:(widthsN few p.txt p.set)[k]=wdN few p.txt p.set k:=by simp [widthsN,hf]
  have e4:(widthsN (few++[c]) p.txt p.set)[k]=wdN (few++[c]) p.txt p.set k:=by simp [widthsN,hf]
  rw [e1,e2,e3,e4]
  have hf:=fontN_app (cs:=few) (c:=c) (t:=p.txt) (x:=(splT p.txt).getD k (0,0))
  have hw:=fun h=>wdN_app (cs:=few) (c:=c) (t:=p.txt) (s:=p.set) (i:=k) h
  refine ⟨fun h=>⟨hf.1 h,(hw (.inl h)).symm⟩,fun h h'=>?_,fun h=>⟨?_,(hw (.inr h)).symm⟩⟩
  ·have:=hf.2.1 h;omega
  ·rcases Int.lt_or_le (fontN few p.txt ((splT p.txt).getD k (0,0))) 0 with q | q
   ·exact q
   ·have:=hf.1 q;omega
 generalize p.txt=T at *
 generalize p.set=S at *
 obtain ⟨A,eA⟩:∃ A,fontsN few T=A:=⟨_,rfl⟩
 obtain ⟨B,eB⟩:∃ A,fontsN (few++[c]) T=A:=⟨_,rfl⟩
 obtain ⟨V,eV⟩:∃ A,widthsN few T S=A:=⟨_,rfl⟩
 obtain ⟨W,eW⟩:∃ A,widthsN (few++[c]) T S=A:=⟨_,rfl⟩
 simp only [eA,eB,eV,eW] at la lb lv lw key q13 q13' q15 q15'
 obtain ⟨n,en⟩:∃ n,(splT T).length=n:=⟨_,rfl⟩
 rw [en] at la lb lv lw hn
 obtain ⟨m,em⟩:∃ m,few.length=m:=⟨_,rfl⟩
 have hm:m≤2:=by simp at hl;omega
 have hcl:(few++[c]).length=m+1:=by simp [em]
 have hne:¬((m:Int)+1=0):=by omega
 have z1:(0:Int)≤(m:Int):=by omega
 have wm:R ((m:Int)+1 - 1):=⟨by omega,by omega⟩
 have wm0:R (m:Int):=⟨by omega,by omega⟩
 have z2:(m:Int)≤m+1:=by omega
 have wm':(m:Int)+1 - 1=m:=by omega
 have htk:((few++[c]).map corRow).take m=few.map corRow:=by rw [←List.map_take,List.take_left' em]
 obtain ⟨CS,eCS⟩:∃ C,few++[c]=C:=⟨_,rfl⟩
 rw [eCS] at hcl htk q9 q13' q15'
 simp -dsimp [ac6,pgRow]
 refine call_p h8 (by simp) (by simp) ?_
 simp -dsimp
 refine call_p q9 (by simp [pgRow]) (by simp) ?_
 simp -dsimp [stgRow,hcl,hne,wr wm,wm',htk,z1,z2,wr wm0]
 refine call_p q13 (by simp) (by simp) ?_
 simp -dsimp
 refine call_p q13' (by simp) (by simp) ?_
 simp -dsimp
 refine call_p q15 (by simp [stgRow]) (by simp) ?_
 simp -dsimp
 refine call_p q15' (by simp [stgRow]) (by simp) ?_
 simp -dsimp [la,lb,lv,lw]
 refine loopC n (fun k=>⟨[(3,.p (.bool true)),(8,.p (.sl 9 (few.map corRow))),(9,.p (.sl 1 (A.map intRow))),(10,.p (.sl 1 (B.map intRow))),(11,.p (.sl 1 (V.map intRow))),(12,.p (.sl 1 (W.map intRow))),(13,.p (.int .i64 k))],[]⟩) (fun _=>True) (fun k hk _=>?_) trivial (by simp)
 by_cases h:k<n
 ·have wk:R ((k:Int)+1):=⟨by omega,by omega⟩
  have h1:k<A.length:=by omega
  have h2:k<B.length:=by omega
  have h3:k<V.length:=by omega
  have h4:k<W.length:=by omega
  have hh:=key k h1 h2 h3 h4
  obtain ⟨a,ea⟩:∃ x,A[k]=x:=⟨_,rfl⟩
  obtain ⟨b,eb⟩:∃ x,B[k]=x:=⟨_,rfl⟩
  obtain ⟨v,ev⟩:∃ x,V[k]=x:=⟨_,rfl⟩
  obtain ⟨w,ew⟩:∃ x,W[k]=x:=⟨_,rfl⟩
  rw [ea,eb,ev,ew] at hh
  obtain ⟨k1,k2,k3⟩:=hh
  rcases Int.lt_or_le a 0 with q | q
  ·rcases Int.lt_or_le b 0 with q' | q'
   ·have:=(k3 q').2
    subst this
    have n1:¬0≤a:=by omega
    have n2:¬0≤b:=by omega
    simp -dsimp [h,h1,h2,h3,h4,ea,eb,ev,ew,la,lb,lv,lw,intRow,q,q',n1,n2,wr wk]
   ·have hb:=k2 q q'
    have n1:¬0≤a:=by omega
    have n2:¬b<0:=by omega
    have n3:b=(m:Int):=by omega
    subst n3
    simp -dsimp [h,h1,h2,h3,h4,ea,eb,ev,ew,la,lb,lv,lw,intRow,q,q',n1,n2,em,wr wk]
  ·obtain ⟨r1,r2⟩:=k1 q
   subst r1 r2
   have n1:¬b<0:=by omega
   simp -dsimp [h,h1,h2,h3,h4,ea,eb,ev,ew,la,lb,lv,lw,intRow,q,n1,wr wk]
 ·have:k=n:=by omega
  subst this
  simp -dsimp [h,la,resOf]
end
end Go.Abs.A29
namespace Go.Proofs.YtinblgdfhmllnaaGreat
open Go Go.Abs Go.ChangeShapes Go.WideShapes Go.RowKit Go.Proofs Go.Abs.A29
set_option maxRecDepth 100000
set_option linter.unusedVariables false
theorem flowFurther_lifted (os:Os) (started:os.Started) (H:Type) (enc:TypeId×Value→H) :
  ReturnsInHanded {} Tryz.checked os 6 .any (ChangeSpec.pre6 enc Tryz.prog Tryz.f6 Rows.flowFurtherSpec [] false)
   (Rows.flowFurtherSpec.post enc Tryz.prog Tryz.f6 false true false false):=by
 refine returnsInHanded_of_change (C:=Tryz.checked) own started (by kernel_rfl) Tryz.func6
  (ChangeSpec.witness6_at (enc:=enc) (C:=Tryz.checked) (os:=os) false (restWorld os) #[.agg #[.slice none 0 0,.slice none 0 0,.slice none 0 0,.int .u8 0,.slice none 0 0,.slice none 0 0,.int .i64 0,.int .i64 0,.int .i64 0]] 8 rfl (by kernel_rfl) (by kernel_rfl) (by kernel_rfl) (by kernel_rfl) (by kernel_rfl)) ?_
 intro W base args ds gs before hval hW _ _
 have hW':=hW
 obtain ⟨p,q,hA,hV,-,-,-⟩:=hW'
 have hA:DataW.TrodAll enc Tryz.prog W 0 (fun _=>true) true Tryz.f6.params.toList args.toList ds p:=hA
 rw [Tryz.params6] at hA
 have hval:∀ (j:Nat) t v,Tryz.f6.params[j]?=some t→args[j]?=some v→Value.okWide Tryz.prog W .any base t v:=hval
 rw [Tryz.params6] at hval
 obtain ⟨v0,d0,rfl,rfl,h0⟩:=trodAll_one hA
 obtain ⟨a0,o0,r0⟩:=Rd.argT Tryz.underlying26 rd_page (hval 0 26 v0 rfl rfl) h0
 exact law_step rfl rfl hW rfl (by decide +kernel) ((b6 b8 a0 o0)) (Ps.one r0)
theorem flowFurther_holds:Rows.FlowFurtherSaid:=
 OpenClaim.holds_of_wide 6 Tryz.f6 rfl rfl rfl rfl rfl rfl rfl ⟨rfl,rfl,rfl,rfl,rfl⟩ rfl rfl rfl rfl rfl (by kernel_rfl) Tryz.func6 (by kernel_rfl)
  (of_decide_eq_true (by kernel_rfl)) (by unfold Func.isWrapper;rw [if_neg (of_decide_eq_false (by kernel_rfl))];exact ⟨rfl,rfl⟩)
  (fun os started H enc _=>flowFurther_lifted os started H enc)
end Go.Proofs.YtinblgdfhmllnaaGreat
