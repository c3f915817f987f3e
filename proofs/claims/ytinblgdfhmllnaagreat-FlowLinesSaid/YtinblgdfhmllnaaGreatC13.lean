/- A part of the proof: an abstract reading of the model, contracts of functions. -/
import Derived.Test.YtinblgdfhmllnaaGreatC12
import Derived.Test.YtinblgdfhmllnaaGreatProg
set_option linter.unusedVariables false
set_option linter.unusedSimpArgs false
namespace Go.Abs.A29
open Go Go.Abs Go.Proofs
set_option maxRecDepth 100000
set_option linter.unusedVariables false
set_option linter.unusedSimpArgs false
attribute [local simp ↓] awp_skip awp_seq awp_cond awp_block awp_exit awp_ret awp_reg awp_draw awp_ghost awp_loop awp_rfun awpR_nil awpR_cons awpX_nil awpX_0 awpX_1 awpX_2 awpI_eq awpI_t awpI_f awpStep_eq
attribute [local simp] condL_true condL_false condL_dec evDel evV evN evS evA initFr Ghost.app Fr.var Fr.blk Fr.ff FF.val Abs.look Fr.app Fr.erase Fr.noSlot AV.noSlot AV.noSlotL Blk.noSlot Fr.spoken AV.fz AV.fzL Blk.fz binV binI shI binS unV fillA FF.parts FF.vals headO intO boundO lenV scalarEq leavesEq AV.aggc AV.cells FF.read FF.rows AV.one PV.one chunk freshB newS pickV retK evRs evRl evR resOf mkTup mkAgg allP cloOf okP_nil okX_p okX okP addN Del.noSlot Del.owners Rnd reify_p normM insM Fr.back Fr.backV Fr.setPs normV insV
attribute [local simp] renF Fr.trim Blk.trim AV.rn AV.rnL Blk.rn AV.among AV.amongL Blk.among okF retM fixS BIG initFF
attribute [local simp] FF.reify FF.reifyL PV.flat
attribute [local simp] ym yn yl yk yb yc yf yj yh qp qe qi qo qg qa qk qz qm ql qt qf qj qn qb qc qs qr qq qd
section
def ac112:AC:=by
 apply fun (y:AC) (_:@Eq AC (let e0:=[0,1,5];(qk [0,1] (qs (qr [(qp 4 (.mov (.c .nsl)))]) (qk [0,1] (qs (qr [(qp 5 (.mov (qz 0)))]) (qk e0 (qs (.block 0 (.loop (qk e0 (qs (qs (qr [(ym 7 5),(ym 8 0),(yh 9 8 [1]),(yb 10 .lss 7 9 [0,2]),(yn 11 10 [3]),(qg 12 (qm 0) 11 true [4]),(qg 13 (qm 5) 11 true [4]),(qg 14 (qj 1 12 13) 11 true [5,6,4]),(qg 15 (ql 14) 11 true [7,4]),(qg 16 (qm 1) 11 true [4]),(qg 17 (qb .lss 15 16) 11 true [8,9,4]),(qi 18 (.pick (.v 11) (.v 17) (.c (.bool false))) [4,10])]) (qk [0,1,5,18] (qq (.v 18) .skip (.exit 0)))) (qk e0 (.block 1 (qr [(ym 19 5),(yc 20 .add 19 (qz 1) [0]),(yn 5 20 [1,0,1])]))))))) (qk e0 (qs (qs (qr [(ym 21 5),(ym 22 0),(yh 23 22 [1]),(yb 24 .lss 21 23 [0,2]),(yn 25 24 [3]),(qg 26 (qm 0) 25 true [4]),(qg 27 (qm 5) 25 true [4]),(qg 28 (qj 1 26 27) 25 true [5,6,4]),(qg 29 (ql 28) 25 true [7,4]),(qg 30 (qm 1) 25 true [4]),(qg 31 (qb .eql 29 30) 25 true [8,9,4]),(qi 32 (.pick (.v 25) (.v 31) (.c (.bool false))) [4,10])]) (qk [0,1,5,32] (qq (.v 32) (qs (qr [(ym 33 0),(yn 4 33 [0,0])]) (qk [4] .ret)) .skip))) (qk e0 (qs (qr [(ym 34 1),(qi 35 (.bslice 3 1 1 [.int .i64 0] [(0,1,.v 34)]) [0]),(ym 36 0),(ym 37 5),(qi 38 (.slcV 1 (.v 36) (some (.v 37)) none) [2,3]),(qi 39 (.app 3 1 8 (.v 35) (.v 38)) [1,4]),(yn 6 39 [5,5,0,1,2,3,4,5])]) (qk [0,5,6] (qs (qr [(qp 40 (.bslice 3 1 0 [] [])),(ym 41 0),(ym 42 5),(qi 43 (.slcV 1 (.v 41) none (some (.v 42))) [1,2]),(qi 44 (.app 3 1 8 (.v 40) (.v 43)) [0,3]),(ym 45 6),(qi 46 (.app 3 1 8 (.v 44) (.v 45)) [4,5,4]),(yn 4 46 [6,6,0,1,2,3,4,5,6])]) (qk [4] .ret)))))))))))))) y)=>y
 dsimp
theorem fn112:factOf Tryz.prog 112=some (ac112.strip,[.tmp 4],47):=by kernel_rfl
theorem ok112:ac112.okAll=true:=by kernel_rfl
def ac52:AC:=by
 apply fun (y:AC) (_:@Eq AC (let e0:=[0,1,2,7,8];(qk [0,1,2] (qs (qr [(qp 6 (.mov (.c .nsl)))]) (qk [0,1,2] (qs (qr [(qp 7 (.mov (.c .nsl)))]) (.ghost (.own 7 25 133 1) (qk [0,1,2,7] (qs (qs (qr [(qp 8 (.mov (qz 0)))]) (qk e0 (.block 0 (.loop (qk e0 (qs (qs (qr [(ym 9 8),(ym 10 2),(yb 11 .lss 9 10 [0,1])]) (qk [0,1,2,7,8,11] (qq (.v 11) .skip (.exit 0)))) (qk e0 (qs (.block 1 (qr [(ym 14 7),(ym 15 0),(ym 16 0),(yh 17 16 [2]),(ym 18 8),(qi 19 (.bin .mul (qz 9) (.v 18)) [4]),(qi 20 (.mm false (.v 17) (.v 19)) [3,5]),(qi 21 (.slcV 1 (.v 15) (some (.v 20)) none) [1,6]),(ym 22 1),(qi 23 (.call 95 [.v 21,.v 22]) [7,8]),(qi 24 (.bslice 133 1 1 [.nsl] [(0,1,.v 23)]) [9]),(qi 25 (.app 133 1 24 (.v 14) (.v 24)) [0,10,9]),(yn 7 25 [11,11,0,1,2,3,4,5,6,7,8,9,10,11])])) (qk e0 (qr [(ym 12 8),(yc 13 .add 12 (qz 1) [0]),(yn 8 13 [1,0,1])])))))))))) (qk [7] (qs (qr [(ym 26 7),(yn 6 26 [0,0])]) (qk [6] .ret))))))))))) y)=>y
 dsimp
theorem fn52:factOf Tryz.prog 52=some (ac52.strip,[.tmp 6],27):=by kernel_rfl
theorem ok52:ac52.okAll=true:=by kernel_rfl
def ac98:AC:=by
 apply fun (y:AC) (_:@Eq AC (qk [0] (qs (qr [(qp 1 (.box (.v 0))),(qp 2 (.mov (qz 0)))]) (qk [1] (qs (qr [(qp 5 (qf 1 1)),(yk 6 5 [0]),(yh 7 6 [1]),(yc 8 .add 7 (qz 1) [2]),(yn 3 8 [3,0,1,2,3])]) (qk [1,3] (qs (qs (qr [(qp 4 (.mov (qz 0)))]) (qk [1,3,4] (.block 0 (.loop (qk [1,3,4] (qs (qs (qr [(ym 9 4),(qp 10 (qf 0 1)),(yk 11 10 [1]),(yh 12 11 [2]),(yb 13 .lss 9 12 [0,3])]) (qk [1,3,4,13] (qq (.v 13) .skip (.exit 0)))) (qk [1,3,4] (qs (.block 1 (qr [(ym 16 3),(qp 17 (qf 0 1)),(yk 18 17 [1]),(ym 19 4),(yj 20 1 18 19 [2,3]),(yk 21 20 [4]),(yh 22 21 [5]),(yb 23 .add 16 22 [0,6]),(yn 3 23 [7,0,1,2,3,4,5,6,7])])) (qk [1,3,4] (qr [(ym 14 4),(yc 15 .add 14 (qz 1) [0]),(yn 4 15 [1,0,1])])))))))))) (qk [3] (qs (qr [(ym 24 3),(yn 2 24 [0,0])]) (qk [2] .ret))))))))) y)=>y
 dsimp
theorem fn98:factOf Tryz.prog 98=some (ac98.strip,[.tmp 2],25):=by kernel_rfl
theorem ok98:ac98.okAll=true:=by kernel_rfl
def ac71:AC:=by
 apply fun (y:AC) (_:@Eq AC (qk [0] (qs (qr [(qp 2 (.mov (.c .nsl)))]) (qk [0] (qs (qr [(qp 3 (.mov (.c .nsl)))]) (qk [0,3] (.ghost (.zsl 3 1) (qs (qs (qr [(qp 4 (.mov (qz 0)))]) (qk [0,3,4] (.block 0 (.loop (qk [0,3,4] (qs (qs (qr [(ym 5 4),(ym 6 0),(yh 7 6 [1]),(yb 8 .lss 5 7 [0,2])]) (qk [0,3,4,8] (qq (.v 8) .skip (.exit 0)))) (qk [0,3,4] (qs (.block 1 (qr [(ym 11 3),(ym 12 0),(ym 13 4),(yj 14 1 12 13 [1,2]),(yk 15 14 [3]),(qi 16 (.call 112 [.v 11,.v 15]) [0,4]),(yn 3 16 [5,5,0,1,2,3,4,5])])) (qk [0,3,4] (qr [(ym 9 4),(yc 10 .add 9 (qz 1) [0]),(yn 4 10 [1,0,1])])))))))))) (qk [3] (qs (qr [(ym 17 3),(yn 2 17 [0,0])]) (qk [2] .ret)))))))))) y)=>y
 dsimp
theorem fn71:factOf Tryz.prog 71=some (ac71.strip,[.tmp 2],18):=by kernel_rfl
theorem ok71:ac71.okAll=true:=by kernel_rfl
def ac57:AC:=by
 apply fun (y:AC) (_:@Eq AC (qk [0] (qs (qr [(qp 1 (.box (.v 0))),(qp 2 (.mov (.c .nsl)))]) (qk [1] (qs (qr [(qp 3 (.mov (.c .nsl)))]) (.ghost (.own 3 29 3 1) (qk [1,3] (qs (qs (qr [(qp 4 (.mov (qz 0)))]) (qk [1,3,4] (.block 0 (.loop (qk [1,3,4] (qs (qs (qr [(ym 5 4),(qp 6 (qf 0 1)),(yk 7 6 [1]),(yh 8 7 [2]),(yb 9 .lss 5 8 [0,3])]) (qk [1,3,4,9] (qq (.v 9) .skip (.exit 0)))) (qk [1,3,4] (qs (.block 1 (qs (qr [(qp 12 (qf 0 1)),(yk 13 12 [0]),(ym 14 4),(yj 15 5 13 14 [1,2]),(yf 16 1 15 [3]),(yk 17 16 [4]),(yh 18 17 [5]),(yc 19 .gtr 18 (qz 0) [6])]) (qk [1,3,4,19] (qq (.v 19) (qr [(ym 20 3),(qp 21 (qf 0 1)),(yk 22 21 [1]),(ym 23 4),(yj 24 5 22 23 [2,3]),(yf 25 1 24 [4]),(yk 26 25 [5]),(qi 27 (.iaddr 1 (.v 26) (qz 0)) [6]),(yk 28 27 [7]),(qi 29 (.app 3 1 8 (.v 20) (.v 28)) [0,8]),(yn 3 29 [9,9,0,1,2,3,4,5,6,7,8,9])]) .skip)))) (qk [1,3,4] (qr [(ym 10 4),(yc 11 .add 10 (qz 1) [0]),(yn 4 11 [1,0,1])])))))))))) (.ghost (.canV 3 (3,1)) (.ghost (.freeze (3,1)) (qk [3] (qs (qr [(ym 30 3),(qi 31 (.call 71 [.v 30]) [0]),(yn 2 31 [1,1,0,1])]) (qk [2] .ret)))))))))))) y)=>y
 dsimp
theorem fn57:factOf Tryz.prog 57=some (ac57.strip,[.tmp 2],32):=by kernel_rfl
theorem ok57:ac57.okAll=true:=by kernel_rfl
def xc99c:AC:=by
 apply fun (y:AC) (_:@Eq AC (let e0:=[0,1,2,7,8,9,10,11];(qs (qs (qr [(ym 20 11),(ym 21 10),(yb 22 .lss 20 21 [0,1])]) (qk [0,1,2,7,8,9,10,11,22] (qq (.v 22) .skip (.exit 2)))) (qk e0 (qs (.block 3 (qr [(ym 25 9),(ym 26 0),(ym 27 2),(qi 28 (.mm false (.v 27) (qz 8)) [2]),(qi 29 (.call 50 [.v 26,.v 28]) [1,3]),(qi 30 (.bslice 3 1 1 [.int .i64 0] [(0,1,.v 29)]) [4]),(qi 31 (.app 3 1 8 (.v 25) (.v 30)) [0,5,4]),(yn 9 31 [6,6,0,1,2,3,4,5,6])])) (qk e0 (qr [(ym 23 11),(yc 24 .add 23 (qz 1) [0]),(yn 11 24 [1,0,1])])))))) y)=>y
 dsimp
def xc99b:AC:=by
 apply fun (y:AC) (_:@Eq AC (let e0:=[0,1,2,7,8,9,10,11];(qs (qs (qr [(ym 12 8),(ym 13 1),(yb 14 .lss 12 13 [0,1])]) (qk [0,1,2,7,8,14] (qq (.v 14) .skip (.exit 0)))) (qk [0,1,2,7,8] (qs (.block 1 (qs (qr [(qp 9 (.mov (.c .nsl)))]) (.ghost (.own 9 31 3 1) (qk [0,1,2,7,8,9] (qs (qr [(ym 17 0),(qi 18 (.call 50 [.v 17,.c (.int .i64 3)]) [0]),(qi 19 (.bin .add (qz 1) (.v 18)) [1]),(yn 10 19 [2,1,0,1,2])]) (qk [0,1,2,7,8,9,10] (qs (qs (qr [(qp 11 (.mov (qz 0)))]) (qk e0 (.block 2 (.loop (qk e0 xc99c))))) (.ghost (.canV 9 (9,1)) (.ghost (.freeze (9,1)) (qk [0,1,2,7,8,9] (qr [(ym 32 7),(ym 33 9),(qi 34 (.call 71 [.v 33]) [1]),(qi 35 (.bslice 24 1 1 [.nsl] [(0,1,.v 34)]) [2]),(qi 36 (.app 24 1 24 (.v 32) (.v 35)) [0,3,2]),(yn 7 36 [4,4,0,1,2,3,4])]))))))))))) (qk [0,1,2,7,8] (.ghost (.canV 7 (7,1)) (qr [(ym 15 8),(yc 16 .add 15 (qz 1) [0]),(yn 8 16 [1,0,1])]))))))) y)=>y
 dsimp
def ac99:AC:=by
 apply fun (y:AC) (_:@Eq AC (qk [0,1,2] (qs (qr [(qp 6 (.mov (.c .nsl)))]) (qk [0,1,2] (qs (qr [(qp 7 (.mov (.c .nsl)))]) (.ghost (.own 7 36 24 1) (qk [0,1,2,7] (.ghost (.canV 7 (7,1)) (qs (qs (qr [(qp 8 (.mov (qz 0)))]) (qk [0,1,2,7,8] (.block 0 (.loop (qk [0,1,2,7,8] xc99b))))) (.ghost (.freeze (7,1)) (qk [0,7] (qs (qr [(ym 37 7),(yn 6 37 [0,0])]) (qk [0,6] .ret)))))))))))) y)=>y
 dsimp
theorem fn99:factOf Tryz.prog 99=some (ac99.strip,[.tmp 6],38):=by kernel_rfl
theorem ok99:ac99.okAll=true:=by kernel_rfl
end
section
theorem oneI (z:List Int):((z.map intRow).all fun r=>r.all PV.one)=true:=by
 rw [List.all_eq_true];intro x hx
 simp only [List.mem_map] at hx
 obtain ⟨t,_,rfl⟩:=hx
 rfl
theorem oneDT (z:List Int) (i j:Nat):((List.drop i (List.take j (z.map intRow))).all fun r=>r.all PV.one)=true:=by
 rw [List.all_eq_true];intro x hx
 exact List.all_eq_true.1 (oneI z) x (List.mem_of_mem_take (List.mem_of_mem_drop hx))
theorem oneTk (z:List Int) (j:Nat):((List.take j (z.map intRow)).all fun r=>r.all PV.one)=true:=by
 rw [List.all_eq_true];intro x hx
 exact List.all_eq_true.1 (oneI z) x (List.mem_of_mem_take hx)
theorem oneD (z:List Int) (j:Nat):((List.drop j (z.map intRow)).all fun r=>r.all PV.one)=true:=by
 rw [List.all_eq_true];intro x hx
 exact List.all_eq_true.1 (oneI z) x (List.mem_of_mem_drop hx)
attribute [local simp ↓] oneI oneDT oneTk oneD
def twN {α:Type} (p:α→Bool) (l:List α):Nat:=(l.takeWhile p).length
theorem twN_le {α:Type} (p:α→Bool):∀ (l:List α),twN p l≤l.length
 | []=>Nat.le_refl _
 | x :: l=>by
  have:=twN_le p l
  unfold twN at *
  cases h:p x<;>simp [List.takeWhile_cons,h]
  omega
theorem twN_get {α:Type} (p:α→Bool):∀ (l:List α) (k:Nat) (x:α),k<twN p l→l[k]?=some x→p x=true
 | [],k,x,h,e=>by simp at e
 | y :: l,0,x,h,e=>by
  simp at e;subst e
  cases hp:p y with
  | true=>rfl
  | false=>simp [twN,List.takeWhile_cons,hp] at h
 | y :: l,k+1,x,h,e=>by
  cases hp:p y with
  | true=>exact twN_get p l k x (by simp [twN,List.takeWhile_cons,hp] at h ⊢;omega) (by simpa using e)
  | false=>simp [twN,List.takeWhile_cons,hp] at h
theorem twN_end {α:Type} (p:α→Bool):∀ (l:List α) (x:α),l[twN p l]?=some x→p x=false
 | [],x,e=>by simp at e
 | y :: l,x,e=>by
  cases hp:p y with
  | true=>exact twN_end p l x (by simpa [twN,List.takeWhile_cons,hp] using e)
  | false=>simp [twN,List.takeWhile_cons,hp] at e;subst e;exact hp
def posL (l:List Int) (n:Int):Nat:=twN (fun x=>decide (x<n)) l
def withL (l:List Int) (n:Int):List Int:=if l[posL l n]?=some n then l else l.take (posL l n)++n :: l.drop (posL l n)
theorem withL_len (l:List Int) (n:Int):(withL l n).length≤l.length+1:=by
 unfold withL
 split
 ·omega
 ·simp;omega
theorem b112 (l:List Int) (n:Int) (hl:l.length≤100000000):Best Tryz.prog 112 [.sl 1 (l.map intRow),.int .i64 n] (.p (.sl 1 ((withL l n).map intRow))):=by
 refine best mixed fn112 ok112 (by simp) ?_
 have hle:=twN_le (fun x=>decide (x<n)) l
 have hget:=fun k x=>twN_get (fun x=>decide (x<n)) l k x
 have hend:=fun x=>twN_end (fun x=>decide (x<n)) l x
 have hw:withL l n=if l[posL l n]?=some n then l else l.take (posL l n)++n :: l.drop (posL l n):=rfl
 unfold posL at hw
 generalize twN (fun x=>decide (x<n)) l=p at *
 simp -dsimp [ac112]
 refine loopC p (fun k=>⟨[(0,.p (.sl 1 (l.map intRow))),(1,.p (.int .i64 n)),(5,.p (.int .i64 k))],[]⟩) (fun _=>True) (fun k hk _=>?_) trivial (by simp)
 by_cases h:k<p
 ·have hkl:k<l.length:=by omega
  obtain ⟨x,ex⟩:∃ x,l[k]=x:=⟨_,rfl⟩
  have hx:=hget k x h (by rw [List.getElem?_eq_getElem hkl,ex])
  have hxn:x<n:=by simpa using hx
  have w:R ((k:Int)+1):=⟨by omega,by omega⟩
  simp -dsimp [hkl,ex,intRow,hxn,wr w,h]
 ·have:k=p:=by omega
  subst this
  by_cases hkl:k<l.length
  ·obtain ⟨x,ex⟩:∃ x,l[k]=x:=⟨_,rfl⟩
   have hxn:¬x<n:=by simpa using hend x (by rw [List.getElem?_eq_getElem hkl,ex])
   by_cases hxe:x=n
   ·rw [List.getElem?_eq_getElem hkl,ex,if_pos (by rw [hxe])] at hw
    rw [hw]
    subst hxe
    simp -dsimp [hkl,ex,intRow]
   ·rw [List.getElem?_eq_getElem hkl,ex,if_neg (by simpa using hxe)] at hw
    rw [hw]
    have kz:(0:Int)≤(k:Int):=by omega
    have ki:(k:Int)≤l.length:=by omega
    have m1:1+(l.length - k)≤maxLen:=by unfold maxLen;omega
    have m2:(1+(l.length - k))*8≤140737488355328:=by omega
    have m3:k≤maxLen:=by unfold maxLen;omega
    have m4:k*8≤140737488355328:=by omega
    have m5:k+(l.length - k+1)≤maxLen:=by unfold maxLen;omega
    have m6:(k+(l.length - k+1))*8≤140737488355328:=by omega
    have hmn:min k l.length=k:=by omega
    have dt:List.drop k (List.take l.length (l.map intRow))=List.drop k (l.map intRow):=by rw [List.take_of_length_le (by simp)]
    have hA:1+(l.length - k)≤l.length - k+1:=by omega
    have tA:List.take (1+(l.length - k)) ([PV.int .i64 n] :: List.drop k (l.map intRow))=[PV.int .i64 n] :: List.drop k (l.map intRow):=List.take_of_length_le (by simp;omega)
    have hB:1+(l.length - k)=l.length - k+1:=by omega
    simp -dsimp [-List.all_eq_true,↓dt,hkl,ex,intRow,hxn,hxe,kz,ki,hk,List.range,List.range.loop,m1,m2,m3,m4,m5,m6,hmn,hA,tA]
    exact List.take_of_length_le (by simp;omega)
  ·have:l[k]?=none:=List.getElem?_eq_none (by omega)
   rw [this,if_neg (by simp)] at hw
   rw [hw]
   have hkq:k=l.length:=by omega
   subst hkq
   have m1:l.length≤maxLen:=by unfold maxLen;omega
   have m2:l.length*8≤140737488355328:=by omega
   have m3:l.length+1≤maxLen:=by unfold maxLen;omega
   have m4:(l.length+1)*8≤140737488355328:=by omega
   have m5:1≤maxLen:=by unfold maxLen;omega
   simp -dsimp [-List.all_eq_true,hkl,List.range,List.range.loop,m1,m2,m3,m4,m5]
   rw [List.take_of_length_le (show (l.map intRow).length≤l.length by simp),List.take_of_length_le (by simp)]
   rfl
end
end Go.Abs.A29
namespace Go.Abs.A29
open Go Go.Abs Go.Proofs
set_option maxRecDepth 100000
set_option linter.unusedVariables false
set_option linter.unusedSimpArgs false
attribute [local simp ↓] awp_skip awp_seq awp_cond awp_block awp_exit awp_ret awp_reg awp_draw awp_ghost awp_loop awp_rfun awpR_nil awpR_cons awpX_nil awpX_0 awpX_1 awpX_2 awpI_eq awpI_t awpI_f awpStep_eq
attribute [local simp] condL_true condL_false condL_dec evDel evV evN evS evA initFr Ghost.app Fr.var Fr.blk Fr.ff FF.val Abs.look Fr.app Fr.erase Fr.noSlot AV.noSlot AV.noSlotL Blk.noSlot Fr.spoken AV.fz AV.fzL Blk.fz binV binI shI binS unV fillA FF.parts FF.vals headO intO boundO lenV scalarEq leavesEq AV.aggc AV.cells FF.read FF.rows AV.one PV.one chunk freshB newS pickV retK evRs evRl evR resOf mkTup mkAgg allP cloOf okP_nil okX_p okX okP addN Del.noSlot Del.owners Rnd reify_p normM insM Fr.back Fr.backV Fr.setPs normV insV
attribute [local simp] renF Fr.trim Blk.trim AV.rn AV.rnL Blk.rn AV.among AV.amongL Blk.among okF retM fixS BIG initFF
def llRow (l:List Int):List PV:=[.sl 1 (l.map intRow)]
def partL (l:List (List Int)) (k:Nat):List Int:=(l.getD k []).take 60
theorem b49 (l:List (List Int)) (k:Nat):Best Tryz.prog 49 [.sl 1 (l.map llRow),.int .i64 k] (.p (.sl 1 ((partL l k).map intRow))):=by
 by_cases h:k<l.length
 ·refine best mixed fn49 ok49 (by simp) ?_
  obtain ⟨x,ex⟩:∃ x,l[k]=x:=⟨_,rfl⟩
  have hx:partL l k=x.take 60:=by unfold partL;rw [List.getD_eq_getElem?_getD,List.getElem?_eq_getElem h,ex];rfl
  have c1:min (x.length:Int) 60=((min x.length 60:Nat):Int):=by omega
  have c2:min x.length 60≤x.length:=by omega
  have c3:(x.map intRow).take (min x.length 60)=(x.take 60).map intRow:=by
   rw [List.map_take,List.take_eq_take_iff];simp;omega
  rw [hx]
  generalize x.take 60=y at *
  simp -dsimp [ac49,h,ex,llRow,c1,c2,c3]
 ·have hx:partL l k=[]:=by unfold partL;rw [List.getD_eq_getElem?_getD,List.getElem?_eq_none (by omega)];rfl
  rw [hx]
  refine Best.res (v:=.nsl) (fun S x h=>h.nsl_sl 1) (best mixed fn49 ok49 (by simp) ?_)
  simp -dsimp [ac49,h]
structure Dr where
 l:List Int
 a:Nat
def Dr.cells (d:Dr):List AV:=[.p (.sl 1 (d.l.map intRow)),.p (.int .i64 d.a)]
def Dr.ok (d:Dr):Prop:=(∀ x∈d.l,R x)∧d.l.length≤140737488355328
def Dr.val (d:Dr) (n:Int):Int:=match d.l[d.a]? with
 | some x=>x % n
 | none=>0
def Dr.nxt (d:Dr):Dr:=⟨d.l,if d.a<d.l.length then d.a+1 else d.a⟩
theorem Dr.val_bd (d:Dr) {n:Int} (h:1≤n):0≤d.val n∧d.val n<n:=by
 unfold Dr.val
 split
 ·exact ⟨Int.emod_nonneg _ (by omega),Int.emod_lt_of_pos _ (by omega)⟩
 ·omega
theorem BestF.one {P:Program} {f:FuncId} {args:List AV} {v:AV} {k k':Blk} (h:BestF P f [((BIG,0),k)] args [(BIG,0)] v [((BIG,0),k')]) (s:Slot) (hv:v.among [(BIG,0)]=true) (hk:k'.among [(BIG,0)]=true) :
  BestF P f [(s,k.rnF fun _=>s)] (AV.rnFL (fun _=>s) args) [s] (v.rnF fun _=>s) [(s,k'.rnF fun _=>s)]:=
 h.ren (fun _=>s) (fun _=>(BIG,0)) (by simp) (by simp) (by simp) (by simpa using hv) (by simpa using hk)
theorem b50 (d:Dr) (hd:d.ok) {n:Int} (hn:1≤n) (hn2:n≤4611686018427387904) (s:Slot):BestF Tryz.prog 50 [(s,.box [.p (.sl 1 (d.l.map intRow)),.p (.int .i64 d.a)])] [.ptr s 2 0 0,.p (.int .i64 n)] [s] (.p (.int .i64 (d.val n))) [(s,.box [.p (.sl 1 (d.nxt.l.map intRow)),.p (.int .i64 d.nxt.a)])]:=by
 refine BestF.one (k:=.box d.cells) (k':=.box d.nxt.cells) (v:=.p (.int .i64 (d.val n))) (args:=[.ptr (BIG,0) 2 0 0,.p (.int .i64 n)]) ?_ s rfl rfl
 refine bestF mixed fn50 ok50 (by simp) (by simp) ?_
 obtain ⟨l,a⟩:=d
 obtain ⟨h1,h2⟩:=hd
 dsimp only at h1 h2
 by_cases h:a<l.length
 ·have hi:¬((l.length:Int)≤a):=by omega
  have w:R ((a:Int)+1):=⟨by omega,by omega⟩
  obtain ⟨x,ex⟩:∃ x,l[a]=x:=⟨_,rfl⟩
  have hx:=h1 x (by rw [←ex];simp)
  have p:=b21 (n:=x) (m:=n) hx hn hn2
  have hv:Dr.val ⟨l,a⟩ n=x % n:=by unfold Dr.val;dsimp only;rw [List.getElem?_eq_getElem h,ex]
  have e1:(a:Int)+1 - 1=a:=by omega
  have wa:R (a:Int):=⟨by omega,by omega⟩
  have hli:¬l.length≤a:=by omega
  simp -dsimp [ac50,Dr.cells,Dr.nxt,hi,hli,wr w,e1,wr wa,h,ex,intRow,hv]
  refine call_p p rfl (by simp) ?_
  simp -dsimp [retF]
 ·have hi:(l.length:Int)≤a:=by omega
  have hli:l.length≤a:=by omega
  have hv:Dr.val ⟨l,a⟩ n=0:=by unfold Dr.val;dsimp only;rw [List.getElem?_eq_none (by omega)]
  simp -dsimp [ac50,Dr.cells,Dr.nxt,hi,hli,h,hv,retF]
end Go.Abs.A29
namespace Go.Abs.A29
open Go Go.Abs Go.Proofs
set_option maxRecDepth 100000
set_option linter.unusedVariables false
set_option linter.unusedSimpArgs false
attribute [local simp ↓] awp_skip awp_seq awp_cond awp_block awp_exit awp_ret awp_reg awp_draw awp_ghost awp_loop awp_rfun awpR_nil awpR_cons awpX_nil awpX_0 awpX_1 awpX_2 awpI_eq awpI_t awpI_f awpStep_eq
attribute [local simp] condL_true condL_false condL_dec evDel evV evN evS evA initFr Ghost.app Fr.var Fr.blk Fr.ff FF.val Abs.look Fr.app Fr.erase Fr.noSlot AV.noSlot AV.noSlotL Blk.noSlot Fr.spoken AV.fz AV.fzL Blk.fz binV binI shI binS unV fillA FF.parts FF.vals headO intO boundO lenV scalarEq leavesEq AV.aggc AV.cells FF.read FF.rows AV.one PV.one chunk freshB newS pickV retK evRs evRl evR resOf mkTup mkAgg allP cloOf okP_nil okX_p okX okP addN Del.noSlot Del.owners Rnd reify_p normM insM Fr.back Fr.backV Fr.setPs normV insV
attribute [local simp] renF Fr.trim Blk.trim AV.rn AV.rnL Blk.rn AV.among AV.amongL Blk.among okF retM fixS BIG initFF
attribute [local simp] FF.reify FF.reifyL PV.flat
attribute [local simp] ym yn yl yk yb yc yf yj yh qp qe qi qo qg qa qk qz qm ql qt qf qj qn qb qc qs qr qq qd
section
def normL (l:List Int):List Int:=l.foldl withL []
theorem foldW_len:∀ (l m:List Int),(l.foldl withL m).length≤m.length+l.length
 | [],m=>by simp
 | x :: l,m=>by
  have h1:=foldW_len l (withL m x)
  have h2:=withL_len m x
  simp only [List.foldl_cons,List.length_cons];omega
theorem normL_len (l:List Int):(normL l).length≤l.length:=by
 have:=foldW_len l []
 simpa [normL] using this
theorem b71 (l:List Int) (hl:l.length≤10000000):Best Tryz.prog 71 [.sl 1 (l.map intRow)] (.p (.sl 1 ((normL l).map intRow))):=by
 refine best mixed fn71 ok71 (by simp) ?_
 simp -dsimp [ac71]
 refine loopC l.length (fun k=>⟨[(0,.p (.sl 1 (l.map intRow))),(3,.p (.sl 1 (((l.take k).foldl withL []).map intRow))),(4,.p (.int .i64 k))],[]⟩) (fun _=>True) (fun k hk _=>?_) trivial (by simp)
 by_cases h:k<l.length
 ·obtain ⟨x,ex⟩:∃ x,l[k]=x:=⟨_,rfl⟩
  have w:R ((k:Int)+1):=⟨by omega,by omega⟩
  have hs:(l.take (k+1)).foldl withL []=withL ((l.take k).foldl withL []) x:=by
   rw [List.take_add_one,List.getElem?_eq_getElem h,ex,List.foldl_append];rfl
  have hln:=foldW_len (l.take k) []
  have p:=b112 ((l.take k).foldl withL []) x (by rw [List.length_take] at hln;simp at hln;omega)
  rw [hs]
  generalize (l.take k).foldl withL []=m at *
  simp -dsimp [h,ex,intRow]
  refine call_p p rfl (by simp) ?_
  simp -dsimp [wr w,h]
 ·have:k=l.length:=by omega
  subst this
  rw [List.take_length]
  simp -dsimp [normL]
theorem b99' (d0:Dr) (h0:d0.ok) (many:Nat) (g:Int) (hm:many≤100) (hg:1≤g) (hg2:g≤1000):∃ x:List (List Int)×Dr,(x.2.ok∧x.1.length=many∧∀ y∈x.1,y.length≤3) ∧
  BestF Tryz.prog 99 [((BIG,0),.box [.p (.sl 1 (d0.l.map intRow)),.p (.int .i64 d0.a)])] [.ptr (BIG,0) 2 0 0,.p (.int .i64 many),.p (.int .i64 g)] [(BIG,0)] (.p (.sl 1 (x.1.map llRow))) [((BIG,0),.box [.p (.sl 1 (x.2.l.map intRow)),.p (.int .i64 x.2.a)])]:=by
 refine bestEF mixed fn99 ok99 (by simp) (by simp) ?_
 simp -dsimp [ac99]
 refine loopE many (fun k (x:List (List Int)×Dr)=>⟨[(0,.ptr (1000000,0) 2 0 0),(1,.p (.int .i64 many)),(2,.p (.int .i64 g)),(7,.ref (7,1) 1 0 k),(8,.p (.int .i64 k))],[((7,1),.sl 24 1 (x.1.map llRow)),((1000000,0),.box [.p (.sl 1 (x.2.l.map intRow)),.p (.int .i64 x.2.a)])]⟩) (fun k x=>x.2.ok∧x.1.length=k∧∀ y∈x.1,y.length≤3) ([],d0) (fun k x hk hQ=>?_) ⟨h0,rfl,by simp⟩ (by simp)
 obtain ⟨x,d⟩:=x
 obtain ⟨hd,hx,hsh⟩:=hQ
 dsimp only at hd hx hsh
 by_cases h:k<many
 ·have w:R ((k:Int)+1):=⟨by omega,by omega⟩
  have p:=b50 d hd (n:=3) (by decide) (by decide) (1000000,0)
  have hv:=d.val_bd (n:=3) (by decide)
  have w1:R (1+d.val 3):=⟨by omega,by omega⟩
  simp -dsimp [xc99b,h]
  refine call_m p (by simp) (by simp) (by simp) ?_
  simp -dsimp [wr w1]
  have hd':d.nxt.ok:=hd
  generalize d.nxt=d1 at *
  obtain ⟨m,hm1⟩:∃ m:Nat,1+d.val 3=m:=⟨(1+d.val 3).toNat,by omega⟩
  have hm3:m≤3:=by omega
  rw [hm1]
  clear hm1 hv w1 p
  refine loopE m (fun j (y:List Int×Dr)=>⟨[(0,.ptr (1000000,0) 2 0 0),(1,.p (.int .i64 many)),(2,.p (.int .i64 g)),(7,.ref (7,1) 1 0 k),(8,.p (.int .i64 k)),(9,.ref (31,j) 1 0 j),(10,.p (.int .i64 m)),(11,.p (.int .i64 j))],[((7,1),.sl 24 1 (x.map llRow)),((31,j),.sl 3 1 (y.1.map intRow)),((1000000,0),.box [.p (.sl 1 (y.2.l.map intRow)),.p (.int .i64 y.2.a)])]⟩) (fun j y=>y.2.ok∧y.1.length=j) ([],d1) (fun j y hj hQ=>?_) ⟨hd',rfl⟩ (by simp)
  obtain ⟨y,d2⟩:=y
  obtain ⟨hd2,hy⟩:=hQ
  dsimp only at hd2 hy
  by_cases hjm:j<m
  ·have wj:R ((j:Int)+1):=⟨by omega,by omega⟩
   have p:=b50 d2 hd2 (n:=min g 8) (by omega) (by omega) (1000000,0)
   have m1:y.length+1≤maxLen:=by unfold maxLen;omega
   have m2:(y.length+1)*8≤140737488355328:=by omega
   have hd3:d2.nxt.ok:=hd2
   generalize d2.nxt=d3 at *
   subst hy
   simp -dsimp [xc99c,hjm]
   refine call_m p (by simp) (by simp) (by simp) ?_
   simp -dsimp [wr wj,List.range,List.range.loop,m1,m2,hjm]
   exact ⟨y++[d2.val (min g 8)],d3,⟨hd3,by simp⟩,by simp [intRow],rfl,rfl⟩
  ·have:j=m:=by omega
   subst this
   have q:=b71 y (by omega)
   have hyt:List.take j (y.map intRow)=y.map intRow:=List.take_of_length_le (by simp;omega)
   have m1:x.length+1≤maxLen:=by unfold maxLen;omega
   have m2:(x.length+1)*24≤140737488355328:=by omega
   subst hx
   simp -dsimp [xc99c,hjm,hy,hyt]
   refine call_p q (by simp) (by simp) ?_
   simp -dsimp [wr w,List.range,List.range.loop,m1,m2,h]
   have hnl:=normL_len y
   refine ⟨x++[normL y],d2,⟨hd2,by simp,fun z hz=>?_⟩,?_,rfl,rfl⟩
   ·rcases List.mem_append.1 hz with h1 | h1
    ·exact hsh z h1
    ·rw [List.mem_singleton.1 h1];omega
   rw [List.take_of_length_le (by simp)]
   simp [llRow]
 ·have:k=many:=by omega
  subst this
  have hxt:List.take k (x.map llRow)=x.map llRow:=List.take_of_length_le (by simp;omega)
  simp -dsimp [xc99b,hx,hxt,retEF]
  exact ⟨x,rfl,d,⟨rfl,rfl⟩,hd,hx,hsh⟩
theorem b99 (d0:Dr) (h0:d0.ok) (many:Nat) (g:Int) (hm:many≤100) (hg:1≤g) (hg2:g≤1000) (s:Slot):∃ (x:List (List Int)) (d:Dr),d.ok∧(x.length=many∧∀ y∈x,y.length≤3) ∧
  BestF Tryz.prog 99 [(s,.box [.p (.sl 1 (d0.l.map intRow)),.p (.int .i64 d0.a)])] [.ptr s 2 0 0,.p (.int .i64 many),.p (.int .i64 g)] [s] (.p (.sl 1 (x.map llRow))) [(s,.box [.p (.sl 1 (d.l.map intRow)),.p (.int .i64 d.a)])]:=by
 obtain ⟨⟨x,d⟩,⟨h1,h2⟩,h3⟩:=b99' d0 h0 many g hm hg hg2
 exact ⟨x,d,h1,h2,BestF.one h3 s rfl rfl⟩
end
end Go.Abs.A29
namespace Go.Abs
open Go
def awpC (P:Program) (x:AC) (K:AE→Fr→Prop) (t:Tag x K) (F:Fr):Prop:=awp P x K F
theorem awpC_of (x:AC) {P:Program} {K:AE→Fr→Prop} {F:Fr}:awp P x K F=awpC P x K {} F:=rfl
theorem awpC_in {P:Program} {x:AC} {K:AE→Fr→Prop} {t:Tag x K} {F:Fr} (h:awp P x K F):awpC P x K t F:=h
theorem seqG1 {P:Program} {x z:AC} {g1:Ghost} {K:AE→Fr→Prop} {F:Fr} {α:Type} (fr:α→Fr) (Q:α→Prop) (h1:awp P x (fun e F'=>e=.normal∧∃ a,Q a∧(g1.app F')=some (fr a)) F) (h2:∀ a,Q a→awp P z K (fr a)):awp P (.seq x (.ghost g1 z)) K F:=by
 rw [awp_seq]
 refine awp_mono (fun e F' q=>?_) h1
 obtain ⟨rfl,a,q1,q2⟩:=q
 dsimp only
 rw [awp_ghost,q2];exact h2 a q1
theorem seqG3 {P:Program} {x z:AC} {g1 g2 g3:Ghost} {K:AE→Fr→Prop} {F:Fr} {α:Type} (fr:α→Fr) (Q:α→Prop) (h1:awp P x (fun e F'=>e=.normal∧∃ a,Q a∧((g1.app F').bind fun F1=>((g2.app F1).bind fun F2=>(g3.app F2)))=some (fr a)) F) (h2:∀ a,Q a→awp P z K (fr a)):awp P (.seq x (.ghost g1 (.ghost g2 (.ghost g3 z)))) K F:=by
 rw [awp_seq]
 refine awp_mono (fun e F' q=>?_) h1
 obtain ⟨rfl,a,q1,q2⟩:=q
 dsimp only
 rw [Option.bind_eq_some_iff] at q2;obtain ⟨F1,e1,q2⟩:=q2;rw [awp_ghost,e1];dsimp only
 rw [Option.bind_eq_some_iff] at q2;obtain ⟨F2,e2,q2⟩:=q2;rw [awp_ghost,e2];dsimp only
 rw [awp_ghost,q2];exact h2 a q1
theorem seqG5 {P:Program} {x z:AC} {g1 g2 g3 g4 g5:Ghost} {K:AE→Fr→Prop} {F:Fr} {α:Type} (fr:α→Fr) (Q:α→Prop) (h1:awp P x (fun e F'=>e=.normal∧∃ a,Q a∧((g1.app F').bind fun F1=>((g2.app F1).bind fun F2=>((g3.app F2).bind fun F3=>((g4.app F3).bind fun F4=>(g5.app F4)))))=some (fr a)) F) (h2:∀ a,Q a→awp P z K (fr a)):awp P (.seq x (.ghost g1 (.ghost g2 (.ghost g3 (.ghost g4 (.ghost g5 z)))))) K F:=by
 rw [awp_seq]
 refine awp_mono (fun e F' q=>?_) h1
 obtain ⟨rfl,a,q1,q2⟩:=q
 dsimp only
 rw [Option.bind_eq_some_iff] at q2;obtain ⟨F1,e1,q2⟩:=q2;rw [awp_ghost,e1];dsimp only
 rw [Option.bind_eq_some_iff] at q2;obtain ⟨F2,e2,q2⟩:=q2;rw [awp_ghost,e2];dsimp only
 rw [Option.bind_eq_some_iff] at q2;obtain ⟨F3,e3,q2⟩:=q2;rw [awp_ghost,e3];dsimp only
 rw [Option.bind_eq_some_iff] at q2;obtain ⟨F4,e4,q2⟩:=q2;rw [awp_ghost,e4];dsimp only
 rw [awp_ghost,q2];exact h2 a q1
def Wk (u v:AV):Prop:=∀ (ι:Inj) (S:Snap) (x:Value),AVRel ι S u x→AVRel ι S v x
theorem Wk.refl (u:AV):Wk u u:=fun _ _ _ h=>h
theorem Wk.top (u:AV):Wk u .top:=fun _ _ x _=>.top x
inductive WkL:List AV→List AV→Prop where
 | nil:WkL [] []
 | cons {u v:AV} {us vs:List AV} (h:Wk u v) (hs:WkL us vs):WkL (u :: us) (v :: vs)
theorem WkL.len {us vs:List AV} (h:WkL us vs):us.length=vs.length:=by
 induction h with
 | nil=>rfl
 | cons _ _ ih=>simp [ih]
theorem WkL.get {us vs:List AV} (h:WkL us vs):∀ {j:Nat} {v:AV},vs[j]?=some v→∃ u,us[j]?=some u∧Wk u v:=by
 induction h with
 | nil=>intro j v e;simp at e
 | cons h hs ih=>
  intro j v e
  cases j with
  | zero=>simp at e;subst e;exact ⟨_,rfl,h⟩
  | succ j=>simpa using ih (by simpa using e)
theorem WkL.rs {us vs:List AV} (h:WkL us vs) {ι:Inj} {S:Snap} {xs:List Value} (hr:Rs ι S us xs):Rs ι S vs xs:=
 ⟨by rw [hr.1,h.len],fun j v x e1 e2=>by obtain ⟨u,e3,e4⟩:=h.get e1;exact e4 ι S x (hr.2 j u x e3 e2)⟩
theorem Wk.agg {us vs:List AV} (h:WkL us vs):Wk (.agg us) (.agg vs):=by
 intro ι S x e
 cases e with
 | agg cells vals hl hh=>exact .agg _ vals (by rw [hl,h.len]) (h.rs ⟨hl,hh⟩).2
theorem Wk.pagg {ps:List PV} {vs:List AV} (h:WkL (ps.map .p) vs):Wk (.p (.agg ps)) (.agg vs):=by
 intro ι S x e
 cases e with
 | p _ _ e=>cases e with
  | agg cells vals hl hh=>
   refine .agg _ vals (by rw [hl,←h.len];simp) (h.rs ⟨by simpa using hl,fun j u v e1 e2=>?_⟩).2
   simp only [List.getElem?_map,Option.map_eq_some_iff] at e1
   obtain ⟨q,e3,rfl⟩:=e1
   exact .p _ _ (hh j q v e3 e2)
theorem BestF.args {P:Program} {f:FuncId} {M0 M1:List (Slot×Blk)} {us vs:List AV} {K:List Slot} {v:AV} (h:BestF P f M0 vs K v M1) (hw:WkL us vs):BestF P f M0 us K v M1:=
 ⟨h.1,fun ι S w xs hS hP hr=>h.2 ι S w xs hS hP (hw.rs hr)⟩
theorem Lent_nil {ι:Inj} {b:Nat}:¬Lent ι [] b:=by rintro ⟨s,k,t,e,_⟩;simp [look] at e
theorem BestF.pure {P:Program} {f:FuncId} {ps:List PV} {v:PV} (h:BestF P f [] (ps.map .p) [] (.p v) []):Best P f ps (.p v):=by
 refine ⟨h.1,fun S w xs hS hr=>(h.2 (fun _=>none) S w xs hS ⟨fun s k e=>by simp [look] at e,fun s k e=>by simp [look] at e,fun s s' k k' e=>by simp [look] at e⟩ ⟨?_,fun j u x e1 e2=>?_⟩).mono ?_⟩
 ·simpa using hr.1
 ·simp only [List.getElem?_map,Option.map_eq_some_iff] at e1
  obtain ⟨q,e3,rfl⟩:=e1
  exact .p _ _ (hr.2 j q x e3 e2)
 ·rintro e w' ⟨x,ι',S',rfl,g1,g2,g3,g4,g5,g6,g7,g8⟩
  exact ⟨x,S',rfl,g1.keep (fun _=>Lent_nil),g2,g3,fun a u q=>(g4 a u q).imp id fun q=>q.resolve_right Lent_nil,g5.inv_p⟩
end Go.Abs
namespace Go.Abs.A29
open Go Go.Abs Go.Proofs
set_option maxRecDepth 100000
set_option linter.unusedVariables false
set_option linter.unusedSimpArgs false
attribute [local simp ↓] awp_skip awp_seq awp_cond awp_block awp_exit awp_ret awp_reg awp_draw awp_ghost awp_loop awp_rfun awpR_nil awpR_cons awpX_nil awpX_0 awpX_1 awpX_2 awpI_eq awpI_t awpI_f awpStep_eq
attribute [local simp] condL_true condL_false condL_dec evDel evV evN evS evA initFr Ghost.app Fr.var Fr.blk Fr.ff FF.val Abs.look Fr.app Fr.erase Fr.noSlot AV.noSlot AV.noSlotL Blk.noSlot Fr.spoken AV.fz AV.fzL Blk.fz binV binI shI binS unV fillA FF.parts FF.vals headO intO boundO lenV scalarEq leavesEq AV.aggc AV.cells FF.read FF.rows AV.one PV.one chunk freshB newS pickV retK evRs evRl evR resOf mkTup mkAgg allP cloOf okP_nil okX_p okX okP addN Del.noSlot Del.owners Rnd reify_p normM insM Fr.back Fr.backV Fr.setPs normV insV
attribute [local simp] renF Fr.trim Blk.trim AV.rn AV.rnL Blk.rn AV.among AV.amongL Blk.among okF retM fixS BIG initFF
attribute [local simp] FF.reify FF.reifyL PV.flat
attribute [local simp] ym yn yl yk yb yc yf yj yh qp qe qi qo qg qa qk qz qm ql qt qf qj qn qb qc qs qr qq qd
section
attribute [local simp ↓] oneI oneDT oneTk oneD
def regS (l:List Int) (n k:Nat):List T3:=madeReg (l.drop (min l.length (9*k))) n
def regsL (l:List Int) (n m:Nat):List (List T3):=(List.range m).map (regS l n)
theorem regsL_succ (l:List Int) (n m:Nat):regsL l n (m+1)=regsL l n m++[regS l n m]:=by simp [regsL,List.range_succ]
theorem regsL_len (l:List Int) (n m:Nat):(regsL l n m).length=m:=by simp [regsL]
theorem b52 (l:List Int) (n m:Nat) (hn:n<1000) (hm:m≤1000):Best Tryz.prog 52 [.sl 1 (l.map intRow),.int .i64 n,.int .i64 m] (.p (.sl 1 ((regsL l n m).map regRow))):=by
 refine best mixed fn52 ok52 (by simp) ?_
 simp -dsimp [ac52]
 refine loopC m (fun k=>⟨[(0,.p (.sl 1 (l.map intRow))),(1,.p (.int .i64 n)),(2,.p (.int .i64 m)),(7,.ref (25,k) 1 0 k),(8,.p (.int .i64 k))],[((25,k),.sl 133 1 ((regsL l n k).map regRow))]⟩) (fun _=>True) (fun k hk _=>?_) trivial (by simp [regsL])
 have hL:((regsL l n k).map regRow).length=k:=by simp [regsL]
 by_cases h:k<m
 ·have w:R ((k:Int)+1):=⟨by omega,by omega⟩
  have w9:R (9*(k:Int)):=⟨by omega,by omega⟩
  have c1:min (l.length:Int) (9*k)=((min l.length (9*k):Nat):Int):=by omega
  have c2:min l.length (9*k)≤l.length:=by omega
  have p:=b95 (l.drop (min l.length (9*k))) n hn
  rw [show (l.drop (min l.length (9*k))).map intRow=(l.map intRow).drop (min l.length (9*k)) by simp [List.map_drop]] at p
  have m1:k+1≤maxLen:=by unfold maxLen;omega
  have m2:(k+1)*24≤140737488355328:=by omega
  have e5:List.take l.length (l.map intRow)=l.map intRow:=List.take_of_length_le (by simp)
  simp -dsimp [h,wr w9,c1,c2,e5]
  refine call_p p (by simp) (by simp) ?_
  simp -dsimp [wr w,List.range,List.range.loop,m1,m2,h,regsL_len]
  simp [regsL_succ,regRow,regS]
 ·have:k=m:=by omega
  subst this
  have:List.take k ((regsL l n k).map regRow)=(regsL l n k).map regRow:=List.take_of_length_le (by simp [regsL])
  simp -dsimp [regsL_len,this]
structure Ru where
 back:List (List Int)
 inp:List (List Int)
 ahead:List (List Int)
 out:List Int
 calls:List (Int×Int)
def ruRow (x:Ru):List PV:=[.sl 1 (x.back.map llRow),.sl 1 (x.inp.map llRow),.sl 1 (x.ahead.map llRow),.sl 1 (x.out.map intRow),.sl 2 (x.calls.map fun c=>[.int .i64 c.1,.int .i64 c.2])]
def Ru.ok (r:Ru):Prop:=r.back.length≤8∧r.inp.length≤8∧r.ahead.length≤8∧r.out.length≤8∧r.calls.length≤8
theorem b57 (l:List Ru) (hl:l.length≤1000) (h8:∀ x∈l,∀ y∈x.inp,y.length≤1000):∃ v:List Int,Best Tryz.prog 57 [.agg [.sl 5 (l.map ruRow)]] (.p (.sl 1 (v.map intRow))):=by
 obtain ⟨v,⟨x,rfl⟩,h⟩:=bestE (Q:=fun v=>∃ x:List Int,v=.sl 1 (x.map intRow)) mixed fn57 ok57 (args:=[.agg [.sl 5 (l.map ruRow)]]) (by simp) (by
  simp -dsimp [ac57]
  refine loopE l.length (fun k (y:Nat×List Int)=>⟨[(1,.ptr (1,0) 1 0 0),(3,.ref (29,y.1) 1 0 y.2.length),(4,.p (.int .i64 k))],[((1,0),.box [.p (.sl 5 (l.map ruRow))]),((29,y.1),.sl 3 1 (y.2.map intRow))]⟩) (fun k y=>y.2.length≤1000*k) (0,[]) (fun k y hk hQ=>?_) (by simp) (by simp)
  obtain ⟨c,y⟩:=y
  dsimp only at hQ
  by_cases h:k<l.length
  ·have w:R ((k:Int)+1):=⟨by omega,by omega⟩
   obtain ⟨r,er⟩:∃ r,l[k]=r:=⟨_,rfl⟩
   have h8':=h8 r (by rw [←er];simp)
   by_cases h0:r.inp=[]
   ·simp -dsimp [h,er,ruRow,h0,wr w]
    exact ⟨c,y,by omega,⟨rfl,rfl⟩,rfl,rfl⟩
   ·obtain ⟨z,zs,hz⟩:∃ z zs,r.inp=z :: zs:=by
     cases hh:r.inp with
     | nil=>exact absurd hh h0
     | cons z zs=>exact ⟨z,zs,rfl⟩
    have hzl:=h8' z (by rw [hz];simp)
    have m1:y.length+z.length≤maxLen:=by unfold maxLen;omega
    have m2:(y.length+z.length)*8≤140737488355328:=by omega
    have hp:(0:Int)<zs.length+1:=by omega
    have hyt:List.take y.length (y.map intRow)=y.map intRow:=List.take_of_length_le (by simp)
    simp -dsimp [h,er,ruRow,hz,hp,llRow,List.range,List.range.loop,m1,m2,wr w,hyt,-List.all_eq_true]
    exact ⟨c+1,y++z,by simp;omega,⟨rfl,by simp⟩,rfl,by simp⟩
  ·have:k=l.length:=by omega
   subst this
   have p:=b71 y (by omega)
   have ht:List.take y.length (y.map intRow)=y.map intRow:=List.take_of_length_le (by simp)
   simp -dsimp [ht]
   refine call_p p (by simp) (by simp) ?_
   simp -dsimp [retE]
   exact ⟨_,rfl⟩)
 exact ⟨x,h⟩
end
section
def xc56e:AC:=by
 apply fun (y:AC) (_:@Eq AC (qr [(qp 109 (qf 0 10)),(yk 110 109 [0]),(qp 111 (qt 5 13)),(qi 112 (.bslice 151 5 1 [.nsl,.nsl,.nsl,.nsl,.nsl] [(0,5,.v 111)]) [2]),(qi 113 (.app 151 5 120 (.v 110) (.v 112)) [1,3]),(yf 114 0 10 [0,1,2,3,4]),(qo (.store 1 (.v 114) (.v 113)) [5,4,4,0,1,2,3,4])]) y)=>y
 dsimp
def xc56f:AC:=by
 apply fun (y:AC) (_:@Eq AC (let e0:=[21,29,31,36,39,43,46,49,53,56,59,66,81,89,92,93,105,106,107,112,113];let e1:=[1,2,3,8,9,10,11,12,13,14,15];let e2:=[1,2,3,8,9,10,11,12,13,14,16];let e3:=[77,78,79,80,81,82,83,84,85,86,87,88,89,90,91,92];let e4:=[75,76,77,82,83,84,85,86,87,88];let e5:=[75,76,77,78,79,80,81,84,85,86,87,88,89];let e6:=[0,1,2,3,4,5,6,7,8,9];let e7:=[75,76,77,78,79,80,81,82,83,84];let e8:=[0,1];let e9:=[19,81];let e10:=[102,103,104,105,106];let e11:=[0,1,2];(qs (qs (qr [(ym 60 1),(yc 61 .add 60 (qz 1) [0]),(ym 62 2),(yb 63 .lss 61 62 [1,2]),(yn 64 63 [3]),(qg 65 (qm 9) 64 true [4]),(qg 66 (.call 50 [.v 65,.c (.int .i64 2)]) 64 true [5,4,4]),(qg 67 (qc .eql 66 (qz 0)) 64 true [6,4]),(qi 68 (.pick (.v 64) (.v 67) (.c (.bool false))) [4,7])]) (qk [1,2,3,8,9,10,11,12,13,14,68] (qq (.v 68) (qs (qr [(qp 15 (.mov (qz 0)))]) (qk e1 (.block 2 (.loop (qk e1 (qs (qs (qr [(ym 69 15),(ym 70 14),(yc 71 .rem 70 (qz 2) [1]),(yb 72 .leq 69 71 [0,2])]) (qk [1,2,3,8,9,10,11,12,13,14,15,72] (qq (.v 72) .skip (.exit 2)))) (qk e1 (qs (.block 3 (qd [(qa (qp 75 (qf 4 13)) e3 [19,81,89,92] [] [] 2),(qa (yk 76 75 [0]) e3 [19,81,89,92] [] [] 0),(qe (ym 77 9) [75,76,78,79,80,82,83,84,85,86,87,88] e8 2),(qe (qp 78 (qf 1 13)) e4 e11 2),(qe (yk 79 78 [3]) e4 e11 2),(qe (yh 80 79 [4]) e4 e11 2),(qa (qi 81 (.call 50 [.v 77,.v 80]) [2,5]) [75,76,82,83,84,85,86,87,88] [] e9 e8 1),(qa (ym 82 1) e5 [19,81,89] [] [0,1,2,3,4,5,6] 2),(qa (yc 83 .add 82 (qz 1) [7]) e5 [19,81,89] [] [0,1,2,3,4,5,6] 2),(qa (ym 84 9) [75,76,77,78,79,80,81,82,83,85,86,87,88] e9 [] [0,1,2,3,4,5,6,7,8] 2),(qa (ym 85 2) [75,76,77,78,79,80,81,82,83,84,86] e9 [] e6 2),(qa (ym 86 1) [75,76,77,78,79,80,81,82,83,84,85] e9 [] [0,1,2,3,4,5,6,7,8,9,10] 2),(qa (yb 87 .sub 85 86 [10,11]) e7 e9 [] e6 2),(qa (yc 88 .sub 87 (qz 1) [12]) e7 e9 [] e6 2),(qa (qi 89 (.call 50 [.v 84,.v 88]) [9,13,6]) [75,76,82,83] [] [19,89] [0,1,7,8] 1),(qe (yb 90 .add 83 89 [8,14]) [75,76] e8 2),(qe (qi 91 (.build [.int .i64 0,.int .i64 0] [(0,1,.v 81),(1,1,.v 90)]) [6,15]) [75,76] e8 2),(qa (qi 92 (.bslice 153 2 1 [.int .i64 0,.int .i64 0] [(0,2,.v 91)]) [16]) [75,76] [] [92] e8 1),(qa (qi 93 (.app 153 2 16 (.v 76) (.v 92)) [1,17,14]) [] [] e0 [] 1),(qe (yf 94 4 13 [0,1,2,3,4,5,6,7,8,9,10,11,12,13,14,15,16,17,18]) [] [] 2),(qa (qo (.store 1 (.v 94) (.v 93)) [19,18,18,0,1,2,3,4,5,6,7,8,9,10,11,12,13,14,15,16,17,18]) [] [] [13] [] 1)])) (qk e1 (qr [(ym 73 15),(yc 74 .add 73 (qz 1) [0]),(yn 15 74 [1,0,1])])))))))))) (qs (qr [(qp 16 (.mov (qz 0)))]) (qk e2 (.block 4 (.loop (qk e2 (qs (qs (qr [(ym 95 16),(ym 96 14),(yb 97 .lss 95 96 e8)]) (qk [1,2,3,8,9,10,11,12,13,14,16,97] (qq (.v 97) .skip (.exit 4)))) (qk e2 (qs (.block 5 (qd [(qa (qp 100 (qf 3 13)) e10 [19,105,106] [] [] 2),(qa (yk 101 100 [0]) e10 [19,105,106] [] [] 0),(qe (ym 102 9) [100,101,103,104] e8 2),(qe (ym 103 3) [100,101,102] e11 2),(qe (qi 104 (.mm false (.v 103) (qz 8)) [3]) [100,101,102] e11 2),(qa (qi 105 (.call 50 [.v 102,.v 104]) [2,4]) [100,101] [] [19,105] e8 1),(qa (qi 106 (.bslice 3 1 1 [.int .i64 0] [(0,1,.v 105)]) [5]) [100,101] [] [106] e8 1),(qa (qi 107 (.app 3 1 8 (.v 101) (.v 106)) [1,6,5]) [] [] e0 [] 1),(qe (yf 108 3 13 [0,1,2,3,4,5,6,7]) [] [] 2),(qa (qo (.store 1 (.v 108) (.v 107)) [8,7,7,0,1,2,3,4,5,6,7]) [] [] [13] [] 1)])) (qk e2 (qr [(ym 98 16),(yc 99 .add 98 (qz 1) [0]),(yn 16 99 [1,0,1])]))))))))))))) (.ghost (.canC (13,0) 4 (13,4)) (.ghost (.canC (13,0) 3 (13,3)) (.ghost (.freeze (13,4)) (.ghost (.freeze (13,3)) (qk [1,2,3,8,9,10,11,12,13] xc56e))))))) y)=>y
 dsimp
def xc56d:AC:=by
 apply fun (y:AC) (_:@Eq AC (qs (qr [(ym 58 9),(qi 59 (.call 50 [.v 58,.c (.int .i64 4)]) [0]),(yn 14 59 [1,1,0,1])]) (qk [1,2,3,8,9,10,11,12,13,14] xc56f)) y)=>y
 dsimp
def xc56c:AC:=by
 apply fun (y:AC) (_:@Eq AC (qs (qs (qr [(ym 48 9),(qi 49 (.call 50 [.v 48,.c (.int .i64 3)]) [0]),(yc 50 .eql 49 (qz 0) [1])]) (qk [1,2,3,8,9,10,11,12,13,50] (qq (.v 50) (qr [(ym 51 9),(ym 52 9),(qi 53 (.call 50 [.v 52,.c (.int .i64 2)]) [1]),(qi 54 (.bin .add (qz 1) (.v 53)) [2]),(ym 55 3),(qi 56 (.call 99 [.v 51,.v 54,.v 55]) [0,3,4,2]),(yf 57 2 13 [0,1,2,3,4,5]),(qo (.store 1 (.v 57) (.v 56)) [6,5,5,0,1,2,3,4,5])]) .skip))) (qk [1,2,3,8,9,10,11,12,13] xc56d)) y)=>y
 dsimp
def xc56b:AC:=by
 apply fun (y:AC) (_:@Eq AC (qs (qs (qr [(ym 38 9),(qi 39 (.call 50 [.v 38,.c (.int .i64 3)]) [0]),(yc 40 .eql 39 (qz 0) [1])]) (qk [1,2,3,8,9,10,11,12,13,40] (qq (.v 40) (qr [(ym 41 9),(ym 42 9),(qi 43 (.call 50 [.v 42,.c (.int .i64 2)]) [1]),(qi 44 (.bin .add (qz 1) (.v 43)) [2]),(ym 45 3),(qi 46 (.call 99 [.v 41,.v 44,.v 45]) [0,3,4,2]),(yf 47 0 13 [0,1,2,3,4,5]),(qo (.store 1 (.v 47) (.v 46)) [6,5,5,0,1,2,3,4,5])]) .skip))) (qk [1,2,3,8,9,10,11,12,13] xc56c)) y)=>y
 dsimp
def xc56a:AC:=by
 apply fun (y:AC) (_:@Eq AC (let e0:=[1,2,3,8,9,10,11,12];(qs (qs (qr [(ym 22 12),(ym 23 11),(yb 24 .lss 22 23 [0,1])]) (qk [1,2,3,8,9,10,11,12,24] (qq (.v 24) .skip (.exit 0)))) (qk e0 (qs (.block 1 (qs (qr [(ym 27 9),(ym 28 9),(qi 29 (.call 50 [.v 28,.c (.int .i64 5)]) [1]),(ym 30 9),(qi 31 (.call 50 [.v 30,.c (.int .i64 2)]) [3,2]),(yb 32 .mul 29 31 [2,4]),(yc 33 .rem 32 (qz 3) [5]),(qi 34 (.bin .add (qz 1) (.v 33)) [6]),(ym 35 3),(qi 36 (.call 99 [.v 27,.v 34,.v 35]) [0,7,8,4]),(qi 37 (.build [.nsl,.nsl,.nsl,.nsl,.nsl] [(1,1,.v 36)]) [9]),(qp 13 (.alloc [.nsl,.nsl,.nsl,.nsl,.nsl])),(qo (.store 5 (.v 13) (.v 37)) [11,10,9,0,1,2,3,4,5,6,7,8,9,10,11])]) (qk [1,2,3,8,9,10,11,12,13] (.ghost (.zslC (13,0) 0 1) (.ghost (.zslC (13,0) 2 1) (.ghost (.ownC (13,0) 3 (107,0) 3 1) (.ghost (.ownC (13,0) 4 (93,0) 153 2) xc56b))))))) (qk e0 (qr [(ym 25 12),(yc 26 .add 25 (qz 1) [0]),(yn 12 26 [1,0,1])])))))) y)=>y
 dsimp
def ac56:AC:=by
 apply fun (y:AC) (_:@Eq AC (let e0:=[1,2,3,8,9,10,11,12];(qk [0,1,2,3] (qs (qr [(qp 8 (.alloc [.nsl]))]) (qk [0,1,2,3,8] (qs (qr [(ym 17 0),(qi 18 (.build [.nsl,.int .i64 0] [(0,1,.v 17)]) [0]),(qi 19 (.box (.v 18)) [1]),(yn 9 19 [2,0,1,2])]) (qk [1,2,3,8,9] (qs (qr [(qp 10 (.alloc [.nsl]))]) (qk [1,2,3,8,9,10] (.ghost (.ownC (10,0) 0 (113,0) 151 5) (qs (qr [(ym 20 9),(qi 21 (.call 50 [.v 20,.c (.int .i64 4)]) [0]),(yn 11 21 [1,1,0,1])]) (qk [1,2,3,8,9,10,11] (qs (qs (qr [(qp 12 (.mov (qz 0)))]) (qk e0 (.block 0 (.loop (qk e0 xc56a))))) (.ghost (.canC (10,0) 0 (10,1)) (.ghost (.freeze (10,1)) (qk [8,10] (qs (qr [(qp 115 (qt 1 10)),(qo (.store 1 (.v 8) (.v 115)) [0,0])]) (qk [8] .ret))))))))))))))))) y)=>y
 dsimp
theorem fn56:factOf Tryz.prog 56=some (ac56.strip,[.cell 8 true 1],116):=by kernel_rfl
theorem ok56:ac56.okAll=true:=by kernel_rfl
end
section
set_option maxHeartbeats 2000000
attribute [local simp ↓] oneI oneDT oneTk oneD
def cRow (c:Int×Int):List PV:=[.int .i64 c.1,.int .i64 c.2]
theorem b50x (d:Dr) (hd:d.ok) (n:Int) (s:Slot) (hn:1≤n) (hn2:n≤4611686018427387904):∃ (v:Int) (d':Dr),d'.ok∧0≤v∧v<n∧BestF Tryz.prog 50 [(s,.box [.p (.sl 1 (d.l.map intRow)),.p (.int .i64 d.a)])] [.ptr s 2 0 0,.p (.int .i64 n)] [s] (.p (.int .i64 v)) [(s,.box [.p (.sl 1 (d'.l.map intRow)),.p (.int .i64 d'.a)])]:=
 ⟨d.val n,d.nxt,hd,(d.val_bd hn).1,(d.val_bd hn).2,b50 d hd hn hn2 s⟩
theorem b50n (d:Dr) (hd:d.ok) (n:Int) (s:Slot) (hn:1≤n) (hn2:n≤4611686018427387904):∃ (v:Nat) (d':Dr),d'.ok∧(v:Int)<n∧BestF Tryz.prog 50 [(s,.box [.p (.sl 1 (d.l.map intRow)),.p (.int .i64 d.a)])] [.ptr s 2 0 0,.p (.int .i64 n)] [s] (.p (.int .i64 v)) [(s,.box [.p (.sl 1 (d'.l.map intRow)),.p (.int .i64 d'.a)])]:=by
 obtain ⟨v,d',h1,h2,h3,h4⟩:=b50x d hd n s hn hn2
 refine ⟨v.toNat,d',h1,by omega,?_⟩
 rwa [show ((v.toNat:Nat):Int)=v by omega]
def fr56 (i m g c k:Nat) (x:List Ru) (back inn ahead:List (List Int)) (d:Dr) (rest:List (Nat×AV)) (o:AV) (q:AV) (M:List (Slot×Blk)):Fr:=⟨[(1,.p (.int .i64 i)),(2,.p (.int .i64 m)),(3,.p (.int .i64 g)),(8,.ptr (8,0) 1 0 0),(9,.ptr (19,0) 2 0 0),(10,.ptr (10,0) 1 0 0),(11,.p (.int .i64 c)),(12,.p (.int .i64 k)),(13,.ptr (13,0) 5 0 0)]++rest,[((8,0),.box [.p .nsl]),((10,0),.box [.ref (113,k) 5 0 k]),((13,0),.box [.p (.sl 1 (back.map llRow)),.p (.sl 1 (inn.map llRow)),.p (.sl 1 (ahead.map llRow)),o,q]),((19,0),.box [.p (.sl 1 (d.l.map intRow)),.p (.int .i64 d.a)])]++M++[((113,k),.sl 151 5 (x.map ruRow))]⟩
attribute [local simp] fr56
theorem b56 (l:List Int) (hl:∀ x∈l,R x) (hl2:l.length≤140737488355328) (i m g:Nat) (hi:i≤1000) (hm:m≤1000) (hg:1≤g) (hg2:g≤1000) :
  ∃ x:List Ru,(x.length≤4∧∀ r∈x,∀ y∈r.inp,y.length≤3)∧Best Tryz.prog 56 [.sl 1 (l.map intRow),.int .i64 i,.int .i64 m,.int .i64 g] (.p (.agg [.sl 5 (x.map ruRow)])):=by
 obtain ⟨v,⟨x,rfl,hx⟩,h⟩:=bestE (Q:=fun v=>∃ x:List Ru,v=.agg [.sl 5 (x.map ruRow)]∧(x.length≤4∧∀ r∈x,∀ y∈r.inp,y.length≤3)) mixed fn56 ok56 (args:=[.sl 1 (l.map intRow),.int .i64 i,.int .i64 m,.int .i64 g]) (by simp) (by
  simp -dsimp [ac56]
  obtain ⟨c,d1,hd1,hc4,p⟩:=b50n ⟨l,0⟩ ⟨hl,hl2⟩ 4 (19,0) (by decide) (by decide)
  refine call_m p (by simp) (by simp) (by simp) ?_
  simp -dsimp
  clear p
  refine loopE c (fun k (y:List Ru×Dr)=>⟨[(1,.p (.int .i64 i)),(2,.p (.int .i64 m)),(3,.p (.int .i64 g)),(8,.ptr (8,0) 1 0 0),(9,.ptr (19,0) 2 0 0),(10,.ptr (10,0) 1 0 0),(11,.p (.int .i64 c)),(12,.p (.int .i64 k))],[((8,0),.box [.p .nsl]),((10,0),.box [.ref (113,k) 5 0 k]),((19,0),.box [.p (.sl 1 (y.2.l.map intRow)),.p (.int .i64 y.2.a)]),((113,k),.sl 151 5 (y.1.map ruRow))]⟩) (fun k y=>y.2.ok∧y.1.length=k∧∀ r∈y.1,∀ z∈r.inp,z.length≤3) ([],d1) (fun k y hk hQ=>?_) ⟨hd1,rfl,by simp⟩ (by simp)
  obtain ⟨x,d⟩:=y
  obtain ⟨hd,hx,hsh⟩:=hQ
  dsimp only at hd hx hsh
  by_cases h:k<c
  ·have w:R ((k:Int)+1):=⟨by omega,by omega⟩
   simp -dsimp [xc56a,h]
   obtain ⟨v1,d1,hd1,v1l,p⟩:=b50n d hd 5 (19,0) (by decide) (by decide)
   refine call_m p (by simp) (by simp) (by simp) ?_
   simp -dsimp
   obtain ⟨v2,d2,hd2,v2l,p⟩:=b50n d1 hd1 2 (19,0) (by decide) (by decide)
   refine call_m p (by simp) (by simp) (by simp) ?_
   have hv:v1*v2≤4:=by
    have:v1*v2≤4*1:=Nat.mul_le_mul (by omega) (by omega)
    omega
   have w1:R ((v1:Int)*v2):=⟨by omega,by omega⟩
   have w2:((v1:Int)*v2).tmod 3=(v1:Int)*v2 % 3:=Int.tmod_eq_emod_of_nonneg (by omega)
   obtain ⟨n,hn⟩:∃ n:Nat,1+(v1:Int)*v2 % 3=n:=⟨1+v1*v2 % 3,by omega⟩
   have hn1:1≤n:=by omega
   have hn3:n≤3:=by omega
   have w3:R ((n:Int)):=⟨by omega,by omega⟩
   simp -dsimp [wr w1,w2,hn,wr w3]
   clear hn hv w1 w2 w3 v2l p
   obtain ⟨inn,d3,hd3,⟨hin,hin3⟩,p⟩:=b99 d2 hd2 n g (by omega) (by omega) (by omega) (19,0)
   refine call_m p (by simp) (by simp) (by simp) ?_
   simp -dsimp [↓ awpC_of xc56b]
   clear p
   -- back
   refine awpC_in (seqG1 (α:=List (List Int)×Dr) (fun y=>fr56 i m g c k x y.1 inn [] y.2 [] (.ref (107,0) 1 0 0) (.ref (93,0) 2 0 0) [((93,0),.sl 153 2 []),((107,0),.sl 3 1 [])]) (fun y=>y.2.ok) ?_ ?_)
   ·simp -dsimp
    obtain ⟨v1,d4,hd4,v1l,p⟩:=b50n d3 hd3 3 (19,0) (by decide) (by decide)
    refine call_m p (by simp) (by simp) (by simp) ?_
    simp -dsimp
    by_cases h0:v1=0
    ·simp -dsimp [h0]
     obtain ⟨v2,d5,hd5,v2l,p⟩:=b50n d4 hd4 2 (19,0) (by decide) (by decide)
     refine call_m p (by simp) (by simp) (by simp) ?_
     have w3:R (((1+v2:Nat):Int)):=⟨by omega,by omega⟩
     have w4:(1:Int)+v2=((1+v2:Nat):Int):=by omega
     rw [←w4] at w3
     simp -dsimp [wr w3]
     obtain ⟨y,d6,hd6,⟨hy,hy3⟩,p⟩:=b99 d5 hd5 (1+v2) g (by omega) (by omega) (by omega) (19,0)
     rw [←w4] at p
     refine call_m p (by simp) (by simp) (by simp) ?_
     simp -dsimp [fr56]
     exact ⟨y,d6,hd6,by simp⟩
    ·simp -dsimp [h0,fr56]
     exact ⟨[],d4,hd4,by simp⟩
   ·rintro ⟨back,d4⟩ hd4
    dsimp only at hd4 ⊢
    -- ahead
    refine seqG1 (α:=List (List Int)×Dr) (fun y=>fr56 i m g c k x back inn y.1 y.2 [] (.ref (107,0) 1 0 0) (.ref (93,0) 2 0 0) [((93,0),.sl 153 2 []),((107,0),.sl 3 1 [])]) (fun y=>y.2.ok) ?_ ?_
    ·simp -dsimp [fr56]
     obtain ⟨v1,d5,hd5,v1l,p⟩:=b50n d4 hd4 3 (19,0) (by decide) (by decide)
     refine call_m p (by simp) (by simp) (by simp) ?_
     simp -dsimp
     by_cases h0:v1=0
     ·simp -dsimp [h0]
      obtain ⟨v2,d6,hd6,v2l,p⟩:=b50n d5 hd5 2 (19,0) (by decide) (by decide)
      refine call_m p (by simp) (by simp) (by simp) ?_
      have w3:R (((1+v2:Nat):Int)):=⟨by omega,by omega⟩
      have w4:(1:Int)+v2=((1+v2:Nat):Int):=by omega
      rw [←w4] at w3
      simp -dsimp [wr w3]
      obtain ⟨y,d7,hd7,⟨hy,hy3⟩,p⟩:=b99 d6 hd6 (1+v2) g (by omega) (by omega) (by omega) (19,0)
      rw [←w4] at p
      refine call_m p (by simp) (by simp) (by simp) ?_
      simp -dsimp
      exact ⟨y,d7,hd7,by simp⟩
     ·simp -dsimp [h0]
      exact ⟨[],d5,hd5,by simp⟩
    rintro ⟨ahead,d5⟩ hd5
    dsimp only at hd5 ⊢
    simp -dsimp [xc56d,fr56,↓ awpC_of xc56f]
    obtain ⟨u,d6,hd6,u4,p⟩:=b50n d5 hd5 4 (19,0) (by decide) (by decide)
    refine call_m p (by simp) (by simp) (by simp) ?_
    simp -dsimp [↓ awpC_of xc56f]
    refine awpC_in (seqG5 (α:=(List Int×List (Int×Int))×Dr) (fun y=>fr56 i m g c k x back inn ahead y.2 [] (.p (.sl 1 (y.1.1.map intRow))) (.p (.sl 2 (y.1.2.map cRow))) []) (fun y=>y.2.ok) ?_ ?_)
    ·have ww:R ((i:Int)+1):=⟨by omega,by omega⟩
     by_cases hi1:i+1<m
     ·have hi1':(i:Int)+1<m:=by omega
      simp -dsimp [wr ww,hi1']
      obtain ⟨z,d7,hd7,z2,p⟩:=b50n d6 hd6 2 (19,0) (by decide) (by decide)
      refine call_m p (by simp) (by simp) (by simp) ?_
      simp -dsimp
      by_cases h0:z=0
      ·simp -dsimp [h0]
       obtain ⟨e,he⟩:∃ e:Nat,(u:Int) % 2=e:=⟨u % 2,by omega⟩
       have he':(u:Int).tmod 2=e:=by rw [Int.tmod_eq_emod_of_nonneg (by omega),he]
       refine loopE (e+1) (fun j (y:List (Int×Int)×Dr)=>fr56 i m g c k x back inn ahead y.2 [(14,.p (.int .i64 u)),(15,.p (.int .i64 j))] (.ref (107,0) 1 0 0) (.ref (93,j) 2 0 j) [((93,j),.sl 153 2 (y.1.map cRow)),((107,0),.sl 3 1 [])]) (fun j y=>y.2.ok∧y.1.length=j) ([],d7) (fun j y hj hQ=>?_) ⟨hd7,rfl⟩ (by simp)
       obtain ⟨y,d8⟩:=y
       obtain ⟨hd8,hy⟩:=hQ
       dsimp only at hd8 hy
       by_cases hje:j<e+1
       ·have wj:R ((j:Int)+1):=⟨by omega,by omega⟩
        have hje':(j:Int)≤e:=by omega
        simp -dsimp [hje,hje',he,he']
        obtain ⟨q1,d9,hd9,q1l,p⟩:=b50n d8 hd8 inn.length (19,0) (by omega) (by omega)
        refine call_m p (by simp) (by simp) (by simp) ?_
        have q2:R ((m:Int) - i):=⟨by omega,by omega⟩
        have q3:R ((m:Int) - i - 1):=⟨by omega,by omega⟩
        simp -dsimp [wr ww,wr q2,wr q3]
        obtain ⟨q4,d10,hd10,q4l,p⟩:=b50n d9 hd9 ((m:Int) - i - 1) (19,0) (by omega) (by omega)
        refine call_m p (by simp) (by simp) (by simp) ?_
        have q5:R ((i:Int)+1+q4):=⟨by omega,by omega⟩
        have m1:y.length+1≤maxLen:=by unfold maxLen;omega
        have m2:(y.length+1)*16≤140737488355328:=by omega
        subst hy
        simp -dsimp [wr q5,wr wj,List.range,List.range.loop,m1,m2,hje]
        exact ⟨y++[((q1:Int),(i:Int)+1+q4)],d10,⟨hd10,by simp⟩,⟨rfl,rfl⟩,by simp [cRow]⟩
       ·have:j=e+1:=by omega
        subst this
        have hje':¬((e:Int)+1≤e):=by omega
        have ht:List.take (e+1) (y.map cRow)=y.map cRow:=List.take_of_length_le (by simp;omega)
        simp -dsimp [he,he',hje',hy,ht]
        exact ⟨[],y,d8,hd8,by simp⟩
      ·simp -dsimp [h0]
       refine loopE u (fun j (y:List Int×Dr)=>fr56 i m g c k x back inn ahead y.2 [(14,.p (.int .i64 u)),(16,.p (.int .i64 j))] (.ref (107,j) 1 0 j) (.ref (93,0) 2 0 0) [((93,0),.sl 153 2 []),((107,j),.sl 3 1 (y.1.map intRow))]) (fun j y=>y.2.ok∧y.1.length=j) ([],d7) (fun j y hj hQ=>?_) ⟨hd7,rfl⟩ (by simp)
       obtain ⟨y,d8⟩:=y
       obtain ⟨hd8,hy⟩:=hQ
       dsimp only at hd8 hy
       by_cases hje:j<u
       ·have wj:R ((j:Int)+1):=⟨by omega,by omega⟩
        simp -dsimp [hje]
        obtain ⟨q1,d9,hd9,q1l,p⟩:=b50n d8 hd8 (min (g:Int) 8) (19,0) (by omega) (by omega)
        refine call_m p (by simp) (by simp) (by simp) ?_
        have m1:y.length+1≤maxLen:=by unfold maxLen;omega
        have m2:(y.length+1)*8≤140737488355328:=by omega
        subst hy
        simp -dsimp [wr wj,List.range,List.range.loop,m1,m2,hje]
        exact ⟨y++[(q1:Int)],d9,⟨hd9,by simp⟩,⟨rfl,rfl⟩,by simp [intRow]⟩
       ·have:j=u:=by omega
        subst this
        have ht:List.take j (y.map intRow)=y.map intRow:=List.take_of_length_le (by simp;omega)
        simp -dsimp [hje,hy,ht]
        exact ⟨y,[],d8,hd8,by simp⟩
     ·have hi1':¬(i:Int)+1<m:=by omega
      simp -dsimp [wr ww,hi1']
      refine loopE u (fun j (y:List Int×Dr)=>fr56 i m g c k x back inn ahead y.2 [(14,.p (.int .i64 u)),(16,.p (.int .i64 j))] (.ref (107,j) 1 0 j) (.ref (93,0) 2 0 0) [((93,0),.sl 153 2 []),((107,j),.sl 3 1 (y.1.map intRow))]) (fun j y=>y.2.ok∧y.1.length=j) ([],d6) (fun j y hj hQ=>?_) ⟨hd6,rfl⟩ (by simp)
      obtain ⟨y,d8⟩:=y
      obtain ⟨hd8,hy⟩:=hQ
      dsimp only at hd8 hy
      by_cases hje:j<u
      ·have wj:R ((j:Int)+1):=⟨by omega,by omega⟩
       simp -dsimp [hje]
       obtain ⟨q1,d9,hd9,q1l,p⟩:=b50n d8 hd8 (min (g:Int) 8) (19,0) (by omega) (by omega)
       refine call_m p (by simp) (by simp) (by simp) ?_
       have m1:y.length+1≤maxLen:=by unfold maxLen;omega
       have m2:(y.length+1)*8≤140737488355328:=by omega
       subst hy
       simp -dsimp [wr wj,List.range,List.range.loop,m1,m2,hje]
       exact ⟨y++[(q1:Int)],d9,⟨hd9,by simp⟩,⟨rfl,rfl⟩,by simp [intRow]⟩
      ·have:j=u:=by omega
       subst this
       have ht:List.take j (y.map intRow)=y.map intRow:=List.take_of_length_le (by simp;omega)
       simp -dsimp [hje,hy,ht]
       exact ⟨y,[],d8,hd8,by simp⟩
    ·rintro ⟨⟨out,calls⟩,d7⟩ hd7
     dsimp only at hd7 ⊢
     have m1:x.length+1≤maxLen:=by unfold maxLen;omega
     have m2:(x.length+1)*120≤140737488355328:=by omega
     subst hx
     simp -dsimp [xc56e,wr w,m1,m2,h]
     refine ⟨x++[⟨back,inn,ahead,out,calls⟩],d7,⟨hd7,by simp,fun r hr=>?_⟩,⟨rfl,rfl⟩,by simp [ruRow,cRow]⟩
     rcases List.mem_append.1 hr with h1 | h1
     ·exact hsh r h1
     ·rw [List.mem_singleton.1 h1];exact hin3
  ·have:k=c:=by omega
   subst this
   have ht:List.take k (x.map ruRow)=x.map ruRow:=List.take_of_length_le (by simp;omega)
   simp -dsimp [xc56a,hx,ht,retE]
   refine ⟨x,rfl,by omega,fun r hr=>hsh r hr⟩)
 exact ⟨x,hx,h⟩
end
section
def conRow (x:List (Int×Int×Bool)):List PV:=[.sl 3 (x.map fun y=>[.int .i64 y.1,.int .i64 y.2.1,.bool y.2.2])]
def i3Row (x:Int×Int×Int):List PV:=[.int .i64 x.1,.int .i64 x.2.1,.int .i64 x.2.2]
def pointsN (con:List (List (Int×Int×Bool))) (an:List (Int×Int×Int)):Nat:=an.length+1+(con.map List.length).sum
theorem b98t (con:List (List (Int×Int×Bool))) (an:List (Int×Int×Int)) (h1:con.length≤1000) (h2:∀ x∈con,x.length≤1000) (h3:an.length≤1000) :
  BestF Tryz.prog 98 [] [.agg [.p (.sl 1 (con.map conRow)),.p (.sl 3 (an.map i3Row)),.top,.top,.top,.top,.top,.top]] [] (.p (.int .i64 (pointsN con an))) []:=by
 refine bestF mixed fn98 ok98 (by simp) (by simp) ?_
 have w0:R ((an.length:Int)+1):=⟨by omega,by omega⟩
 have hb:∀ k,((con.take k).map List.length).sum≤1000*k:=by
  intro k
  induction k with
  | zero=>simp
  | succ k ih=>
   by_cases hk:k<con.length
   ·have e:=h2 con[k] (by simp)
    have e2:((con.take (k+1)).map List.length).sum=((con.take k).map List.length).sum+con[k].length:=by
     rw [List.take_add_one,List.getElem?_eq_getElem hk];simp only [Option.toList,List.map_append,List.sum_append,List.map_cons,List.map_nil,List.sum_cons,List.sum_nil];omega
    omega
   ·rw [List.take_of_length_le (by omega)] at ih ⊢;omega
 simp -dsimp [ac98,wr w0]
 refine loopC con.length (fun k=>⟨[(1,.ptr (1,0) 8 0 0),(3,.p (.int .i64 ((an.length+1+((con.take k).map List.length).sum:Nat)))),(4,.p (.int .i64 k))],[((1,0),.box [.p (.sl 1 (con.map conRow)),.p (.sl 3 (an.map i3Row)),.top,.top,.top,.top,.top,.top])]⟩) (fun _=>True) (fun k hk _=>?_) trivial (by simp)
 by_cases h:k<con.length
 ·obtain ⟨x,ex⟩:∃ x,con[k]=x:=⟨_,rfl⟩
  have w:R ((k:Int)+1):=⟨by omega,by omega⟩
  have hx:=h2 x (by rw [←ex];simp)
  have hs:((con.take (k+1)).map List.length).sum=((con.take k).map List.length).sum+x.length:=by
   rw [List.take_add_one,List.getElem?_eq_getElem h,ex];simp only [Option.toList,List.map_append,List.sum_append,List.map_cons,List.map_nil,List.sum_cons,List.sum_nil];omega
  have hbk:=hb k
  rw [hs]
  generalize ((con.take k).map List.length).sum=z at *
  have w2:R ((an.length:Int)+1+z+x.length):=⟨by omega,by omega⟩
  simp -dsimp [h,ex,conRow,wr w2,wr w]
  omega
 ·have:k=con.length:=by omega
  subst this
  simp -dsimp [retF,pointsN]
theorem pagg_tops {a b c d e f g h:PV}:WkL [.p (.agg [a,b,c,d,e,f,g,h])] [.agg [.p a,.p b,.top,.top,.top,.top,.top,.top]]:=
 .cons (.pagg (.cons (.refl _) (.cons (.refl _) (.cons (.top _) (.cons (.top _) (.cons (.top _) (.cons (.top _) (.cons (.top _) (.cons (.top _) .nil))))))))) .nil
theorem b98 (con:List (List (Int×Int×Bool))) (an:List (Int×Int×Int)) (c d e f g h:PV) (h1:con.length≤1000) (h2:∀ x∈con,x.length≤1000) (h3:an.length≤1000) :
  Best Tryz.prog 98 [.agg [.sl 1 (con.map conRow),.sl 3 (an.map i3Row),c,d,e,f,g,h]] (.p (.int .i64 (pointsN con an))):=
 BestF.pure (BestF.args (b98t con an h1 h2 h3) pagg_tops)
end
end Go.Abs.A29
