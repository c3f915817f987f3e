/- A part of the proof: an abstract reading of the model, contracts of functions. -/
import Derived.Test.YtinblgdfhmllnaaGreatC22
import Derived.Test.YtinblgdfhmllnaaGreatProg
set_option linter.unusedVariables false
set_option linter.unusedSimpArgs false
namespace Go.Abs.A29
open Go Go.Abs Go.Proofs
set_option maxRecDepth 100000
set_option linter.unusedVariables false
set_option linter.unusedSimpArgs false
attribute [local simp ↓] awp_skip awp_seq awp_cond awp_block awp_exit awp_ret awp_reg awp_draw awp_ghost awp_loop awp_rfun awpR_nil awpR_cons awpX_nil awpX_0 awpX_1 awpX_2 awpI_eq awpI_t awpI_f awpStep_eq
attribute [local simp] condL_true condL_false condL_dec evDel evV evN evS evA initFr Ghost.app Fr.var Fr.blk Fr.ff FF.val Abs.look Fr.app Fr.erase Fr.noSlot AV.noSlot AV.noSlotL Blk.noSlot Fr.spoken AV.fz AV.fzL Blk.fz binV binI shI binS unV fillA FF.parts FF.vals headO intO boundO lenV scalarEq leavesEq AV.aggc AV.cells FF.read FF.rows AV.one PV.one chunk freshB newS pickV retK evRs evRl evR resOf mkTup mkAgg allP cloOf okP_nil okX_p okX okP addN Del.noSlot Del.owners Rnd reify_p normM insM Fr.back Fr.backV Fr.setPs normV insV
attribute [local simp] renF Fr.trim Blk.trim AV.rn AV.rnL Blk.rn AV.among AV.amongL Blk.among okF retM fixS BIG initFF
attribute [local simp] FF.reify FF.reifyL PV.flat
attribute [local simp] ym yn yl yk yb yc yf yj yh qp qe qi qo qg qa qk qz qm ql qt qf qj qn qb qc qs qr qq qd
section
def ac75:AC:=by
 apply fun (y:AC) (_:@Eq AC (qk [0,1,2] (qs (qr [(qp 6 (.mov (.c (.bool false))))]) (qk [0,1,2] (qs (qr [(ym 7 1),(ym 8 0),(yb 9 .leq 7 8 [0,1]),(yn 10 9 [2]),(qg 11 (qm 0) 10 true [3]),(qg 12 (qm 2) 10 true [3]),(qg 13 (qb .leq 11 12) 10 true [4,5,3]),(qi 14 (.pick (.v 10) (.v 13) (.c (.bool false))) [3,6]),(yn 6 14 [7,3,0,1,2,3,4,5,6,7])]) (qk [6] .ret))))) y)=>y
 dsimp
theorem fn75:factOf Tryz.prog 75=some (ac75.strip,[.tmp 6],15):=by kernel_rfl
theorem ok75:ac75.okAll=true:=by kernel_rfl
def ac78:AC:=by
 apply fun (y:AC) (_:@Eq AC (let e0:=[0,1,7,8];(qk [0,1] (qs (qr [(qp 4 (.mov (qz 0)))]) (qk [0,1] (qs (qs (qr [(ym 6 0),(yh 7 6 [0]),(qp 8 (.mov (qz 0)))]) (qk e0 (.block 0 (.loop (qk e0 (qs (qr [(qp 9 (qb .lss 8 7))]) (qk [0,1,7,8,9] (qs (qq (.v 9) .skip (.exit 0)) (qk e0 (qs (.block 1 (qs (qr [(ym 10 8),(yn 5 10 [0,0])]) (qk [0,1,5,7,8] (qs (qr [(ym 11 1),(ym 12 0),(ym 13 5),(yj 14 3 12 13 [1,2]),(qi 15 (qt 3 14) [3]),(qi 16 (.callv (.v 11) [.v 15]) [0,4])]) (qk [0,1,5,7,8,16] (qq (.v 16) (qs (qr [(ym 17 5),(yn 4 17 [0,0])]) (qk [4] .ret)) .skip)))))) (qk e0 (qr [(qp 18 (qc .add 8 (qz 1))),(yn 8 18 [0])])))))))))))) (qk [] (qs (qr [(qp 4 (.mov (qz (-1))))]) (qk [4] .ret)))))))) y)=>y
 dsimp
theorem fn78:factOf Tryz.prog 78=some (ac78.strip,[.tmp 4],19):=by kernel_rfl
theorem ok78:ac78.okAll=true:=by kernel_rfl
def ac39:AC:=by
 apply fun (y:AC) (_:@Eq AC (qk [0,1,2] (qs (qr [(qp 3 (.box (.v 0))),(qp 5 (.box (.v 2))),(qp 6 (.mov (qz 0))),(qi 7 (.mov (.c (.bool false))) [2])]) (qk [1,3,5] (qs (qr [(qp 12 (qt 9 3)),(ym 13 1),(qi 14 (.call 65 [.v 12,.v 13]) [0,1]),(yn 11 14 [2]),(qi 15 (.ext (.v 11) 0) [3]),(qi 16 (.ext (.v 11) 1) [3]),(qp 8 (.alloc [.int .i64 0,.int .i64 0,.int .i64 0,.nsl])),(qo (.store 4 (.v 8) (.v 15)) [6,4,2,0,1,2,3,4,6]),(yn 9 16 [5,7,0,1,2,3,4,5,6,7])]) (qk [3,5,8,9] (qs (qs (qr [(ym 17 9),(qi 18 (.un .not (.v 17)) [0]),(yn 19 18 [1]),(qg 20 (qf 0 5) 19 false [2]),(qg 21 (ql 20) 19 false [3,2]),(qg 22 (.call 75 [.v 21,.c (.int .i64 4),.c (.int .i64 32)]) 19 false [4,2,2]),(qg 23 (.un .not (.v 22)) 19 false [5,2]),(qi 24 (.pick (.v 19) (.c (.bool true)) (.v 23)) [2,6])]) (qk [3,5,8,24] (qq (.v 24) (qs (qr [(qp 6 (.mov (qz 0))),(qi 7 (.mov (.c (.bool false))) [0,0])]) (qk [6,7] .ret)) .skip))) (qk [3,5,8] (qs (qr [(qp 26 (qf 2 8)),(yk 27 26 [0]),(qp 28 (qf 3 8)),(yk 29 28 [2]),(qp 30 (qf 3 3)),(yk 31 30 [4]),(qp 32 (qf 1 5)),(yk 33 32 [6]),(qi 34 (.call 76 [.v 27,.v 29,.v 31,.v 33]) [1,3,5,7]),(yn 25 34 [8]),(qi 35 (.ext (.v 25) 0) [9]),(qi 36 (.ext (.v 25) 1) [9]),(yn 10 35 [10,8,0,1,2,3,4,5,6,7,8,9,10]),(yn 9 36 [11,12,0,1,2,3,4,5,6,7,8,9,10,11,12])]) (qk [5,9,10] (qs (qs (qr [(ym 37 9),(qi 38 (.un .not (.v 37)) [0])]) (qk [5,10,38] (qq (.v 38) (qs (qr [(qp 6 (.mov (qz 0))),(qi 7 (.mov (.c (.bool false))) [0,0])]) (qk [6,7] .ret)) .skip))) (qk [5,10] (qs (qr [(ym 40 10),(qp 41 (qf 0 5)),(yk 42 41 [1]),(yb 43 .mul 40 42 [0,2]),(qi 44 (.call 77 [.v 43,.c (.int .i64 4096)]) [3]),(yn 39 44 [4]),(qi 45 (.ext (.v 39) 0) [5]),(qi 46 (.ext (.v 39) 1) [5]),(yn 10 45 [6,4,0,1,2,3,4,5,6])]) (qk [10] (qs (qr [(ym 47 10),(qi 48 (.mm true (.v 47) (qz 0)) [0]),(yn 6 48 [1,0,1]),(qi 7 (.mov (.c (.bool true))) [2,0,1,2])]) (qk [6,7] .ret))))))))))))))) y)=>y
 dsimp
theorem fn39:factOf Tryz.prog 39=some (ac39.strip,[.tmp 6,.tmp 7],49):=by kernel_rfl
theorem ok39:ac39.okAll=true:=by kernel_rfl
def ac40:AC:=by
 apply fun (y:AC) (_:@Eq AC (qk [0,1,2,3] (qs (qr [(qp 4 (.box (.v 0))),(qp 5 (.box (.v 1))),(qp 6 (.box (.v 2))),(qp 8 (.mov (qz 0)))]) (qk [3,4,5,6] (qs (qr [(qp 12 (qf 6 4)),(yk 13 12 [0]),(qp 14 (.mkfn (.func 79) [] [.v 5,.v 6])),(qi 15 (.call 78 [.v 13,.v 14]) [1,2]),(yn 9 15 [3,3,0,1,2,3])]) (qk [3,4,9] (qs (qs (qr [(ym 16 9),(yc 17 .lss 16 (qz 0) [0]),(yn 18 17 [1]),(qg 19 (qm 3) 18 false [2]),(qg 20 (.call 75 [.v 19,.c (.int .i64 4),.c (.int .i64 32)]) 18 false [3,2,2]),(qg 21 (.un .not (.v 20)) 18 false [4,2]),(qi 22 (.pick (.v 18) (.c (.bool true)) (.v 21)) [2,5])]) (qk [3,4,9,22] (qq (.v 22) (qs (qr [(qp 8 (.mov (qz 0)))]) (qk [8] .ret)) .skip))) (qk [3,4,9] (qs (qr [(qp 24 (qf 6 4)),(yk 25 24 [0]),(ym 26 9),(yj 27 3 25 26 [1,2]),(yf 28 2 27 [3]),(yk 29 28 [4]),(ym 30 3),(yb 31 .mul 29 30 [5,6]),(qi 32 (.call 77 [.v 31,.c (.int .i64 64)]) [7]),(yn 23 32 [8]),(qi 33 (.ext (.v 23) 0) [9]),(qi 34 (.ext (.v 23) 1) [9]),(yn 10 33 [10,8,0,1,2,3,4,5,6,7,8,9,10]),(yn 11 34 [11,12,0,1,2,3,4,5,6,7,8,9,10,11,12])]) (qk [10] (qs (qr [(ym 35 10),(yn 8 35 [0,0])]) (qk [8] .ret))))))))))) y)=>y
 dsimp
theorem fn40:factOf Tryz.prog 40=some (ac40.strip,[.tmp 8],36):=by kernel_rfl
theorem ok40:ac40.okAll=true:=by kernel_rfl
def ac79:AC:=by
 apply fun (y:AC) (_:@Eq AC (qk [0,1,2] (qs (qr [(qp 3 (.box (.v 0))),(qp 4 (.mov (.c (.bool false))))]) (qk [1,2,3] (qs (qr [(qp 5 (qf 0 3)),(yk 6 5 [0]),(yl 7 1),(yb 8 .eql 6 7 [1,2]),(yn 9 8 [3]),(qg 10 (qf 1 3) 9 true [4]),(qg 11 (ql 10) 9 true [5,4]),(qg 12 (ql 2) 9 true [4]),(qg 13 (qb .eql 11 12) 9 true [6,7,4]),(qi 14 (.pick (.v 9) (.v 13) (.c (.bool false))) [4,8]),(yn 4 14 [9,4,0,1,2,3,4,5,6,7,8,9])]) (qk [4] .ret))))) y)=>y
 dsimp
theorem fn79:factOf Tryz.prog 79=some (ac79.strip,[.tmp 4],15):=by kernel_rfl
theorem ok79:ac79.okAll=true:=by kernel_rfl
def ac42:AC:=by
 apply fun (y:AC) (_:@Eq AC (qk [0,1,2] (qs (qr [(qp 3 (.box (.v 0))),(qp 5 (.box (.v 2))),(qp 6 (.mov (qz 0))),(qi 7 (.mov (.c (.bool false))) [2])]) (qk [1,3,5] (qs (qr [(qp 15 (qt 9 3)),(ym 16 1),(qi 17 (.call 81 [.v 15,.v 16]) [0,1]),(yn 14 17 [2]),(qi 18 (.ext (.v 14) 0) [3]),(qi 19 (.ext (.v 14) 1) [3]),(qp 8 (.alloc [.int .i64 0,.int .i64 0,.int .i64 0,.nsl])),(qo (.store 4 (.v 8) (.v 18)) [6,4,2,0,1,2,3,4,6]),(yn 9 19 [5,7,0,1,2,3,4,5,6,7])]) (qk [3,5,8,9] (qs (qr [(qp 21 (qf 2 8)),(yk 22 21 [0]),(qp 23 (qf 3 8)),(yk 24 23 [2]),(qp 25 (qf 3 3)),(yk 26 25 [4]),(qp 27 (qf 1 5)),(yk 28 27 [6]),(qi 29 (.call 82 [.v 22,.v 24,.v 26,.v 28]) [1,3,5,7]),(yn 20 29 [8]),(qi 30 (.ext (.v 20) 0) [9]),(qi 31 (.ext (.v 20) 1) [9]),(yn 10 30 [10,8,0,1,2,3,4,5,6,7,8,9,10]),(yn 11 31 [11,12,0,1,2,3,4,5,6,7,8,9,10,11,12])]) (qk [5,9,10,11] (qs (qs (qr [(ym 32 9),(qi 33 (.un .not (.v 32)) [0]),(yn 34 33 [1]),(qg 35 (qm 11) 34 false [2]),(qg 36 (.un .not (.v 35)) 34 false [3,2]),(qi 37 (.pick (.v 34) (.c (.bool true)) (.v 36)) [2,4]),(yn 38 37 [5,2]),(qg 39 (qf 0 5) 38 false [6]),(qg 40 (ql 39) 38 false [7,6]),(qg 41 (.call 83 [.v 40]) 38 false [8,6,6]),(qg 42 (.un .not (.v 41)) 38 false [9,6]),(qi 43 (.pick (.v 38) (.c (.bool true)) (.v 42)) [6,10])]) (qk [5,10,43] (qq (.v 43) (qs (qr [(qp 6 (.mov (qz 0))),(qi 7 (.mov (.c (.bool false))) [0,0])]) (qk [6,7] .ret)) .skip))) (qk [5,10] (qs (qr [(ym 45 10),(qp 46 (qf 0 5)),(yk 47 46 [1]),(yb 48 .mul 45 47 [0,2]),(qi 49 (.call 84 [.v 48,.c (.int .i64 4096)]) [3]),(yn 44 49 [4]),(qi 50 (.ext (.v 44) 0) [5]),(qi 51 (.ext (.v 44) 1) [5]),(yn 12 50 [6,4,0,1,2,3,4,5,6]),(yn 13 51 [7,8,0,1,2,3,4,5,6,7,8])]) (qk [12] (qs (qr [(ym 52 12),(qi 53 (.mm true (.v 52) (qz 0)) [0]),(yn 6 53 [1,0,1]),(qi 7 (.mov (.c (.bool true))) [2,0,1,2])]) (qk [6,7] .ret))))))))))))) y)=>y
 dsimp
theorem fn42:factOf Tryz.prog 42=some (ac42.strip,[.tmp 6,.tmp 7],54):=by kernel_rfl
theorem ok42:ac42.okAll=true:=by kernel_rfl
def ac43:AC:=by
 apply fun (y:AC) (_:@Eq AC (let e0:=[1,2,3,4,9];(qk [0,1,2,3] (qs (qr [(qp 4 (.box (.v 0))),(qp 8 (.mov (qz 0)))]) (qk [1,2,3,4] (qs (qs (qr [(qp 9 (.mov (qz 0)))]) (qk e0 (.block 0 (.loop (qk e0 (qs (qs (qr [(ym 12 9),(qp 13 (qf 6 4)),(yk 14 13 [1]),(yh 15 14 [2]),(yb 16 .lss 12 15 [0,3])]) (qk [1,2,3,4,9,16] (qq (.v 16) .skip (.exit 0)))) (qk e0 (qs (.block 1 (qs (qr [(qp 19 (qf 6 4)),(yk 20 19 [0]),(ym 21 9),(yj 22 3 20 21 [1,2]),(yf 23 0 22 [3]),(yk 24 23 [4]),(ym 25 1),(yb 26 .eql 24 25 [5,6]),(yn 27 26 [7]),(qg 28 (qf 6 4) 27 true [8]),(qg 29 (ql 28) 27 true [9,8]),(qg 30 (qm 9) 27 true [8]),(qg 31 (qj 3 29 30) 27 true [10,11,8]),(qg 32 (qf 1 31) 27 true [12,8]),(qg 33 (ql 32) 27 true [13,8]),(qg 34 (qm 2) 27 true [8]),(qg 35 (qb .eql 33 34) 27 true [14,15,8]),(qi 36 (.pick (.v 27) (.v 35) (.c (.bool false))) [8,16]),(yn 37 36 [17,8]),(qg 38 (qm 3) 37 true [18]),(qg 39 (.call 83 [.v 38]) 37 true [19,18,18]),(qi 40 (.pick (.v 37) (.v 39) (.c (.bool false))) [18,20])]) (qk [1,2,3,4,9,40] (qq (.v 40) (qs (qr [(qp 42 (qf 6 4)),(yk 43 42 [0]),(ym 44 9),(yj 45 3 43 44 [1,2]),(yf 46 2 45 [3]),(yk 47 46 [4]),(ym 48 3),(yb 49 .mul 47 48 [5,6]),(qi 50 (.call 84 [.v 49,.c (.int .i64 64)]) [7]),(yn 41 50 [8]),(qi 51 (.ext (.v 41) 0) [9]),(qi 52 (.ext (.v 41) 1) [9]),(yn 10 51 [10,8,0,1,2,3,4,5,6,7,8,9,10]),(yn 11 52 [11,12,0,1,2,3,4,5,6,7,8,9,10,11,12])]) (qk [10] (qs (qr [(ym 53 10),(yn 8 53 [0,0])]) (qk [8] .ret)))) .skip)))) (qk e0 (qr [(ym 17 9),(yc 18 .add 17 (qz 1) [0]),(yn 9 18 [1,0,1])])))))))))) (qk [] (qs (qr [(qp 8 (.mov (qz 0)))]) (qk [8] .ret)))))))) y)=>y
 dsimp
theorem fn43:factOf Tryz.prog 43=some (ac43.strip,[.tmp 8],54):=by kernel_rfl
theorem ok43:ac43.okAll=true:=by kernel_rfl
def ac83:AC:=by
 apply fun (y:AC) (_:@Eq AC (qk [0] (qs (qr [(qp 2 (.mov (.c (.bool false))))]) (qk [0] (qs (qr [(ym 3 0),(yc 4 .geq 3 (qz 4) [0]),(yn 5 4 [1]),(qg 6 (qm 0) 5 true [2]),(qg 7 (qc .leq 6 (qz 32)) 5 true [3,2]),(qi 8 (.pick (.v 5) (.v 7) (.c (.bool false))) [2,4]),(yn 2 8 [5,2,0,1,2,3,4,5])]) (qk [2] .ret))))) y)=>y
 dsimp
theorem fn83:factOf Tryz.prog 83=some (ac83.strip,[.tmp 2],9):=by kernel_rfl
theorem ok83:ac83.okAll=true:=by kernel_rfl
end
section
theorem b75 (n a b:Int):Best Tryz.prog 75 [.int .i64 n,.int .i64 a,.int .i64 b] (.p (.bool (decide (a≤n) && decide (n≤b)))):=by
 refine best mixed fn75 ok75 (by simp) ?_
 by_cases h1:a≤n<;>simp -dsimp [ac75,h1]
theorem b83 (n:Int):Best Tryz.prog 83 [.int .i64 n] (.p (.bool (decide (4≤n) && decide (n≤32)))):=by
 refine best mixed fn83 ok83 (by simp) ?_
 by_cases h1:4≤n<;>simp -dsimp [ac83,h1]
theorem b79 (x:Int×Int×Int) (a b:Int):Best Tryz.prog 79 [.agg (i3Row x),.ro [.int .i64 a],.ro [.int .i64 b]] (.p (.bool (decide (x.1=a) && decide (x.2.1=b)))):=by
 refine best mixed fn79 ok79 (by simp [i3Row]) ?_
 by_cases h1:x.1=a<;>simp -dsimp [ac79,i3Row,h1]
theorem b78 {f:FuncId} {c d:PV} {q:Int×Int×Int→Bool} (hf:∀ x:Int×Int×Int,Best Tryz.prog f [.agg (i3Row x),c,d] (.p (.bool (q x)))) (r:List (Int×Int×Int)) (hl:r.length≤9223372036854775807):Best Tryz.prog 78 [.sl 3 (r.map i3Row),.clo (.func f) [] [c,d]] (.p (.int .i64 (idxS q r))):=by
 refine best mixed fn78 ok78 (by simp) ?_
 simp -dsimp [ac78]
 refine loopC r.length (fun k=>⟨[(0,.p (.sl 3 (r.map i3Row))),(1,.p (.clo (.func f) [] [c,d])),(7,.p (.int .i64 r.length)),(8,.p (.int .i64 k))],[]⟩) (fun k=>∀ y∈r.take k,q y=false) (fun k hk hall=>?_) (by simp) (by simp)
 by_cases h:k<r.length
 ·obtain ⟨x,ex⟩:∃ x,r[k]=x:=⟨_,rfl⟩
  have hx:r[k]?=some x:=by simp [h,ex]
  have w:R ((k:Int)+1):=⟨by omega,by omega⟩
  have hfx:=hf x
  have hit:q x=true→idxS q r=k:=fun h2=>idxS_hit hx hall h2
  have go:q x=false→∀ y∈r.take (k+1),q y=false:=fun h2=>take_succ_all (p:=fun y=>q y=false) hx hall h2
  generalize q x=b at *
  simp -dsimp [h,ex,i3Row] at hfx ⊢
  refine call_p hfx rfl (by simp) ?_
  cases b with
  | true=>simp -dsimp [hit]
  | false=>simp -dsimp [wr w];exact ⟨h,fun a b c=>go rfl (a,b,c)⟩
 ·have:k=r.length:=by omega
  subst this
  rw [List.take_length] at hall
  simp -dsimp [idxS_none hall]
theorem growS_b {rs:List (List T3)} {a:List Int} {g:Int×Int} {s:Int} (h:growS rs a g=some s):-17592186044417≤s∧s≤17592186044417:=by
 unfold growS at h
 split at h
 ·have:=partB g.2 (scaS (rs.getD g.1.toNat []) a).1 (scaS (rs.getD g.1.toNat []) a).2
  cases h
  exact this
 ·cases h
theorem sumL_b {rs:List (List T3)} {a:List Int}:∀ {l:List (Int×Int)} {s0 s:Int},sumL rs a s0 l=some s→s0 - 17592186044417*l.length≤s∧s≤s0+17592186044417*l.length
 | [],s0,s,h=>by simp [sumL] at h;subst h;simp
 | g :: l,s0,s,h=>by
  unfold sumL at h
  rw [List.foldl_cons] at h
  cases e:growS rs a g with
  | none=>simp [e,sumL_none] at h
  | some v=>
   simp only [e,Option.bind_some,Option.map_some] at h
   have h1:=growS_b e
   have h2:=sumL_b (s0:=s0+v) (l:=l) h
   rw [List.length_cons]
   push_cast
   omega
theorem sumS_b (base:Int) (l:List (Int×Int)) (rs:List (List T3)) (a:List Int):-200000000000000≤(sumS base l rs a).1∧(sumS base l rs a).1≤200000000000000:=by
 unfold sumS
 split
 ·rename_i h
  obtain ⟨⟨h1,h2⟩,h3,h4⟩:=h
  cases e:sumL rs a (64*base) l with
  | none=>simp
  | some v=>
   have:=sumL_b e
   simp only
   omega
 ·simp
def sizeB (n:Int):Bool:=decide (4≤n) && decide (n≤32)
noncomputable def chW (c:Cor) (x:Ch) (s:Stg):Int×Bool:=
 if sizeB s.size=true∧(sumS x.width x.wide c.rg s.at_).2=true then (max (roundS ((sumS x.width x.wide c.rg s.at_).1*s.size) 4096) 0,true) else (0,false)
noncomputable def widthN (c:Cor) (code:Int) (s:Stg):Int×Bool:=match findN c code with | none=>(0,false) | some x=>chW c x s
theorem findN_mem {c:Cor} {code:Int} {x:Ch} (h:findN c code=some x):x∈c.ch:=List.mem_of_find?_eq_some h
theorem mulsize {v n:Int} (h:-200000000000000≤v∧v≤200000000000000) (hn:sizeB n=true):R (v*n)∧v*n≤4611686018427387904:=by
 simp [sizeB] at hn
 have h1:v*n≤200000000000000*n:=Int.mul_le_mul_of_nonneg_right h.2 (by omega)
 have h2:(-200000000000000)*n≤v*n:=Int.mul_le_mul_of_nonneg_right h.1 (by omega)
 refine ⟨⟨by omega,by omega⟩,by omega⟩
structure WOk (c:Cor) (x:Ch) (s:Stg):Prop where
 w:R x.width
 l:x.wide.length≤1000
 a:s.at_.length≤1000
 r:∀ r∈c.rg,r.length≤1000
theorem b39 (c:Cor) (hc:c.ch.length≤1000) (code:Int) (s:Stg) (hw:WOk c ((findN c code).getD ch0) s):Best Tryz.prog 39 [.agg (corRow c),.int .i64 code,.agg (stgRow s)] (.p (.tup [.int .i64 (widthN c code s).1,.bool (widthN c code s).2])):=by
 refine best mixed fn39 ok39 (by simp [corRow,stgRow]) ?_
 simp -dsimp [ac39,corRow,stgRow]
 refine call_p (b65 c hc code) (by simp [corRow]) (by simp) ?_
 simp -dsimp [chRow]
 have hq:=b75 s.size 4 32
 rw [←sizeB] at hq
 unfold widthN hasN
 cases e:findN c code with
 | none=>simp -dsimp [e]
 | some x=>
  rw [e] at hw
  simp only [Option.getD_some,Option.isSome_some] at hw ⊢
  simp -dsimp [e]
  refine call_p hq (by simp) (by simp) ?_
  have hs:=b76 (base:=x.width) (l:=x.wide) (rs:=c.rg) (a:=s.at_) hw.w (by have:=hw.l;omega) (by have:=hw.a;omega) (fun r hr=>by have:=hw.r r hr;omega)
  by_cases h1:sizeB s.size=true
  ·simp -dsimp [h1]
   refine call_p hs (by simp [mvRow,pRow]) (by simp) ?_
   have hb:=sumS_b x.width x.wide c.rg s.at_
   have hm:=mulsize hb h1
   unfold chW
   generalize sumS x.width x.wide c.rg s.at_=v at *
   obtain ⟨v1,v2⟩:=v
   cases v2 with
   | false=>simp -dsimp
   | true=>
    have h2:=b77 hm.1 hm.2 (d:=4096) (by simp [R])
    simp only at hm h2
    simp -dsimp [h1,wr hm.1]
    refine call_p h2 (by simp) (by simp) ?_
    simp -dsimp [h1]
  ·simp -dsimp [h1,chW]
theorem b42 (c:Cor) (hc:c.ch.length≤1000) (code:Int) (s:Stg) (hw:WOk c ((findN c code).getD ch0) s):Best Tryz.prog 42 [.agg (corRow c),.int .i64 code,.agg (stgRow s)] (.p (.tup [.int .i64 (widthN c code s).1,.bool (widthN c code s).2])):=by
 refine best mixed fn42 ok42 (by simp [corRow,stgRow]) ?_
 simp -dsimp [ac42,corRow,stgRow]
 refine call_p (b81 c hc code) (by simp [corRow]) (by simp) ?_
 simp -dsimp [chRow]
 have hs:=b82 (base:=((findN c code).getD ch0).width) (l:=((findN c code).getD ch0).wide) (rs:=c.rg) (a:=s.at_) hw.w (by have:=hw.l;omega) (by have:=hw.a;omega) (fun r hr=>by have:=hw.r r hr;omega)
 refine call_p hs (by simp [mvRow,pRow]) (by simp) ?_
 have hb:=sumS_b ((findN c code).getD ch0).width ((findN c code).getD ch0).wide c.rg s.at_
 have hq:=b83 s.size
 rw [←sizeB] at hq
 unfold widthN hasN
 cases e:findN c code with
 | none=>simp -dsimp [e]
 | some x=>
  rw [e] at hw hb
  simp only [Option.getD_some,Option.isSome_some] at hw hb ⊢
  unfold chW
  generalize sumS x.width x.wide c.rg s.at_=v at *
  obtain ⟨v1,v2⟩:=v
  cases v2 with
  | false=>simp -dsimp
  | true=>
   simp -dsimp
   refine call_p hq (by simp) (by simp) ?_
   by_cases h1:sizeB s.size=true
   ·have hm:=mulsize hb h1
    have h2:=b84 hm.1 hm.2 (d:=4096) (by simp [R])
    simp only at hm h2
    simp -dsimp [h1,wr hm.1]
    refine call_p h2 (by simp) (by simp) ?_
    simp -dsimp [h1]
   ·simp -dsimp [h1]
noncomputable def betwN (c:Cor) (l r n:Int):Int:=if sizeB n=true then (match c.pr.find? (fun x=>decide (x.1=l) && decide (x.2.1=r)) with | none=>0 | some x=>roundS (x.2.2*n) 64) else 0
theorem mulpair {v n:Int} (h:-1000≤v∧v≤1000) (hn:sizeB n=true):R (v*n)∧v*n≤4611686018427387904:=mulsize ⟨by omega,by omega⟩ hn
theorem b40 (c:Cor) (hc:c.pr.length≤1000) (hp:∀ x∈c.pr,-1000≤x.2.2∧x.2.2≤1000) (l r n:Int):Best Tryz.prog 40 [.agg (corRow c),.int .i64 l,.int .i64 r,.int .i64 n] (.p (.int .i64 (betwN c l r n))):=by
 refine best mixed fn40 ok40 (by simp [corRow]) ?_
 simp -dsimp [ac40,corRow]
 have q7:=b78 (c:=.ro [.int .i64 l]) (d:=.ro [.int .i64 r]) (fun x=>b79 x l r) c.pr (by omega)
 refine call_f q7 (by simp) (by simp) (by simp) ?_
 have hq:=b75 n 4 32
 rw [←sizeB] at hq
 unfold betwN
 rcases idxS_find (q:=fun x:Int×Int×Int=>decide (x.1=l) && decide (x.2.1=r)) (l:=c.pr) with ⟨k,x,h1,h2,h3⟩ | ⟨h1,h3⟩
 ·have hk:k<c.pr.length:=by
   rcases Nat.lt_or_ge k c.pr.length with h | h
   ·exact h
   ·rw [List.getElem?_eq_none h] at h2;cases h2
  have ex:c.pr[k]=x:=by rw [List.getElem?_eq_getElem hk] at h2;exact Option.some.inj h2
  have hx:x∈c.pr:=by rw [←ex];simp
  rw [h1,h3]
  have n1:¬(k:Int)<0:=by omega
  simp -dsimp [n1]
  refine call_p hq (by simp) (by simp) ?_
  by_cases h5:sizeB n=true
  ·have hm:=mulpair (hp x hx) h5
   have h2:=b77 hm.1 hm.2 (d:=64) (by simp [R])
   simp -dsimp [h5,hk,ex,i3Row,wr hm.1]
   refine call_p h2 (by simp) (by simp) ?_
   simp -dsimp [h5]
  ·simp -dsimp [h5]
 ·rw [h1,h3]
  simp -dsimp
theorem b43 (c:Cor) (hc:c.pr.length≤1000) (hp:∀ x∈c.pr,-1000≤x.2.2∧x.2.2≤1000) (l r n:Int):Best Tryz.prog 43 [.agg (corRow c),.int .i64 l,.int .i64 r,.int .i64 n] (.p (.int .i64 (betwN c l r n))):=by
 refine best mixed fn43 ok43 (by simp [corRow]) ?_
 have hq:=b83 n
 rw [←sizeB] at hq
 simp -dsimp [ac43,corRow]
 refine loopC c.pr.length (fun k=>⟨[(1,.p (.int .i64 l)),(2,.p (.int .i64 r)),(3,.p (.int .i64 n)),(4,.ptr (4,0) 9 0 0),(9,.p (.int .i64 k))],[((4,0),.box ((corRow c).map .p))]⟩) (fun k=>sizeB n=true→∀ y∈c.pr.take k,(decide (y.1=l) && decide (y.2.1=r))=false) (fun k hk hall=>?_) (by simp) (by simp [corRow])
 by_cases h:k<c.pr.length
 ·obtain ⟨x,ex⟩:∃ x,c.pr[k]=x:=⟨_,rfl⟩
  have hg:c.pr[k]?=some x:=by simp [h,ex]
  have hx:x∈c.pr:=by rw [←ex];simp
  have w:R ((k:Int)+1):=⟨by omega,by omega⟩
  have go:(sizeB n=true→(decide (x.1=l) && decide (x.2.1=r))=false)→sizeB n=true→∀ y∈c.pr.take (k+1),(decide (y.1=l) && decide (y.2.1=r))=false:=fun h2 h3=>take_succ_all (p:=fun y=>(decide (y.1=l) && decide (y.2.1=r))=false) hg (hall h3) (h2 h3)
  by_cases h1:x.1=l
  ·by_cases h2:x.2.1=r
   ·simp -dsimp [h,corRow,ex,i3Row,h1,h2]
    refine call_p hq (by simp) (by simp) ?_
    by_cases h3:sizeB n=true
    ·have hm:=mulpair (hp x hx) h3
     have h4:=b84 hm.1 hm.2 (d:=64) (by simp [R])
     have hf:c.pr.find? (fun x=>decide (x.1=l) && decide (x.2.1=r))=some x:=by
      rw [List.find?_eq_some_iff_getElem]
      refine ⟨by simp [h1,h2],k,h,ex,fun j hj=>?_⟩
      have:=hall h3 (c.pr[j]'(by omega)) (List.mem_take_iff_getElem.2 ⟨j,by omega,rfl⟩)
      simp only [this,Bool.not_false]
     simp -dsimp [h3,h,corRow,ex,i3Row,wr hm.1]
     refine call_p h4 (by simp) (by simp) ?_
     simp -dsimp [betwN,h3,hf]
    ·have:=go (fun h=>absurd h h3)
     simp -dsimp [h3,h,corRow,wr w]
   ·have:=go (fun _=>by simp [h2])
    simp -dsimp [h,corRow,ex,i3Row,h1,h2,wr w]
    first | done | exact this | exact ⟨h,this⟩ | exact (fun e a b c m q1=>by have:=this e (a,b,c) m;simp [q1] at this;exact this)
  ·have:=go (fun _=>by simp [h1])
   simp -dsimp [h,corRow,ex,i3Row,h1,wr w]
   first | done | exact this | exact ⟨h,this⟩ | exact (fun e a b c m q1=>by have:=this e (a,b,c) m;simp [q1] at this;exact this)
 ·have:k=c.pr.length:=by omega
  subst this
  rw [List.take_length] at hall
  have hr:betwN c l r n=0:=by
   unfold betwN
   by_cases h3:sizeB n=true
   ·rw [if_pos h3,List.find?_eq_none.2 (fun y hy=>by simp only [hall h3 y hy,Bool.false_eq_true,not_false_eq_true])]
   ·rw [if_neg h3]
  simp -dsimp [h,corRow,hr]
end
section
structure Cor.fine (c:Cor):Prop where
 ax:c.ax.length≤1000
 ch:c.ch.length≤1000
 pr:c.pr.length≤1000
 prb:∀ x∈c.pr,-1000≤x.2.2∧x.2.2≤1000
 chs:∀ x∈c.ch,R x.width∧x.wide.length≤1000
 rgs:∀ r∈c.rg,r.length≤1000
def CorsOk2 (cs:List Cor):Prop:=cs.length≤1000∧∀ c∈cs,c.fine
theorem incr_len {m:Int}:∀ {l:List (Int×Int)} {k:Int},(∀ y∈l,k≤y.1∧y.1<m)→l.Pairwise (fun a b=>a.1<b.1)→(l.length:Int)≤max (m - k) 0
 | [],k,_,_=>by simp;omega
 | x :: l,k,h,hp=>by
  have hp:=List.pairwise_cons.1 hp
  have hx:=h x (by simp)
  have:=incr_len (m:=m) (l:=l) (k:=x.1+1) (fun y hy=>⟨by have:=hp.1 y hy;omega,(h y (by simp [hy])).2⟩) hp.2
  rw [List.length_cons]
  push_cast
  omega
theorem CorsOk2.one {cs:List Cor} (h:CorsOk2 cs):CorsOk cs:=⟨h.1,fun c hc=>(h.2 c hc).ch⟩
theorem PairsOk_b {l:List (Int×Int×Int)} (h:PairsOk l):∀ x∈l,-1000≤x.2.2∧x.2.2≤1000:=by
 induction l with
 | nil=>simp
 | cons y l ih=>
  intro x hx
  rcases List.mem_cons.1 hx with rfl | hx
  ·have:=h.1;omega
  ·exact ih h.2.2 x hx
theorem Cor.ok.fine {c:Cor} (h:c.ok):c.fine:=by
 obtain ⟨h1,h2,⟨h3,h4⟩,h5,h6,h7⟩:=h
 refine ⟨by omega,by omega,by omega,PairsOk_b h6,fun x hx=>?_,fun r hr=>by have:=h2.2 r hr;omega⟩
 obtain ⟨g1,g2,g3,g4,g5,g6,g7,g8⟩:=h4.1 x hx
 refine ⟨⟨by omega,by omega⟩,?_⟩
 have:=incr_len (l:=x.wide) (m:=c.rg.length) (k:=0) (fun y hy=>⟨(g7 y hy).1,(g7 y hy).2.1⟩) g8
 omega
theorem Cor.fine.w {c:Cor} (h:c.fine) (code:Int) (s:Stg) (hs:s.at_.length≤1000):WOk c ((findN c code).getD ch0) s:=by
 cases e:findN c code with
 | none=>exact ⟨by simp [ch0,R],by simp [ch0],hs,h.rgs⟩
 | some x=>
  have hx:=h.chs x (findN_mem e)
  exact ⟨hx.1,hx.2,hs,h.rgs⟩
noncomputable def cwN (c:Cor) (s:Stg) (code:Int):Int:=(widthN c code (s.own c.ax.length)).1
noncomputable def sumW (c:Cor) (s:Stg):Int→List Int→Int
 | _,[]=>0
 | b,x :: l=>cwN c s x+(if 0≤b then betwN c b x s.size else 0)+sumW c s x l
theorem sumW_snoc (c:Cor) (s:Stg) (x:Int):∀ (l:List Int) (b:Int),sumW c s b (l++[x])=sumW c s b l+cwN c s x+(if 0≤l.getLastD b then betwN c (l.getLastD b) x s.size else 0)
 | [],b=>by simp [sumW]
 | y :: l,b=>by
  have:=sumW_snoc c s x l y
  rw [List.cons_append,sumW,this,sumW]
  have e:(y :: l).getLastD b=l.getLastD y:=List.getLastD_cons ..
  rw [e]
  omega
theorem cwN_b {c:Cor} {s:Stg} {x:Int}:0≤cwN c s x∧cwN c s x≤6500000000000000:=by
 unfold cwN widthN
 cases findN c x with
 | none=>simp
 | some y=>
  simp only [chW]
  split
  ·rename_i h
   have hb:=sumS_b y.width y.wide c.rg (s.own c.ax.length).at_
   have hm:sizeB (s.own c.ax.length).size=true:=h.1
   generalize (sumS y.width y.wide c.rg (s.own c.ax.length).at_).1=v at *
   generalize (s.own c.ax.length).size=n at *
   simp [sizeB] at hm
   have h1:v*n≤200000000000000*n:=Int.mul_le_mul_of_nonneg_right hb.2 (by omega)
   have h2:(-200000000000000)*n≤v*n:=Int.mul_le_mul_of_nonneg_right hb.1 (by omega)
   have:=roundS_bd (n:=v*n) (d:=4096) (m:=6400000000000000) (by omega) (by omega) (by omega) (by omega)
   simp only
   omega
  ·simp
theorem betwN_b {c:Cor} (hp:∀ x∈c.pr,-1000≤x.2.2∧x.2.2≤1000) {a b n:Int}:-100000≤betwN c a b n∧betwN c a b n≤100000:=by
 unfold betwN
 split
 ·rename_i h
  simp [sizeB] at h
  split
  ·omega
  ·rename_i x hx
   have hb:=hp x (List.mem_of_find?_eq_some hx)
   generalize x.2.2=v at *
   have h1:v*n≤1000*n:=Int.mul_le_mul_of_nonneg_right hb.2 (by omega)
   have h2:(-1000)*n≤v*n:=Int.mul_le_mul_of_nonneg_right hb.1 (by omega)
   have:=roundS_bd (n:=v*n) (d:=64) (m:=32000) (by omega) (by omega) (by omega) (by omega)
   omega
 ·omega
theorem sumW_b {c:Cor} (hp:∀ x∈c.pr,-1000≤x.2.2∧x.2.2≤1000) (s:Stg):∀ (l:List Int) (b:Int),-100000*(l.length:Int)≤sumW c s b l∧sumW c s b l≤6600000000000000*l.length
 | [],b=>by simp [sumW]
 | x :: l,b=>by
  have h:=sumW_b hp s l x
  have h1:=cwN_b (c:=c) (s:=s) (x:=x)
  have h2:=betwN_b hp (a:=b) (b:=x) (n:=s.size)
  rw [sumW,List.length_cons]
  push_cast
  split<;>omega
def befN (cs:List Cor) (t:List UInt8) (i:Nat):Int:=
 if 0<i∧fontN cs t ((splT t).getD (i - 1) (0,0))=fontN cs t ((splT t).getD i (0,0)) then (codesT t ((splT t).getD (i - 1) (0,0)).1 ((splT t).getD (i - 1) (0,0)).2).getLastD (-1) else -1
def cor0:Cor:=⟨⟨#[]⟩,0,[],[],0,[],[],[]⟩
noncomputable def wdN (cs:List Cor) (t:List UInt8) (s:Stg) (i:Nat):Int:=
 if clsT t (baseT t ((splT t).getD i (0,0)).1 ((splT t).getD i (0,0)).2)=1 then 0
 else if fontN cs t ((splT t).getD i (0,0))<0 then s.size.tdiv 2
 else max (sumW (cs.getD (fontN cs t ((splT t).getD i (0,0))).toNat cor0) s (befN cs t i) (codesT t ((splT t).getD i (0,0)).1 ((splT t).getD i (0,0)).2)) 0
noncomputable def widthsN (cs:List Cor) (t:List UInt8) (s:Stg):List Int:=if fitN s=true then (List.range (splT t).length).map (wdN cs t s) else []
theorem fontN_lt {cs:List Cor} {t:List UInt8} {x:Nat×Nat} (h:¬fontN cs t x<0):∃ m:Nat,fontN cs t x=m∧m<cs.length:=by
 unfold fontN at h ⊢
 split at h
 ·omega
 ·rename_i h1
  rw [if_neg h1]
  rcases idxS_find (q:=allN (codesT t x.1 x.2)) (l:=cs) with ⟨k,y,h2,h3,_⟩ | ⟨h2,_⟩
  ·exact ⟨k,h2,(List.getElem?_eq_some_iff.1 h3).1⟩
  ·rw [h2] at h;omega
theorem codesT_nn {t:List UInt8} {a b:Nat}:∀ x∈codesT t a b,0≤x:=by
 intro x hx
 obtain ⟨i,_,rfl⟩:=List.mem_map.1 hx
 unfold cT;omega
theorem codesT_len {t:List UInt8} {a b:Nat}:(codesT t a b).length≤b - a:=by
 have:=visT_len (t:=t) (a:=a) (b:=b)
 simpa [codesT] using this
end
section
attribute [local simp ↓] awp_scope awp_label
attribute [local simp] w1
set_option maxHeartbeats 400000
attribute [local simp] evC
attribute [local simp ↓] oneN oneI oneSp
theorem Pg.txt_len (p:Pg):p.txt.length≤20:=by unfold Pg.txt texL;simp;omega
theorem Pg.at_len (p:Pg):p.set.at_.length≤3:=by simp [Pg.set,madeAt];omega
theorem Pg.fit (p:Pg):fitN p.set=true:=by
 have h:=p.at_len
 have h1:4≤p.set.size:=by simp only [Pg.set];omega
 have h2:p.set.size≤32:=by simp only [Pg.set];omega
 have h3:CL p.set.at_:=⟨h,fun n hn=>by
  simp only [Pg.set,madeAt] at hn
  obtain ⟨k,_,rfl⟩:=List.mem_map.1 hn
  have:=atS_bd p.at_ k
  exact ⟨by omega,by omega⟩⟩
 simp [fitN,h1,h2,h3]
theorem Pg.wid_b (p:Pg):0≤p.wid∧p.wid<200:=by unfold Pg.wid;omega
theorem Pg.made (p:Pg) (hp:p.ok):∃ cs:List Cor,cs.length≤3∧CorsOk2 cs∧Best Tryz.prog 9 [.agg (pgRow p)] (.p (.tup [.sl 9 (cs.map corRow),.str (ba p.txt),.agg (stgRow p.set),.int .i64 p.wid])):=by
 obtain ⟨cs,h1,h2,h3⟩:=b9 p hp
 exact ⟨cs,by omega,⟨by omega,fun c hc=>(h2 c hc).fine⟩,h3⟩
end
section
def ac15:AC:=by
 apply fun (y:AC) (_:@Eq AC (let e0:=[6,9,21,22];(qk [0,1,2] (qs (qr [(qp 3 (.box (.v 0))),(qp 4 (.box (.v 1))),(qp 5 (.box (.v 2))),(qp 6 (.mov (.c .nsl)))]) (.ghost (.own 6 30 3 1) (qk [3,4,5,6] (qs (qs (qr [(qp 11 (qt 3 5)),(qi 12 (.call 37 [.v 11]) [0]),(qi 13 (.un .not (.v 12)) [1])]) (qk [3,4,5,6,13] (qq (.v 13) (qs (qr [(qp 6 (.mov (.c .nsl)))]) (qk [6] (.ghost (.zsl 6 1) .ret))) .skip))) (qk [3,4,5,6] (qs (qd [(qa (yl 14 4) [7,8,16,17] [7,8] [] [] 0),(qa (qi 15 (.call 25 [.v 14]) [0]) [7,8,16,17] [7,8] [15] [] 0),(qa (yl 16 3) [7,8,14,15,17] [7,8,15] [] [0,1] 0),(qa (yl 17 4) [7,8,14,15,16] [7,8,15] [] [0,1,2] 0),(qa (qi 18 (.call 13 [.v 16,.v 17]) [2,3,1]) [7,8] [7,8] [18] [] 0),(qa (qp 7 (.alloc [.nsl])) [8,14,15,16,17,18] [8,15,18] [7] [0,1,2,3,4] 0),(qa (qp 8 (.alloc [.nsl])) [7,14,15,16,17,18] [7,15,18] [8] [0,1,2,3,4,5] 0),(qa (qo (.store 1 (.v 7) (.v 15)) [5,1,4,0,1,5,6]) [] [] [7] [] 1),(qa (qo (.store 1 (.v 8) (.v 18)) [6,4,7,0,1,2,3,4,5,6,7]) [] [] [8] [] 1)]) (qk [3,4,5,6,7,8] (qs (qr [(qp 19 (.mkfn (.func 38) [] [.v 4,.v 7,.v 8,.v 5,.v 3])),(yn 9 19 [0,0])]) (qk [6,7,9] (qs (qs (qr [(yl 20 7),(yh 21 20 [0]),(qp 22 (.mov (qz 0)))]) (qk e0 (.block 0 (.loop (qk e0 (qs (qr [(qp 23 (qb .lss 22 21))]) (qk [6,9,21,22,23] (qs (qq (.v 23) .skip (.exit 0)) (qk e0 (qs (.block 1 (qs (qr [(ym 24 22),(yn 10 24 [0,0])]) (qk [6,9,10,21,22] (qr [(ym 25 6),(ym 26 9),(ym 27 10),(qi 28 (.callv (.v 26) [.v 27]) [1,2]),(qi 29 (.bslice 3 1 1 [.int .i64 0] [(0,1,.v 28)]) [3]),(qi 30 (.app 3 1 8 (.v 25) (.v 29)) [0,4,3]),(yn 6 30 [5,5,0,1,2,3,4,5])])))) (qk e0 (.ghost (.canV 6 (30,0)) (qr [(qp 31 (qc .add 22 (qz 1))),(yn 22 31 [0])]))))))))))))) (qk [6] (qs (qr [(ym 32 6),(yn 6 32 [0,0])]) (qk [6] .ret))))))))))))))) y)=>y
 dsimp
theorem fn15:factOf Tryz.prog 15=some (ac15.strip,[.tmp 6],33):=by kernel_rfl
theorem ok15:ac15.okAll=true:=by kernel_rfl
def xc38b:AC:=by
 apply fun (y:AC) (_:@Eq AC (let e0:=[4,8,10,12,77,78,79];let e1:=[4,8,10,12,14,77,78,79];(qs (qr [(qp 12 (.mov (qz 0)))]) (qk [4,8,9,10,12] (qs (qs (qr [(ym 77 9),(yh 78 77 [0]),(qp 79 (.mov (qz 0)))]) (qk e0 (.block 1 (.loop (qk e0 (qs (qr [(qp 80 (qb .lss 79 78))]) (qk [4,8,10,12,77,78,79,80] (qs (qq (.v 80) .skip (.exit 1)) (qk e0 (qs (.block 2 (qs (qr [(qp 81 (qj 1 77 79)),(yk 82 81 [0]),(yn 14 82 [1,0,1])]) (qk e1 (qs (qd [(qa (qp 84 (qt 9 8)) [85,86,87,88] [88] [] [] 0),(qa (ym 85 14) [84,86,87,88] [88] [] [0] 2),(qe (qp 86 (qt 9 8)) [84,85,87] [0,1] 2),(qe (qp 87 (qt 3 4)) [84,85,86] [0,1,2] 2),(qa (qi 88 (.call 10 [.v 86,.v 87]) [2,3]) [84,85] [] [88] [0,1] 1),(qa (qi 89 (.call 39 [.v 84,.v 85,.v 88]) [0,1,4,4]) [] [] [89] [] 1),(qe (yn 83 89 [5]) [] [] 2),(qe (qi 90 (.ext (.v 83) 0) [6]) [91] [] 2),(qe (qi 91 (.ext (.v 83) 1) [6]) [15,90] [7] 2),(qe (yn 15 90 [7,5,0,1,2,3,4,5,6,7]) [91] [8] 2),(qe (yn 16 91 [8,9,0,1,2,3,4,5,6,7,8,9]) [] [] 2)]) (qk [4,8,10,12,14,15,77,78,79] (qs (qs (qr [(ym 92 12),(ym 93 15),(yb 94 .add 92 93 [0,1]),(yn 12 94 [2,0,1,2])]) (qk e1 (qs (qr [(ym 95 10),(yc 96 .geq 95 (qz 0) [0])]) (qk [4,8,10,12,14,77,78,79,96] (qq (.v 96) (qr [(ym 97 12),(qp 98 (qt 9 8)),(ym 99 10),(ym 100 14),(qp 101 (qf 0 4)),(yk 102 101 [4]),(qi 103 (.call 40 [.v 98,.v 99,.v 100,.v 102]) [1,2,3,5]),(yb 104 .add 97 103 [0,6]),(yn 12 104 [7,6,0,1,2,3,4,5,6,7])]) .skip))))) (qk [4,8,12,14,77,78,79] (qr [(ym 105 14),(yn 10 105 [0,0])])))))))) (qk e0 (qr [(qp 106 (qc .add 79 (qz 1))),(yn 79 106 [0])])))))))))))) (qk [12] (qs (qr [(ym 107 12),(qi 108 (.mm true (.v 107) (qz 0)) [0]),(yn 7 108 [1,0,1])]) (qk [7] .ret))))))) y)=>y
 dsimp
def ac38:AC:=by
 apply fun (y:AC) (_:@Eq AC (let e0:=[8,34,35,36,37,38,39,40,41];let e1:=[0,1,2,3,4,5,6,7];let e2:=[8,34,41,42,43,44,45,46];let e3:=[8,46];let e4:=[8,41,42,43,44,45,46];let e5:=[0,1,2,3,4,5];let e6:=[3,4,5,6,7];(qk e5 (qs (qr [(qp 7 (.mov (qz 0)))]) (qk e5 (qs (.block 0 (qs (qd [(qe (yl 18 1) [19,20,21,22] [] 2),(qe (yl 19 2) [18,20] [0] 2),(qe (ym 20 0) [18,19] [0,1] 2),(qe (yj 21 2 19 20 [1,2]) [18] [0] 2),(qe (qi 22 (qt 2 21) [3]) [18] [0] 2),(qa (qi 23 (.call 32 [.v 18,.v 22]) [0,4]) [] [] [23] [] 1),(qe (yc 24 .eql 23 (qz 1) [5]) [] [] 2),(qe (yn 17 24 [6,5]) [] [] 2)]) (qk [0,1,2,3,4,5,17] (qq (.v 17) (qs (qr [(qp 7 (.mov (qz 0)))]) (qk [7] .ret)) (qs (qr [(yl 26 3),(ym 27 0),(yj 28 1 26 27 [0,1]),(yk 29 28 [2]),(yc 30 .lss 29 (qz 0) [3]),(yn 25 30 [4])]) (qk [0,1,2,3,4,5,25] (qq (.v 25) (qs (qr [(qp 31 (qf 0 4)),(yk 32 31 [0]),(yc 33 .quo 32 (qz 2) [1]),(yn 7 33 [2,0,1,2])]) (qk [7] .ret)) .skip))))))) (qk e5 (qs (qd [(qa (yl 34 5) [8,35,36,37,38,41,42,43,44,45,46] e3 [] [] 0),(qa (yl 35 3) [8,34,36,41,42,43,44,45,46] e3 [] [0] 0),(qa (ym 36 0) [8,34,35,41,42,43,44,45,46] e3 [] [0,1] 2),(qa (yj 37 1 35 36 [1,2]) e2 e3 [] [0] 2),(qa (yk 38 37 [3]) e2 e3 [] [0] 0),(qa (yj 39 9 34 38 [0,4]) e4 e3 [] [] 2),(qa (qi 40 (qt 9 39) [5]) e4 e3 [] [] 0),(qa (yl 41 1) [8,34,35,36,37,38,39,40,42,43,44,45] [8] [] [0,1,2,3,4,5,6] 0),(qa (yl 42 2) [8,34,35,36,37,38,39,40,41,43] [8] [] e1 0),(qa (ym 43 0) [8,34,35,36,37,38,39,40,41,42] [8] [] [0,1,2,3,4,5,6,7,8] 2),(qa (yj 44 2 42 43 [8,9]) e0 [8] [] e1 2),(qa (qi 45 (qt 2 44) [10]) e0 [8] [] e1 0),(qa (qi 46 (.call 26 [.v 41,.v 45]) [7,11]) [8,34,35,36,37,38,39,40] [8] [46] [0,1,2,3,4,5,6] 0),(qa (qp 8 (.alloc [.str ⟨#[]⟩,.int .i64 0,.nsl,.nsl,.int .i64 0,.nsl,.nsl,.nsl,.str ⟨#[]⟩])) [34,35,36,37,38,39,40,41,42,43,44,45,46] [46] [8] [0,1,2,3,4,5,6,7,8,9,10,11,12] 0),(qa (qo (.store 9 (.v 8) (.v 40)) [13,6,12,0,1,2,3,4,5,6,13]) [] [] [8] [] 1),(qe (yn 9 46 [12,14,0,1,2,3,4,5,6,7,8,9,10,11,12,13,14]) [] [] 2)]) (qk [0,1,2,3,4,8,9] (qs (qr [(qp 10 (.mov (qz (-1))))]) (qk [0,1,2,3,4,8,9,10] (qs (qs (qd [(qe (ym 47 0) [] [] 2),(qe (yc 48 .gtr 47 (qz 0) [0]) [] [] 2),(qe (yn 49 48 [1]) [] [] 2),(qe (qg 50 (ql 3) 49 true [2]) [51,52,55,56,57,58] [] 2),(qe (qg 51 (qm 0) 49 true [2]) [50,55,56,57,58] [3] 2),(qe (qg 52 (qc .sub 51 (qz 1)) 49 true [4,2]) [50,55,56,57,58] [3] 2),(qe (qg 53 (qj 1 50 52) 49 true [3,5,2]) [55,56,57,58] [] 2),(qe (qg 54 (ql 53) 49 true [6,2]) [55,56,57,58] [] 2),(qe (qg 55 (ql 3) 49 true [2]) [50,51,52,53,54,56] e6 2),(qe (qg 56 (qm 0) 49 true [2]) [50,51,52,53,54,55] [3,4,5,6,7,8] 2),(qe (qg 57 (qj 1 55 56) 49 true [8,9,2]) [50,51,52,53,54] e6 2),(qe (qg 58 (ql 57) 49 true [10,2]) [50,51,52,53,54] e6 2),(qe (qg 59 (qb .eql 54 58) 49 true [7,11,2]) [] [] 2),(qe (qi 60 (.pick (.v 49) (.v 59) (.c (.bool false))) [2,12]) [] [] 2)]) (qk [0,1,2,4,8,9,10,60] (qq (.v 60) (qs (qd [(qe (yl 61 1) [62,63,64,65,66] [] 2),(qe (yl 62 2) [61,63,64] [0] 2),(qe (ym 63 0) [61,62] [0,1] 2),(qe (yc 64 .sub 63 (qz 1) [2]) [61,62] [0,1] 2),(qe (yj 65 2 62 64 [1,3]) [61] [0] 2),(qe (qi 66 (qt 2 65) [4]) [61] [0] 2),(qa (qi 67 (.call 26 [.v 61,.v 66]) [0,5]) [] [] [67] [] 1),(qe (yn 11 67 [6,6,0,1,2,3,4,5,6]) [] [] 2)]) (qk [4,8,9,10,11] (qs (qr [(ym 68 11),(yh 69 68 [0]),(yc 70 .gtr 69 (qz 0) [1])]) (qk [4,8,9,10,11,70] (qq (.v 70) (qr [(ym 71 11),(ym 72 11),(yh 73 72 [1]),(yc 74 .sub 73 (qz 1) [2]),(yj 75 1 71 74 [0,3]),(yk 76 75 [4]),(yn 10 76 [5,0,1,2,3,4,5])]) .skip))))) .skip))) (qk [4,8,9,10] xc38b)))))))))))) y)=>y
 dsimp
theorem fn38:factOf Tryz.prog 38=some (ac38.strip,[.tmp 7],109):=by kernel_rfl
theorem ok38:ac38.okAll=true:=by kernel_rfl
end
section
set_option maxHeartbeats 400000
theorem x38 (c:Cor) (hc:c.fine) (s:Stg) (hs:s.at_.length≤1000) (C:List Int) (hC:C.length≤6) (b:Int) :
  awp Tryz.prog xc38b (retK [RO.tmp 7] (.p (.int .i64 (max (sumW c s b C) 0)))) ⟨[(4,.p (.ro (stgRow s))),(8,.ptr (8,0) 9 0 0),(9,.p (.sl 1 (C.map intRow))),(10,.p (.int .i64 b))],[((8,0),.box ((corRow c).map .p))]⟩:=by
 have hp:=hc.prb
 have hpl:=hc.pr
 have hch:c.ch.length≤1000:=hc.ch
 have hax:c.ax.length≤1000:=hc.ax
 simp -dsimp [xc38b,stgRow,corRow]
 refine loopC C.length (fun k=>⟨[(4,.p (.ro (stgRow s))),(8,.ptr (8,0) 9 0 0),(10,.p (.int .i64 ((C.take k).getLastD b))),(12,.p (.int .i64 (sumW c s b (C.take k)))),(77,.p (.sl 1 (C.map intRow))),(78,.p (.int .i64 C.length)),(79,.p (.int .i64 k))],[((8,0),.box ((corRow c).map .p))]⟩) (fun _=>True) (fun k hk _=>?_) trivial (by simp [sumW,stgRow,corRow])
 by_cases h:k<C.length
 ·obtain ⟨x,ex⟩:∃ x,C[k]=x:=⟨_,rfl⟩
  have hx:C[k]?=some x:=by simp [h,ex]
  have hsn:=sumW_snoc c s x (C.take k) b
  have htk:C.take (k+1)=C.take k++[x]:=by rw [List.take_add_one,hx];rfl
  have hla:(C.take (k+1)).getLastD b=x:=by rw [htk];simp
  rw [←htk] at hsn
  have hb:=sumW_b hp s (C.take k) b
  have hl2:(C.take k).length≤6:=by simp;omega
  have wk:R ((k:Int)+1):=⟨by omega,by omega⟩
  have hw:(widthN c x (s.own c.ax.length)).1=cwN c s x:=rfl
  have hcb:=cwN_b (c:=c) (s:=s) (x:=x)
  have q39:=b39 c hch x (s.own c.ax.length) (Cor.fine.w hc x (s.own c.ax.length) (by simp [Stg.own,setN];omega))
  have hbb:=betwN_b hp (a:=(C.take k).getLastD b) (b:=x) (n:=s.size)
  obtain ⟨l,el⟩:∃ l,(C.take k).getLastD b=l:=⟨_,rfl⟩
  obtain ⟨v,ev⟩:∃ v,sumW c s b (C.take k)=v:=⟨_,rfl⟩
  obtain ⟨z,ez⟩:∃ z,cwN c s x=z:=⟨_,rfl⟩
  obtain ⟨w,ew⟩:∃ w,betwN c l x s.size=w:=⟨_,rfl⟩
  obtain ⟨v',ev'⟩:∃ v',sumW c s b (C.take (k+1))=v':=⟨_,rfl⟩
  rw [el,ev,ez,ew,ev'] at hsn
  rw [ev] at hb
  rw [ez] at hcb hw
  rw [el,ew] at hbb
  rw [el,ev,ev',hla]
  have w1':R (v+z):=⟨by omega,by omega⟩
  have w2':R (v+z+w):=⟨by omega,by omega⟩
  simp -dsimp [h,ex,intRow,stgRow,corRow]
  refine call_p (b10 c hax s hs) (by simp [stgRow,corRow]) (by simp) ?_
  simp -dsimp [h,ex,intRow,stgRow,corRow]
  refine call_p q39 (by simp [stgRow,corRow]) (by simp) ?_
  rw [hw]
  by_cases h1:0≤l
  ·rw [if_pos h1] at hsn
   simp -dsimp [h,h1,wr w1']
   refine call_p (b40 c (by omega) hp l x s.size) (by simp [corRow]) (by simp) ?_
   rw [ew]
   simp -dsimp [h,h1,wr w2',wr wk,hsn,stgRow,corRow]
  ·rw [if_neg h1] at hsn
   simp -dsimp [h,h1,wr w1',wr wk,hsn,stgRow,corRow]
 ·have:k=C.length:=by omega
  subst this
  rw [List.take_length]
  simp -dsimp [h]
theorem b38 (cs:List Cor) (hcs:CorsOk2 cs) (t:List UInt8) (hl:t.length≤1000000) (s:Stg) (hs:s.at_.length≤1000) (hz:R s.size) (i:Nat) (hi:i<(splT t).length) :
  Best Tryz.prog 38 [.int .i64 i,.ro [.str (ba t)],.ro [.sl 2 ((splT t).map spRow)],.ro [.sl 1 ((fontsN cs t).map intRow)],.ro (stgRow s),.ro [.sl 9 (cs.map corRow)]] (.p (.int .i64 (wdN cs t s i))):=by
 refine best mixed fn38 ok38 (by simp) ?_
 have hm:∀ x∈splT t,x.1<x.2∧x.2≤t.length∧x.2 - x.1≤6:=fun x hx=>splT_mem hx
 have hfl:(fontsN cs t).length=(splT t).length:=by simp [fontsN]
 have hfg:∀ j (hj:j<(splT t).length),(fontsN cs t)[j]'(by omega)=fontN cs t ((splT t)[j]):=fun j hj=>by simp [fontsN]
 obtain ⟨V,eV⟩:∃ V,wdN cs t s i=V:=⟨_,rfl⟩
 rw [eV]
 unfold wdN at eV
 obtain ⟨T,eT⟩:∃ T,splT t=T:=⟨_,rfl⟩
 obtain ⟨Fs,eF⟩:∃ Fs,fontsN cs t=Fs:=⟨_,rfl⟩
 have eB:befN cs t i=befN cs t i:=rfl
 conv at eB=>rhs;unfold befN
 simp only [eT,eF] at hm hfl hfg hi eB eV ⊢
 obtain ⟨⟨a,b⟩,ex⟩:∃ x,T[i]=x:=⟨_,rfl⟩
 obtain ⟨hab,hb,h6⟩:=hm (a,b) (by rw [←ex];simp)
 dsimp only at hab hb h6
 have exd:T.getD i (0,0)=(a,b):=by simp [hi,ex]
 obtain ⟨fo,ef⟩:∃ fo,fontN cs t (a,b)=fo:=⟨_,rfl⟩
 have hfi:=hfg i hi
 rw [ex,ef] at hfi
 have hFi:i<Fs.length:=by omega
 rw [exd,ef] at eB eV
 simp -dsimp [ac38,hi,ex,spRow,↓ awpC_of xc38b]
 refine call_p (b32 t a b hab hb hl) (by simp [spRow]) (by simp) ?_
 by_cases h1:clsT t (baseT t a b)=1
 ·rw [if_pos h1] at eV
  simp -dsimp [h1,←eV,↓ awpC_of xc38b]
 rw [if_neg h1] at eV
 by_cases h2:fo<0
 ·rw [if_pos h2] at eV
  subst eV
  have wd:R (s.size.tdiv 2):=R_tdiv hz (d:=2) (by omega)
  simp -dsimp [h1,hFi,hfi,intRow,h2,stgRow,wr wd,↓ awpC_of xc38b]
 obtain ⟨m,hm1,hm2⟩:=fontN_lt (cs:=cs) (t:=t) (x:=(a,b)) (by rw [ef];exact h2)
 rw [ef] at hm1
 subst hm1
 obtain ⟨c,ec⟩:∃ c,cs[m]=c:=⟨_,rfl⟩
 have hcm:c∈cs:=by rw [←ec];simp
 have n1:¬(m:Int)<0:=by omega
 simp -dsimp [h1,n1,hm2,ec,corRow,hi,ex,spRow,hFi,hfi,intRow,↓ awpC_of xc38b]
 refine call_p (b26 t a b hab hb hl h6) (by simp [spRow]) (by simp) ?_
 have hgc:cs.getD (m:Int).toNat cor0=c:=by simp [hm2,ec]
 have hC:(codesT t a b).length≤6:=by have:=codesT_len (t:=t) (a:=a) (b:=b);omega
 rw [if_neg h2,hgc] at eV
 dsimp only at eV
 have htl:=splT_len t
 rw [eT] at htl
 rcases Nat.eq_zero_or_pos i with h0 | h0
 ·subst h0
  rw [if_neg (by omega)] at eB
  have:=x38 c (hcs.2 c hcm) s hs (codesT t a b) hC (befN cs t 0)
  rw [eB] at this eV
  subst eV
  simp -dsimp [↓ awpC_of xc38b]
  exact awpC_in this
 ·obtain ⟨j,rfl⟩:∃ j,i=j+1:=⟨i - 1,by omega⟩
  have hj:j<T.length:=by omega
  have hFj:j<Fs.length:=by omega
  obtain ⟨⟨a',b'⟩,ex'⟩:∃ x,T[j]=x:=⟨_,rfl⟩
  obtain ⟨hab',hb',h6'⟩:=hm (a',b') (by rw [←ex'];simp)
  dsimp only at hab' hb' h6'
  have hfj:=hfg j hj
  rw [ex'] at hfj
  have exd':T.getD j (0,0)=(a',b'):=by simp [hj,ex']
  rw [Nat.add_sub_cancel,exd'] at eB
  obtain ⟨fj,efj⟩:∃ fj,fontN cs t (a',b')=fj:=⟨_,rfl⟩
  rw [efj] at hfj eB
  have wj:R (j:Int):=⟨by omega,by omega⟩
  have j0:0≤(j:Int)+1:=by omega
  have this:=x38 c (hcs.2 c hcm) s hs (codesT t a b) hC (befN cs t (j+1))
  by_cases h3:fj=m
  ·rw [if_pos ⟨h0,h3⟩] at eB
   simp -dsimp [hj,ex',hFj,hfj,hFi,hfi,wr wj,intRow,spRow,h3,j0,↓ awpC_of xc38b]
   refine call_p (b26 t a' b' hab' hb' hl h6') (by simp [spRow]) (by simp) ?_
   obtain ⟨D,eD⟩:∃ D,codesT t a' b'=D:=⟨_,rfl⟩
   rw [eD] at eB ⊢
   by_cases h4:D=[]
   ·subst h4
    rw [eB] at this eV
    subst eV
    simp -dsimp [↓ awpC_of xc38b]
    exact awpC_in this
   ·have h5:0<D.length:=List.length_pos_iff.2 h4
    have h5':0<(D.length:Int):=by omega
    obtain ⟨y,ey⟩:∃ y,D.getLastD (-1)=y:=⟨_,rfl⟩
    have ey':D[D.length - 1]=y:=by rw [←ey,List.getLastD_eq_getLast?,List.getLast?_eq_getElem?,List.getElem?_eq_getElem (by omega)];rfl
    have ey2:D[D.length - 1]?=some y:=by rw [List.getElem?_eq_getElem (by omega),ey']
    have hD:D.length≤6:=by rw [←eD];have:=codesT_len (t:=t) (a:=a') (b:=b');omega
    have wl:R ((D.length:Int) - 1):=⟨by omega,by omega⟩
    have ln:(0:Int)≤(D.length:Int) - 1:=by omega
    have lt:((D.length:Int) - 1).toNat=D.length - 1:=by omega
    have lt2:D.length - 1<D.length:=by omega
    have l1:1≤(D.length:Int):=by omega
    rw [ey] at eB
    rw [eB] at this eV
    subst eV
    simp -dsimp [h5,↓ awpC_of xc38b]
    simp -dsimp [h5,h5',wr wl,ln,l1,lt,lt2,ey',ey2,intRow,↓ awpC_of xc38b]
    exact awpC_in this
  ·rw [if_neg (fun e=>h3 e.2)] at eB
   rw [eB] at this eV
   subst eV
   simp -dsimp [hj,ex',hFj,hfj,hFi,hfi,wr wj,intRow,spRow,h3,j0,↓ awpC_of xc38b]
   exact awpC_in this
end
section
set_option maxHeartbeats 400000
theorem fitN_b {s:Stg} (h:fitN s=true):4≤s.size∧s.size≤32∧CL s.at_:=by
 simp [fitN] at h
 exact ⟨h.1.1,h.1.2,h.2⟩
theorem b15 (cs:List Cor) (hcs:CorsOk2 cs) (t:List UInt8) (hl:t.length≤1000000) (s:Stg) (hs:s.at_.length≤1000) :
  Best Tryz.prog 15 [.sl 9 (cs.map corRow),.str (ba t),.agg (stgRow s)] (.p (.sl 1 ((widthsN cs t s).map intRow))):=by
 refine best mixed fn15 ok15 (by simp [stgRow]) ?_
 unfold widthsN
 have q37:=b37 s hs
 simp -dsimp [ac15,stgRow]
 refine call_p q37 (by simp [stgRow]) (by simp) ?_
 by_cases h1:fitN s=true
 rotate_left
 ·simp -dsimp [h1,resOf]
 obtain ⟨f1,f2,f3⟩:=fitN_b h1
 simp -dsimp [h1]
 refine call_p (b25 t hl) (by simp) (by simp) ?_
 simp -dsimp
 refine call_p (b13 cs hcs.one t hl) (by simp) (by simp) ?_
 have q38:=fun i hi=>b38 cs hcs t hl s hs ⟨by omega,by omega⟩ i hi
 have hsl:=splT_len t
 obtain ⟨T,eT⟩:∃ T,splT t=T:=⟨_,rfl⟩
 simp only [eT] at q38 hsl ⊢
 have hlen:(fontsN cs t).length=T.length:=by simp [fontsN,eT]
 obtain ⟨Fs,eF⟩:∃ Fs,fontsN cs t=Fs:=⟨_,rfl⟩
 rw [eF] at q38
 simp -dsimp [eF]
 obtain ⟨W,eW⟩:∃ W:Nat→List Int,W=fun k=>(List.range k).map (wdN cs t s):=⟨_,rfl⟩
 have hW0:W 0=[]:=by rw [eW];rfl
 have hWl:∀ k,(W k).length=k:=fun k=>by rw [eW];simp
 have hWs:∀ k,(W (k+1)).map intRow=(W k).map intRow++[[.int .i64 (wdN cs t s k)]]:=fun k=>by rw [eW];simp [List.range_succ,intRow]
 have hWe:(List.range T.length).map (wdN cs t s)=W T.length:=by rw [eW]
 rw [hWe]
 refine loopC T.length (fun k=>⟨[(6,.ref (30,0) 1 0 k),(9,.clo (.func 38) [] [.ptr (4,0) 1 0 0,.ptr (7,0) 1 0 0,.ptr (8,0) 1 0 0,.ptr (5,0) 3 0 0,.ptr (3,0) 1 0 0]),(21,.p (.int .i64 T.length)),(22,.p (.int .i64 k))],
  [((3,0),.box [.p (.sl 9 (cs.map corRow))]),((4,0),.box [.p (.str (ba t))]),((5,0),.box [.p (.int .i64 s.size),.p (.sl 1 (s.at_.map intRow)),.p (.int .i64 s.feat)]),((7,0),.box [.p (.sl 2 (T.map spRow))]),((8,0),.box [.p (.sl 1 (Fs.map intRow))]),((30,0),.sl 3 1 ((W k).map intRow))]⟩) (fun _=>True) (fun k hk _=>?_) trivial (by simp [hW0])
 by_cases h:k<T.length
 ·have wk:R ((k:Int)+1):=⟨by omega,by omega⟩
  have m1:k+1≤maxLen:=by unfold maxLen;omega
  have e1:(k+1)*8≤140737488355328:=by omega
  have q:=q38 k h
  have hl1:=hWl k
  have hs1:=hWs k
  obtain ⟨L,eL⟩:∃ L,W k=L:=⟨_,rfl⟩
  obtain ⟨x,exx⟩:∃ x,wdN cs t s k=x:=⟨_,rfl⟩
  rw [exx] at hs1 q
  rw [eL] at hs1 hl1
  have ht:List.take (k+1) (L.map intRow++[[.int .i64 x]])=L.map intRow++[[.int .i64 x]]:=List.take_of_length_le (by simp;omega)
  rw [eL,hs1]
  simp -dsimp [h]
  refine call_f q (by simp [stgRow]) (by simp) (by simp) ?_
  simp -dsimp [h,m1,e1,hl1,ht,wr wk,List.range,List.range.loop,-List.all_eq_true]
 ·have:k=T.length:=by omega
  subst this
  have hl:=hWl T.length
  have ht:List.take T.length ((W T.length).map intRow)=(W T.length).map intRow:=List.take_of_length_le (by simp [hl])
  simp -dsimp [h,h1,resOf,ht,hl]
end
section
set_option maxHeartbeats 4000000
attribute [local simp] ba_size wb ba_at w1 w6
attribute [local simp ↓] oneN oneI oneSp
def nxtN {α:Type} (q:α→Bool) (l:List α) (j:Nat):Int:=match (l.drop j).findIdx? q with
 | some i=>((j+i:Nat):Int)
 | none=>-1
theorem nxt0 {α:Type} {q:α→Bool} {l:List α}:nxtN q l 0=idxS q l:=by
 unfold nxtN idxS
 rw [List.drop_zero]
 cases l.findIdx? q<;>simp
theorem nxt_end {α:Type} {q:α→Bool} {l:List α}:nxtN q l l.length=-1:=by simp [nxtN]
theorem nxt_step {α:Type} {q:α→Bool} {l:List α} {j:Nat} (h:j<l.length):nxtN q l j=if q l[j] then (j:Int) else nxtN q l (j+1):=by
 unfold nxtN
 rw [List.drop_eq_getElem_cons h,List.findIdx?_cons]
 cases hq:q l[j]
 ·simp only [Bool.false_eq_true,if_false]
  cases (l.drop (j+1)).findIdx? q with
  | none=>rfl
  | some i=>simp;omega
 ·simp
theorem b14 (cs:List Cor) (hcs:CorsOk cs) (t:List UInt8) (hl:t.length≤1000000):Best Tryz.prog 14 [.sl 9 (cs.map corRow),.str (ba t)] (.p (.sl 1 ((fontsN cs t).map intRow))):=by
 refine best mixed fn14 ok14 (by simp) ?_
 have hsl:=splT_len t
 obtain ⟨T,eT⟩:∃ T,splT t=T:=⟨_,rfl⟩
 have hm:∀ x∈T,x.1<x.2∧x.2≤t.length∧x.2 - x.1≤6:=fun x hx=>splT_mem (eT ▸ hx)
 have q33:=b33 t hl
 have hcl:=hcs.1
 unfold fontsN
 rw [eT] at q33 hsl ⊢
 simp -dsimp [ac14,↓ awpC_of xc14b]
 refine call_p q33 (by simp) (by simp) ?_
 simp -dsimp [↓ awpC_of xc14b]
 refine loopC T.length (fun k=>⟨[(0,.p (.sl 9 (cs.map corRow))),(1,.p (.str (ba t))),(5,.p (.sl 2 (T.map spRow))),(6,.ref (54,0) 1 0 k),(7,.p (.int .i64 k))],[((54,0),.sl 3 1 (((T.take k).map (fontN cs t)).map intRow))]⟩) (fun _=>True) (fun k hk _=>?_) trivial (by simp)
 by_cases h:k<T.length
 ·obtain ⟨⟨a,b⟩,ex⟩:∃ x,T[k]=x:=⟨_,rfl⟩
  obtain ⟨hab,hb,h6⟩:=hm (a,b) (by rw [←ex];simp)
  dsimp only at hab hb h6
  have wk:R ((k:Int)+1):=⟨by omega,by omega⟩
  have m1:k+1≤maxLen:=by unfold maxLen;omega
  have e1:(k+1)*8≤140737488355328:=by omega
  have hcl2:(codesT t a b).length≤1000:=by have:=visT_len (t:=t) (a:=a) (b:=b);simp [codesT];omega
  have hs:((T.take (k+1)).map (fontN cs t)).map intRow=((T.take k).map (fontN cs t)).map intRow++[[.int .i64 (fontN cs t (a,b))]]:=by
   rw [List.take_add_one,List.getElem?_eq_getElem h,ex];simp [intRow]
  obtain ⟨L,eL⟩:∃ L,(T.take k).map (fontN cs t)=L:=⟨_,rfl⟩
  rw [eL] at hs
  have hLl:L.length=k:=by rw [←eL];simp;omega
  obtain ⟨fo,ef⟩:∃ fo,fontN cs t (a,b)=fo:=⟨_,rfl⟩
  rw [ef] at hs
  have ht:List.take (k+1) (L.map intRow++[[.int .i64 fo]])=L.map intRow++[[.int .i64 fo]]:=List.take_of_length_le (by simp;omega)
  rw [eL,hs]
  simp -dsimp [h,ex,spRow,↓ awpC_of xc14b]
  refine call_p (b34 t a b hab hb hl) (by simp [spRow]) (by simp) ?_
  simp -dsimp [h,ex,spRow,↓ awpC_of xc14b]
  refine call_p (b35 t a b hab hb hl) (by simp [spRow]) (by simp) ?_
  have wl:R ((cs.length:Int) - 1):=⟨by omega,by omega⟩
  by_cases h1:clsT t (baseT t a b)=1
  ·have hfo:fo=-1:=by rw [←ef];simp [fontN,h1]
   subst hfo
   simp -dsimp [h1,↓ awpC_of xc14b]
   refine awpC_in ?_
   simp -dsimp [xc14b,wr wl,↓ awpC_of xc14c]
   refine loopC 0 (fun m=>⟨[(0,.p (.sl 9 (cs.map corRow))),(1,.p (.str (ba t))),(5,.p (.sl 2 (T.map spRow))),(6,.ref (54,0) 1 0 k),(7,.p (.int .i64 k)),(8,.p (.int .i64 (-1))),(9,.p (.bool true)),(10,.p (.sl 1 ((codesT t a b).map intRow))),(11,.p (.int .i64 ((cs.length:Int) - 1)))],[((54,0),.sl 3 1 (L.map intRow))]⟩) (fun _=>True) (fun m hm' _=>?_) trivial (by simp)
   obtain ⟨z,ez⟩:∃ z,(cs.length:Int) - 1=z:=⟨_,rfl⟩
   rw [ez]
   by_cases h0:(0:Int)≤z
   ·simp -dsimp [h0,↓ awpC_of xc14c]
    refine awpC_in ?_
    simp -dsimp [xc14c,m1,e1,hLl,ht,wr wk,h,List.range,List.range.loop,-List.all_eq_true]
   ·simp -dsimp [h0,↓ awpC_of xc14c]
    refine awpC_in ?_
    simp -dsimp [xc14c,m1,e1,hLl,ht,wr wk,h,List.range,List.range.loop,-List.all_eq_true]
  ·have hfo:idxS (allN (codesT t a b)) cs=fo:=by rw [←ef];simp [fontN,h1]
   obtain ⟨Q,eQ⟩:∃ Q,allN (codesT t a b)=Q:=⟨_,rfl⟩
   rw [eQ] at hfo
   simp -dsimp [h1,↓ awpC_of xc14b]
   refine awpC_in ?_
   simp -dsimp [xc14b,wr wl,↓ awpC_of xc14c]
   refine loopC cs.length (fun m=>⟨[(0,.p (.sl 9 (cs.map corRow))),(1,.p (.str (ba t))),(5,.p (.sl 2 (T.map spRow))),(6,.ref (54,0) 1 0 k),(7,.p (.int .i64 k)),(8,.p (.int .i64 (nxtN Q cs (cs.length - m)))),(9,.p (.bool false)),(10,.p (.sl 1 ((codesT t a b).map intRow))),(11,.p (.int .i64 ((cs.length:Int) - 1 - m)))],[((54,0),.sl 3 1 (L.map intRow))]⟩) (fun _=>True) (fun m hm' _=>?_) trivial (by simp [nxt_end])
   by_cases hlt:m<cs.length
   ·obtain ⟨j,ej⟩:∃ j:Nat,(cs.length:Int) - 1 - m=j:=⟨cs.length - 1 - m,by omega⟩
    have hj:j<cs.length:=by omega
    obtain ⟨c,ec⟩:∃ c,cs[j]=c:=⟨_,rfl⟩
    have e2:cs.length - m=j+1:=by omega
    have e3:cs.length - (m+1)=j:=by omega
    have e4:(cs.length:Int) - 1 - ((m+1:Nat):Int)=(j:Int) - 1:=by omega
    have wj:R ((j:Int) - 1):=⟨by omega,by omega⟩
    have h0:(0:Int)≤j:=by omega
    have hst:=nxt_step (q:=Q) hj
    rw [ec] at hst
    have q36:=b36 c (hcs.2 c (by rw [←ec];simp)) (codesT t a b) hcl2
    rw [eQ] at q36
    rw [ej,e2,e3,e4]
    simp -dsimp [h0,hj,ec,corRow]
    refine call_p q36 (by simp [corRow]) (by simp) ?_
    rw [hst]
    cases hq:Q c with
    | false=>simp -dsimp [wr wj,hlt]
    | true=>simp -dsimp [wr wj,hlt]
   ·have:m=cs.length:=by omega
    subst this
    obtain ⟨z,ez⟩:∃ z,(cs.length:Int) - 1 - cs.length=z:=⟨_,rfl⟩
    have h0:¬(0:Int)≤z:=by omega
    rw [Nat.sub_self,nxt0,hfo,ez]
    simp -dsimp [h0,↓ awpC_of xc14c]
    refine awpC_in ?_
    simp -dsimp [xc14c,m1,e1,hLl,ht,wr wk,h,List.range,List.range.loop,-List.all_eq_true]
 ·have:k=T.length:=by omega
  subst this
  rw [List.take_length]
  obtain ⟨L,eL⟩:∃ L,T.map (fontN cs t)=L:=⟨_,rfl⟩
  have hLl:L.length=T.length:=by rw [←eL];simp
  have ht4:List.take T.length (L.map intRow)=L.map intRow:=List.take_of_length_le (by simp;omega)
  rw [eL]
  simp -dsimp [h,resOf,hLl,ht4]
  rw [←eL,List.map_map]
end
section
def xc16d:AC:=by
 apply fun (y:AC) (_:@Eq AC (qr [(ym 149 9),(ym 150 15),(qi 151 (.mm true (.v 150) (qz 0)) [1]),(qi 152 (.bslice 3 1 1 [.int .i64 0] [(0,1,.v 151)]) [2]),(qi 153 (.app 3 1 8 (.v 149) (.v 152)) [0,3]),(yn 9 153 [4,4,0,1,2,3,4])]) y)=>y
 dsimp
def xc16c:AC:=by
 apply fun (y:AC) (_:@Eq AC (let e0:=[134,135,136,137,138,139,140,141,145,146];let e1:=[134,135,136,142,143,144,145,146];let e2:=[134,135,136,137,138,139,140,141,142,143,144];let e3:=[134,135,142,143,144,145,146];let e4:=[0,1,2,3,4,5,6,7];let e5:=[0,1,2,3,4,5,6,7,8,9,10];let e6:=[108,113,114,115,116];let e7:=[108,109,110,111,112];let e8:=[3,4,5,6,7];(qs (qs (qd [(qe (ym 105 10) [] [] 2),(qe (yc 106 .gtr 105 (qz 0) [0]) [] [] 2),(qe (yn 107 106 [1]) [] [] 2),(qe (qg 108 (qm 8) 107 true [2]) [109,110,113,114,115,116] [] 2),(qe (qg 109 (qm 10) 107 true [2]) e6 [3] 2),(qe (qg 110 (qc .sub 109 (qz 1)) 107 true [4,2]) e6 [3] 2),(qe (qg 111 (qj 1 108 110) 107 true [3,5,2]) [113,114,115,116] [] 2),(qe (qg 112 (ql 111) 107 true [6,2]) [113,114,115,116] [] 2),(qe (qg 113 (qm 8) 107 true [2]) [108,109,110,111,112,114] e8 2),(qe (qg 114 (qm 10) 107 true [2]) [108,109,110,111,112,113] [3,4,5,6,7,8] 2),(qe (qg 115 (qj 1 113 114) 107 true [8,9,2]) e7 e8 2),(qe (qg 116 (ql 115) 107 true [10,2]) e7 e8 2),(qe (qg 117 (qb .eql 112 116) 107 true [7,11,2]) [] [] 2),(qe (qi 118 (.pick (.v 107) (.v 117) (.c (.bool false))) [2,12]) [] [] 2),(qe (yn 119 118 [13,2]) [] [] 2),(qe (qg 120 (qm 14) 119 true [14]) [] [] 2),(qe (qg 121 (qn 120) 119 true [15,14]) [] [] 2),(qe (qg 122 (qc .gtr 121 (qz 0)) 119 true [16,14]) [] [] 2),(qe (qi 123 (.pick (.v 119) (.v 122) (.c (.bool false))) [14,17]) [] [] 2)]) (qk [0,1,5,7,8,9,10,12,14,15,123] (qq (.v 123) (qs (qr [(ym 124 1),(ym 125 7),(ym 126 10),(yc 127 .sub 126 (qz 1) [2]),(yj 128 2 125 127 [1,3]),(qi 129 (qt 2 128) [4]),(qi 130 (.call 35 [.v 124,.v 129]) [0,5]),(yn 19 130 [6,6,0,1,2,3,4,5,6])]) (qk [0,1,5,7,8,9,10,12,14,15,19] (qs (qr [(ym 131 19),(yh 132 131 [0]),(yc 133 .gtr 132 (qz 0) [1])]) (qk [0,1,5,7,8,9,10,12,14,15,19,133] (qq (.v 133) (qd [(qa (ym 134 15) [135,136,137,138,139,140,141,142,143,144,145,146,147] [147] [] [] 2),(qe (qp 135 (qt 9 12)) [134,136,137,138,139,140,141,142,143,144,145,146] [0] 2),(qe (ym 136 19) [134,135,137,138,139,142,143,144,145,146] [0,1] 2),(qe (ym 137 19) e1 [0,1,2] 2),(qe (yh 138 137 [3]) e1 [0,1,2] 2),(qe (yc 139 .sub 138 (qz 1) [4]) e1 [0,1,2] 2),(qe (yj 140 1 136 139 [2,5]) e3 [0,1] 2),(qe (yk 141 140 [6]) e3 [0,1] 2),(qe (ym 142 14) e0 e4 2),(qe (qi 143 (.iaddr 1 (.v 142) (qz 0)) [8]) e0 e4 2),(qe (yk 144 143 [9]) e0 e4 2),(qe (qp 145 (qf 0 5)) e2 e5 2),(qe (yk 146 145 [11]) e2 e5 2),(qa (qi 147 (.call 43 [.v 135,.v 141,.v 144,.v 146]) [1,7,10,12]) [134] [] [147] [0] 1),(qe (yb 148 .add 134 147 [0,13]) [] [] 2),(qe (yn 15 148 [14,13,0,1,2,3,4,5,6,7,8,9,10,11,12,13,14]) [] [] 2)]) .skip))))) .skip))) (qk [0,1,5,7,8,9,10,15] xc16d))) y)=>y
 dsimp
def xc16b:AC:=by
 apply fun (y:AC) (_:@Eq AC (let e0:=[0,1,5,7,8,9,10,12,13,14,15,16];let e1:=[90,91,92,93,94,95,96,97,98,99,100];let e2:=[90,91,92,97,98,99,100,101,102];let e3:=[90,91,92,93,94,95,96,101,102];let e4:=[90,91,97,98,99,100,101,102];let e5:=[0,1,2,3,4,5,6,7,8,9,10];let e6:=[0,1,2,3,4,5,6];(qs (qr [(ym 53 0),(ym 54 8),(ym 55 10),(yj 56 1 54 55 [1,2]),(yk 57 56 [3]),(yj 58 9 53 57 [0,4]),(qi 59 (qt 9 58) [5]),(qp 12 (.alloc [.str ⟨#[]⟩,.int .i64 0,.nsl,.nsl,.int .i64 0,.nsl,.nsl,.nsl,.str ⟨#[]⟩])),(qo (.store 9 (.v 12) (.v 59)) [7,6,0,1,2,3,4,5,6,7])]) (qk [0,1,5,7,8,9,10,12] (qs (qr [(qp 60 (qt 9 12)),(qp 61 (qt 3 5)),(qi 62 (.call 11 [.v 60,.v 61]) [0,1]),(qp 13 (.alloc [.int .i64 0,.nsl,.int .i64 0])),(qo (.store 3 (.v 13) (.v 62)) [3,2,2,0,1,2,3])]) (qk [0,1,5,7,8,9,10,12,13] (qs (qr [(ym 63 1),(ym 64 7),(ym 65 10),(yj 66 2 64 65 [1,2]),(qi 67 (qt 2 66) [3]),(qi 68 (.call 35 [.v 63,.v 67]) [0,4]),(yn 14 68 [5,5,0,1,2,3,4,5])]) (qk [0,1,5,7,8,9,10,12,13,14] (qs (qr [(qp 15 (.mov (qz 0)))]) (qk [0,1,5,7,8,9,10,12,13,14,15] (qs (qs (qr [(qp 16 (.mov (qz 0)))]) (qk e0 (.block 2 (.loop (qk e0 (qs (qs (qr [(ym 69 16),(ym 70 14),(yh 71 70 [1]),(yb 72 .lss 69 71 [0,2])]) (qk [0,1,5,7,8,9,10,12,13,14,15,16,72] (qq (.v 72) .skip (.exit 2)))) (qk e0 (qs (.block 3 (qs (qd [(qe (qp 76 (qt 9 12)) [77,78,79,80,81] [] 2),(qe (ym 77 14) [76,78,81] [0] 2),(qe (ym 78 16) [76,77,81] [0,1] 2),(qe (yj 79 1 77 78 [1,2]) [76,81] [0] 2),(qe (yk 80 79 [3]) [76,81] [0] 2),(qe (qp 81 (qt 3 13)) [76,77,78,79,80] [0,1,2,3,4] 2),(qa (qi 82 (.call 42 [.v 76,.v 80,.v 81]) [0,4,5]) [] [] [82] [] 1),(qe (yn 75 82 [6]) [] [] 2),(qe (qi 83 (.ext (.v 75) 0) [7]) [84] [] 2),(qe (qi 84 (.ext (.v 75) 1) [7]) [17,83] [8] 2),(qe (yn 17 83 [8,6,0,1,2,3,4,5,6,7,8]) [84] [9] 2),(qe (yn 18 84 [9,10,0,1,2,3,4,5,6,7,8,9,10]) [] [] 2)]) (qk [0,1,5,7,8,9,10,12,13,14,15,16,17] (qs (qr [(ym 85 15),(ym 86 17),(yb 87 .add 85 86 [0,1]),(yn 15 87 [2,0,1,2])]) (qk e0 (qs (qr [(ym 88 16),(yc 89 .gtr 88 (qz 0) [0])]) (qk [0,1,5,7,8,9,10,12,13,14,15,16,89] (qq (.v 89) (qd [(qa (ym 90 15) [91,92,93,94,95,96,97,98,99,100,101,102,103] [103] [] [] 2),(qe (qp 91 (qt 9 12)) [90,92,93,94,95,96,97,98,99,100,101,102] [0] 2),(qe (ym 92 14) [90,91,93,94,97,98,99,100,101,102] [0,1] 2),(qe (ym 93 16) e2 [0,1,2] 2),(qe (yc 94 .sub 93 (qz 1) [3]) e2 [0,1,2] 2),(qe (yj 95 1 92 94 [2,4]) e4 [0,1] 2),(qe (yk 96 95 [5]) e4 [0,1] 2),(qe (ym 97 14) [90,91,92,93,94,95,96,98,101,102] e6 2),(qe (ym 98 16) [90,91,92,93,94,95,96,97,101,102] [0,1,2,3,4,5,6,7] 2),(qe (yj 99 1 97 98 [7,8]) e3 e6 2),(qe (yk 100 99 [9]) e3 e6 2),(qe (qp 101 (qf 0 5)) e1 e5 2),(qe (yk 102 101 [11]) e1 e5 2),(qa (qi 103 (.call 43 [.v 91,.v 96,.v 100,.v 102]) [1,6,10,12]) [90] [] [103] [0] 1),(qe (yb 104 .add 90 103 [0,13]) [] [] 2),(qe (yn 15 104 [14,13,0,1,2,3,4,5,6,7,8,9,10,11,12,13,14]) [] [] 2)]) .skip)))))))) (qk e0 (qr [(ym 73 16),(yc 74 .add 73 (qz 1) [0]),(yn 16 74 [1,0,1])])))))))))) (qk [0,1,5,7,8,9,10,12,14,15] xc16c))))))))))) y)=>y
 dsimp
def ac16:AC:=by
 apply fun (y:AC) (_:@Eq AC (let e0:=[0,1,5,7,8,9,10];let e1:=[0,1,5,7,8,9,10,11];(qk [0,1,2] (qs (qr [(qp 5 (.box (.v 2))),(qp 6 (.mov (.c .nsl)))]) (qk [0,1,5] (qs (qs (qr [(qp 20 (qt 3 5)),(qi 21 (.call 41 [.v 20]) [0]),(qi 22 (.un .not (.v 21)) [1])]) (qk [0,1,5,22] (qq (.v 22) (qs (qr [(qp 6 (.mov (.c .nsl)))]) (qk [6] (.ghost (.zsl 6 1) .ret))) .skip))) (qk [0,1,5] (qs (qr [(ym 23 1),(qi 24 (.call 33 [.v 23]) [0]),(yn 7 24 [1,1,0,1])]) (qk [0,1,5,7] (qs (qr [(ym 25 0),(ym 26 1),(qi 27 (.call 14 [.v 25,.v 26]) [0,1]),(yn 8 27 [2,2,0,1,2])]) (qk [0,1,5,7,8] (qs (qr [(qp 9 (.mov (.c .nsl)))]) (.ghost (.own 9 52 3 1) (qk [0,1,5,7,8,9] (qs (qs (qr [(qp 10 (.mov (qz 0)))]) (qk e0 (.block 0 (.loop (qk e0 (qs (qs (qr [(ym 28 10),(ym 29 7),(yh 30 29 [1]),(yb 31 .lss 28 30 [0,2])]) (qk [0,1,5,7,8,9,10,31] (qq (.v 31) .skip (.exit 0)))) (qk e0 (qs (.block 1 (qs (qs (qr [(ym 34 8),(ym 35 10),(yj 36 1 34 35 [0,1]),(yk 37 36 [2]),(yc 38 .lss 37 (qz 0) [3])]) (qk [0,1,5,7,8,9,10,38] (qq (.v 38) (qs (qr [(qp 39 (qf 0 5)),(yk 40 39 [0]),(yc 41 .quo 40 (qz 2) [1]),(yn 11 41 [2,0,1,2])]) (qk e1 (qs (qs (qr [(ym 42 1),(ym 43 7),(ym 44 10),(yj 45 2 43 44 [1,2]),(qi 46 (qt 2 45) [3]),(qi 47 (.call 34 [.v 42,.v 46]) [0,4]),(yc 48 .eql 47 (qz 1) [5])]) (qk [0,1,5,7,8,9,10,11,48] (qq (.v 48) (qr [(qp 11 (.mov (qz 0)))]) .skip))) (qk e1 (qs (qr [(ym 49 9),(ym 50 11),(qi 51 (.bslice 3 1 1 [.int .i64 0] [(0,1,.v 50)]) [1]),(qi 52 (.app 3 1 8 (.v 49) (.v 51)) [0,2]),(yn 9 52 [3,3,0,1,2,3])]) (qk e0 (.exit 1))))))) .skip))) (qk e0 xc16b))) (qk e0 (.ghost (.canV 9 (52,0)) (qr [(ym 32 10),(yc 33 .add 32 (qz 1) [0]),(yn 10 33 [1,0,1])]))))))))))) (qk [9] (qs (qr [(ym 154 9),(yn 6 154 [0,0])]) (qk [6] (.ghost (.zsl 6 1) .ret)))))))))))))))))) y)=>y
 dsimp
theorem fn16:factOf Tryz.prog 16=some (ac16.strip,[.tmp 6],155):=by kernel_rfl
theorem ok16:ac16.okAll=true:=by kernel_rfl
end
end Go.Abs.A29
