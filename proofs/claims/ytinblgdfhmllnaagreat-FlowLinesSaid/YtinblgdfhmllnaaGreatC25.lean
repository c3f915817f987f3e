/- A part of the proof: an abstract reading of the model, contracts of functions. -/
import Derived.Test.YtinblgdfhmllnaaGreatC24
import Derived.Test.YtinblgdfhmllnaaGreatProg
set_option linter.unusedVariables false
set_option linter.unusedSimpArgs false
namespace Go.Abs.A29
open Go Go.Abs Go.Proofs
set_option maxRecDepth 100000
set_option linter.unusedVariables false
set_option linter.unusedSimpArgs false
attribute [local simp ↓] awp_skip awp_seq awp_cond awp_block awp_exit awp_ret awp_reg awp_draw awp_ghost awp_loop awp_rfun awpR_nil awpR_cons awpX_nil awpX_0 awpX_1 awpX_2 awpI_eq awpI_t awpI_f awpStep_eq
attribute [local simp] condL_true condL_false condL_dec evDel evV evN evS evA initFr Ghost.app Fr.var Fr.blk Fr.ff FF.val Abs.look Fr.app Fr.erase Fr.noSlot AV.noSlot AV.noSlotL Blk.noSlot Fr.spoken AV.fz AV.fzL Blk.fz binV binI shI binS unV fillA FF.parts FF.vals headO intO boundO lenV scalarEq leavesEq AV.aggc AV.cells FF.read FF.rows AV.one PV.one chunk freshB newS pickV retK evRs evRl evR resOf mkTup mkAgg allP cloOf okP_nil okX_p okX okP addN Del.noSlot Del.owners Rnd reify_p normM insM Fr.back Fr.backV Fr.setPs normV insV
attribute [local simp] renF Fr.trim Blk.trim AV.rn AV.rnL Blk.rn AV.among AV.amongL Blk.among okF retM fixS BIG initFF
attribute [local simp] FF.reify FF.reifyL PV.flat
attribute [local simp] ym yn yl yk yb yc yf yj yh qp qe qi qo qg qa qk qz qm ql qt qf qj qn qb qc qs qr qq qd
section
attribute [local simp ↓] awp_scope awp_label
attribute [local simp] w1
set_option maxHeartbeats 400000
attribute [local simp] evC
attribute [local simp ↓] oneN oneI oneSp oneB
def capN (n:Int):Int:=max 0 (min n 10000)
theorem capN_b (n:Int):0≤capN n∧capN n≤10000:=by unfold capN;omega
def boolRow (b:Bool):List PV:=[.bool b]
theorem oneBo (z:List Bool):((z.map boolRow).all fun r=>r.all PV.one)=true:=by
 rw [List.all_eq_true];intro r hr;obtain ⟨x,_,rfl⟩:=List.mem_map.1 hr;rfl
attribute [local simp ↓] oneBo
def finN (n fit:Nat) (opp:Int):Int:=if (fit:Int)<(n:Int) - 1∧0≤opp then opp else fit
def totN (sp:Bool) (tot run w:Int):Int:=if sp=true then tot else tot+(run+w)
def rnN (sp:Bool) (run w:Int):Int:=if sp=true then run+w else 0
def fgo (ws:List Int) (sp:List Bool) (ms:List Int) (W:Int) (s n:Nat):Nat→Nat→Nat→Int→Int→Int→Int
 | 0,_,fit,opp,_,_=>finN n fit opp
 | m+1,i,fit,opp,tot,run=>
  if capN W<totN (sp.getD i false) tot run (capN (ws.getD i 0))∧s<i then finN n fit opp
  else if capN W<totN (sp.getD i false) tot run (capN (ws.getD i 0)) then finN n i opp
  else if ms.getD i 0=2 then i
  else fgo ws sp ms W s n m (i+1) i (if ms.getD i 0=1 then (i:Int) else opp) (totN (sp.getD i false) tot run (capN (ws.getD i 0))) (rnN (sp.getD i false) run (capN (ws.getD i 0)))
def endN (ws:List Int) (sp:List Bool) (ms:List Int) (W:Int) (n s:Nat):Int:=fgo ws sp ms W s n (n - s) s s (-1) 0 0
def ar89 (n:Nat) (ws:List Int) (sp:List Bool) (ms:List Int) (W:Int):List PV:=[.ro [.int .i64 n],.ro [.clo (.func 88) [] []],.ro [.sl 1 (ws.map intRow)],.ro [.sl 1 (sp.map boolRow)],.ro [.int .i64 W],.ro [.sl 1 (ms.map intRow)]]
theorem b88' (n:Int):Best Tryz.prog 88 [.int .i64 n] (.p (.int .i64 (capN n))):=b88 n
theorem b89 (ws:List Int) (sp:List Bool) (ms:List Int) (W:Int) (n s:Nat) (h1:n≤ws.length) (h2:n≤sp.length) (h3:n≤ms.length) (hs:s<n) (hn:n≤1000000) :
  Best Tryz.prog 89 (.int .i64 s :: ar89 n ws sp ms W) (.p (.int .i64 (endN ws sp ms W n s))):=by
 refine best mixed fn89 ok89 (by simp [ar89]) ?_
 unfold endN
 obtain ⟨V,eV⟩:∃ V,fgo ws sp ms W s n (n - s) s s (-1) 0 0=V:=⟨_,rfl⟩
 rw [eV]
 have wn:R ((n:Int) - 1):=⟨by omega,by omega⟩
 have hcW:=capN_b W
 simp -dsimp [ac89,ar89]
 refine loopE (n - s) (fun k (z:Nat×Int×Int×Int)=>⟨[(0,.p (.int .i64 s)),(1,.p (.ro [.int .i64 n])),(2,.p (.ro [.clo (.func 88) [] []])),(3,.p (.ro [.sl 1 (ws.map intRow)])),(4,.p (.ro [.sl 1 (sp.map boolRow)])),(5,.p (.ro [.int .i64 W])),(6,.p (.ro [.sl 1 (ms.map intRow)])),
  (9,.p (.int .i64 z.1)),(10,.p (.int .i64 z.2.1)),(11,.p (.int .i64 z.2.2.1)),(12,.p (.int .i64 ((s+k:Nat):Int))),(13,.p (.int .i64 z.2.2.2))],[]⟩)
  (fun k z=>fgo ws sp ms W s n (n - s - k) (s+k) z.1 z.2.1 z.2.2.1 z.2.2.2=V∧0≤z.2.2.1∧0≤z.2.2.2∧z.2.2.1+z.2.2.2≤10000*k) (s,-1,0,0) (fun k z hk hz=>?_) ⟨by simpa using eV,by simp,by simp,by simp⟩ (by simp)
 obtain ⟨fit,opp,tot,run⟩:=z
 obtain ⟨z1,z2,z3,z4⟩:=hz
 dsimp only at z1 z2 z3 z4 ⊢
 obtain ⟨i,ei⟩:∃ i,s+k=i:=⟨_,rfl⟩
 have ei2:s+(k+1)=i+1:=by omega
 rw [ei] at z1 ⊢
 by_cases h:i<n
 ·have hk2:k<n - s:=by omega
  have hm:n - s - k=(n - s - (k+1))+1:=by omega
  rw [hm,fgo] at z1
  have i1:i<ws.length:=by omega
  have i2:i<sp.length:=by omega
  have i3:i<ms.length:=by omega
  obtain ⟨w,ew⟩:∃ w,ws[i]=w:=⟨_,rfl⟩
  obtain ⟨b,eb⟩:∃ b,sp[i]=b:=⟨_,rfl⟩
  obtain ⟨x,ex⟩:∃ x,ms[i]=x:=⟨_,rfl⟩
  have ewd:ws.getD i 0=w:=by simp [i1,ew]
  have ebd:sp.getD i false=b:=by simp [i2,eb]
  have exd:ms.getD i 0=x:=by simp [i3,ex]
  rw [ewd,ebd,exd] at z1
  have hcw:=capN_b w
  have q1:=b88' w
  have q2:=b88' W
  obtain ⟨cw,ecw⟩:∃ cw,capN w=cw:=⟨_,rfl⟩
  obtain ⟨cW,ecW⟩:∃ cW,capN W=cW:=⟨_,rfl⟩
  rw [ecw] at q1 hcw z1
  rw [ecW] at q2 hcW z1
  have wi:R ((i:Int)+1):=⟨by omega,by omega⟩
  have wr1:R (run+cw):=⟨by omega,by omega⟩
  have wr2:R (tot+(run+cw)):=⟨by omega,by omega⟩
  have hn0:(i:Int)<n:=by omega
  cases b with
  | true=>
   have eT:totN true tot run cw=tot:=rfl
   have eR:rnN true run cw=run+cw:=rfl
   rw [eT,eR] at z1
   simp -dsimp [hn0,i1,i2,i3,ew,eb,ex,intRow,boolRow]
   refine call_p q1 (by simp) (by simp) ?_
   simp -dsimp [hn0,i1,i2,i3,ew,eb,ex,intRow,boolRow,wr wr1,wr wr2]
   refine call_p q2 (by simp) (by simp) ?_
   by_cases hT:cW<tot
   ·by_cases hsi:s<i
    ·have hsi':(s:Int)<i:=by omega
     rw [if_pos ⟨hT,hsi⟩] at z1
     subst z1
     unfold finN
     by_cases f1:(fit:Int)<(n:Int) - 1
     ·by_cases f2:0≤opp<;>simp -dsimp [hT,hsi,hsi',f1,f2,wr wn]
     ·simp -dsimp [hT,hsi,hsi',f1,wr wn]
    ·have hsi':¬(s:Int)<i:=by omega
     rw [if_neg (fun q=>hsi q.2),if_pos hT] at z1
     subst z1
     simp -dsimp [hT,hsi,hsi']
     refine call_p q2 (by simp) (by simp) ?_
     unfold finN
     by_cases f1:(i:Int)<(n:Int) - 1
     ·by_cases f2:0≤opp<;>simp -dsimp [hT,f1,f2,wr wn]
     ·simp -dsimp [hT,f1,wr wn]
   ·rw [if_neg (fun q=>hT q.1),if_neg hT] at z1
    simp -dsimp [hT]
    refine call_p q2 (by simp) (by simp) ?_
    by_cases hx:x=2
    ·rw [if_pos hx] at z1
     subst z1
     simp -dsimp [hT,hx,i3,ex,intRow]
    ·rw [if_neg hx] at z1
     by_cases hy:x=1
     ·rw [if_pos hy] at z1
      simp -dsimp [hT,hx,hy,i3,ex,intRow,wr wi,hk2]
      exact ⟨i,i,tot,run+cw,⟨by rw [ei2];exact z1,by omega,by omega,by push_cast;omega⟩,rfl,rfl,rfl,by omega,rfl⟩
     ·rw [if_neg hy] at z1
      simp -dsimp [hT,hx,hy,i3,ex,intRow,wr wi,hk2]
      exact ⟨i,opp,tot,run+cw,⟨by rw [ei2];exact z1,by omega,by omega,by push_cast;omega⟩,rfl,rfl,rfl,by omega,rfl⟩
  | false=>
   have eT:totN false tot run cw=(tot+(run+cw)):=rfl
   have eR:rnN false run cw=0:=rfl
   rw [eT,eR] at z1
   simp -dsimp [hn0,i1,i2,i3,ew,eb,ex,intRow,boolRow]
   refine call_p q1 (by simp) (by simp) ?_
   simp -dsimp [hn0,i1,i2,i3,ew,eb,ex,intRow,boolRow,wr wr1,wr wr2]
   refine call_p q2 (by simp) (by simp) ?_
   by_cases hT:cW<(tot+(run+cw))
   ·by_cases hsi:s<i
    ·have hsi':(s:Int)<i:=by omega
     rw [if_pos ⟨hT,hsi⟩] at z1
     subst z1
     unfold finN
     by_cases f1:(fit:Int)<(n:Int) - 1
     ·by_cases f2:0≤opp<;>simp -dsimp [hT,hsi,hsi',f1,f2,wr wn]
     ·simp -dsimp [hT,hsi,hsi',f1,wr wn]
    ·have hsi':¬(s:Int)<i:=by omega
     rw [if_neg (fun q=>hsi q.2),if_pos hT] at z1
     subst z1
     simp -dsimp [hT,hsi,hsi']
     refine call_p q2 (by simp) (by simp) ?_
     unfold finN
     by_cases f1:(i:Int)<(n:Int) - 1
     ·by_cases f2:0≤opp<;>simp -dsimp [hT,f1,f2,wr wn]
     ·simp -dsimp [hT,f1,wr wn]
   ·rw [if_neg (fun q=>hT q.1),if_neg hT] at z1
    simp -dsimp [hT]
    refine call_p q2 (by simp) (by simp) ?_
    by_cases hx:x=2
    ·rw [if_pos hx] at z1
     subst z1
     simp -dsimp [hT,hx,i3,ex,intRow]
    ·rw [if_neg hx] at z1
     by_cases hy:x=1
     ·rw [if_pos hy] at z1
      simp -dsimp [hT,hx,hy,i3,ex,intRow,wr wi,hk2]
      exact ⟨i,i,(tot+(run+cw)),0,⟨by rw [ei2];exact z1,by omega,by omega,by push_cast;omega⟩,rfl,rfl,rfl,by omega,rfl⟩
     ·rw [if_neg hy] at z1
      simp -dsimp [hT,hx,hy,i3,ex,intRow,wr wi,hk2]
      exact ⟨i,opp,(tot+(run+cw)),0,⟨by rw [ei2];exact z1,by omega,by omega,by push_cast;omega⟩,rfl,rfl,rfl,by omega,rfl⟩
 ·have hkn:n - s - k=0:=by omega
  rw [hkn,fgo] at z1
  subst z1
  have hn0:¬(i:Int)<n:=by omega
  unfold finN
  by_cases f1:(fit:Int)<(n:Int) - 1
  ·by_cases f2:0≤opp<;>simp -dsimp [h,hn0,f1,f2,wr wn]
  ·simp -dsimp [h,hn0,f1,wr wn]
end
section
def ac45:AC:=by
 apply fun (y:AC) (_:@Eq AC (let e0:=[8,9,11,12];let e1:=[8,9,11,12,13];(qk [0,1,2,3] (qs (qr [(qp 4 (.box (.v 0))),(qp 5 (.box (.v 1))),(qp 6 (.box (.v 2))),(qp 7 (.box (.v 3))),(qp 8 (.mov (.c .nsl)))]) (.ghost (.own 8 39 3 1) (qk [4,5,6,7,8] (qs (qr [(yl 14 4),(yh 15 14 [0]),(yl 16 5),(yh 17 16 [2]),(yl 18 6),(yh 19 18 [4]),(qi 20 (.mm3 false (.v 15) (.v 17) (.v 19)) [1,3,5]),(qp 9 (.alloc [.int .i64 0])),(qo (.store 1 (.v 9) (.v 20)) [7,6,0,1,2,3,4,5,6,7])]) (qk [4,5,6,7,8,9] (qs (qr [(qp 10 (.alloc [.nfn])),(qo (.store 1 (.v 10) (.c (.clo (.func 88) [] []))) [0,0])]) (.ghost (.freeze (4,0)) (.ghost (.freeze (5,0)) (.ghost (.freeze (6,0)) (.ghost (.freeze (7,0)) (.ghost (.freeze (9,0)) (.ghost (.freeze (10,0)) (qk [4,5,6,7,8,9,10] (qs (qr [(qp 21 (.mkfn (.func 89) [] [.v 9,.v 10,.v 4,.v 6,.v 7,.v 5])),(yn 11 21 [0,0])]) (qk [8,9,11] (qs (qs (qr [(qp 12 (.mov (qz 0)))]) (qk e0 (.block 0 (.loop (qk e0 (qs (qs (qr [(ym 22 8),(yh 23 22 [0]),(yl 24 9),(yb 25 .lss 23 24 [1,2])]) (qk [8,9,11,12,25] (qq (.v 25) .skip (.exit 0)))) (qk e0 (qs (.block 1 (qs (qr [(ym 28 11),(ym 29 8),(yh 30 29 [1]),(qi 31 (.callv (.v 28) [.v 30]) [0,2]),(yn 13 31 [3,3,0,1,2,3])]) (qk e1 (.block 2 (.loop (qk e1 (qs (qs (qr [(ym 32 8),(yh 33 32 [0]),(ym 34 13),(yb 35 .leq 33 34 [1,2])]) (qk [8,9,11,12,13,35] (qq (.v 35) .skip (.exit 2)))) (qk e1 (.block 3 (qr [(ym 36 8),(ym 37 12),(qi 38 (.bslice 3 1 1 [.int .i64 0] [(0,1,.v 37)]) [1]),(qi 39 (.app 3 1 8 (.v 36) (.v 38)) [0,2]),(yn 8 39 [3,3,0,1,2,3])])))))))))) (qk e0 (qr [(ym 26 12),(yc 27 .add 26 (qz 1) [0]),(yn 12 27 [1,0,1])])))))))))) (qk [8] (qs (qr [(ym 40 8),(yn 8 40 [0,0])]) (qk [8] .ret))))))))))))))))))))) y)=>y
 dsimp
theorem fn45:factOf Tryz.prog 45=some (ac45.strip,[.tmp 8],41):=by kernel_rfl
theorem ok45:ac45.okAll=true:=by kernel_rfl
end
section
attribute [local simp] w1
set_option maxHeartbeats 400000
attribute [local simp] evC
attribute [local simp ↓] oneN oneI oneSp oneB oneBo
theorem fgo_range {ws:List Int} {sp:List Bool} {ms:List Int} {W:Int} {s n:Nat}:∀ (m i fit:Nat) (opp tot run:Int),i+m=n→s≤i→s≤fit→fit<n→(opp=-1∨((s:Int)≤opp∧opp<n)) →
  (s:Int)≤fgo ws sp ms W s n m i fit opp tot run∧fgo ws sp ms W s n m i fit opp tot run<n:=by
 have hfin:∀ (fit:Nat) (opp:Int),s≤fit→fit<n→(opp=-1∨((s:Int)≤opp∧opp<n))→(s:Int)≤finN n fit opp∧finN n fit opp<n:=by
  intro fit opp h1 h2 h3
  unfold finN
  split
  ·rename_i h;omega
  ·omega
 intro m
 induction m with
 | zero=>intro i fit opp tot run h1 h2 h3 h4 h5;rw [fgo];exact hfin fit opp h3 h4 h5
 | succ m ih=>
  intro i fit opp tot run h1 h2 h3 h4 h5
  rw [fgo]
  split
  ·exact hfin fit opp h3 h4 h5
  ·split
   ·exact hfin i opp h2 (by omega) h5
   ·split
    ·omega
    ·refine ih (i+1) i _ _ _ (by omega) (by omega) h2 (by omega) ?_
     split
     ·right;omega
     ·exact h5
theorem endN_range {ws:List Int} {sp:List Bool} {ms:List Int} {W:Int} {n s:Nat} (h:s<n):(s:Int)≤endN ws sp ms W n s∧endN ws sp ms W n s<n:=
 fgo_range _ _ _ _ _ _ (by omega) (by omega) (by omega) h (.inl rfl)
def fillF (E:Nat→Int) (n:Nat):Nat→List Int→Int→List Int
 | 0,L,_=>L
 | m+1,L,line=>if L.length<n then fillF E n m (L++List.replicate ((E L.length).toNat+1 - L.length) line) (line+1) else L
def fillN (ws:List Int) (ms:List Int) (sp:List Bool) (W:Int) (n:Nat):List Int:=fillF (endN ws sp ms W n) n n [] 0
theorem fillF_end (E:Nat→Int) (n m:Nat) (L:List Int) (line:Int) (h:¬L.length<n):fillF E n m L line=L:=by
 cases m with
 | zero=>rfl
 | succ m=>rw [fillF,if_neg h]
def rpl (j:Nat) (v:Int):List Int:=List.replicate j v
theorem rpl_succ (j:Nat) (v:Int):(rpl (j+1) v).map intRow=(rpl j v).map intRow++[[.int .i64 v]]:=by
 simp [rpl,List.replicate_succ',intRow]
theorem rpl_len (j:Nat) (v:Int):(rpl j v).length=j:=by simp [rpl]
theorem b45 (ws ms:List Int) (sp:List Bool) (W:Int) (n:Nat) (h1:ws.length=n) (h2:sp.length=n) (h3:ms.length=n) (hn:n≤1000000) :
  Best Tryz.prog 45 [.sl 1 (ws.map intRow),.sl 1 (ms.map intRow),.sl 1 (sp.map boolRow),.int .i64 W] (.p (.sl 1 ((fillN ws ms sp W n).map intRow))):=by
 refine best mixed fn45 ok45 (by simp) ?_
 have q89:=fun s hs=>b89 ws sp ms W n s (by omega) (by omega) (by omega) hs hn
 obtain ⟨V,eV⟩:∃ V,fillN ws ms sp W n=V:=⟨_,rfl⟩
 rw [eV]
 unfold fillN at eV
 have hE:=fun s (hs:s<n)=>endN_range (ws:=ws) (sp:=sp) (ms:=ms) (W:=W) (n:=n) (s:=s) hs
 simp -dsimp [ac45,h1,h2,h3]
 have c11:∀ x,(PV.clo (.func 89) [] x)=PV.clo (.func 89) [] x:=fun _=>rfl
 refine loopE n (fun k (z:List Int×Int)=>⟨[(8,.ref (39,z.1.length) 1 0 z.1.length),(9,.p (.ro [.int .i64 n])),(11,.p (.clo (.func 89) [] (ar89 n ws sp ms W))),(12,.p (.int .i64 z.2))],[((39,z.1.length),.sl 3 1 (z.1.map intRow))]⟩)
  (fun k z=>k≤z.1.length∧z.1.length≤n∧fillF (endN ws sp ms W n) n (n - k) z.1 z.2=V∧z.2=k) ([],0) (fun k z hk hz=>?_) ⟨by simp,by simp,by simpa using eV,by simp⟩ (by simp [ar89])
 obtain ⟨L,line⟩:=z
 obtain ⟨z1,z2,z3,z4⟩:=hz
 dsimp only at z1 z2 z3 z4 ⊢
 subst z4
 obtain ⟨s,es⟩:∃ s,L.length=s:=⟨_,rfl⟩
 rw [es] at z1 z2 ⊢
 by_cases h:s<n
 ·have hm:n - k=(n - (k+1))+1:=by omega
  rw [hm,fillF,if_pos (by omega),es] at z3
  obtain ⟨r1,r2⟩:=hE s h
  have q:=q89 s h
  obtain ⟨e,ee⟩:∃ e:Nat,endN ws sp ms W n s=e:=⟨(endN ws sp ms W n s).toNat,by omega⟩
  rw [ee] at q r1 r2 z3
  rw [Int.toNat_natCast] at z3
  have wk:R ((k:Int)+1):=⟨by omega,by omega⟩
  have hsn:(s:Int)<n:=by omega
  have hkn:k<n:=by omega
  simp -dsimp [h,hsn]
  refine call_p q (by simp [ar89]) (by simp) ?_
  simp -dsimp
  refine loopC (e+1 - s) (fun j=>⟨[(8,.ref (39,s+j) 1 0 (s+j)),(9,.p (.ro [.int .i64 n])),(11,.p (.clo (.func 89) [] (ar89 n ws sp ms W))),(12,.p (.int .i64 k)),(13,.p (.int .i64 e))],[((39,s+j),.sl 3 1 (L.map intRow++(rpl j k).map intRow))]⟩) (fun _=>True) (fun j hj _=>?_) trivial (by simp [rpl])
  obtain ⟨m,em⟩:∃ m,s+j=m:=⟨_,rfl⟩
  have em2:s+(j+1)=m+1:=by omega
  have hrl:=rpl_len j k
  have hrs:=rpl_succ j k
  rw [em,em2,hrs]
  obtain ⟨D,eD⟩:∃ D,rpl j (k:Int)=D:=⟨_,rfl⟩
  rw [eD] at hrl ⊢
  by_cases hm2:m≤e
  ·have hm3:(m:Int)≤e:=by omega
   have m1:m+1≤maxLen:=by unfold maxLen;omega
   have e1:(m+1)*8≤140737488355328:=by omega
   have hjl:j<e+1 - s:=by omega
   have hl0:s+j=m:=em
   have ht:List.take (m+1) (L.map intRow++D.map intRow++[[.int .i64 k]])=L.map intRow++D.map intRow++[[.int .i64 k]]:=List.take_of_length_le (by simp;omega)
   simp -dsimp [hm2,hm3,m1,e1,es,hrl,hl0,ht,hjl,List.range,List.range.loop,-List.all_eq_true]
  ·have hm3:¬(m:Int)≤e:=by omega
   have hme:m=e+1:=by omega
   simp -dsimp [hm2,hm3,wr wk,hkn]
   have hj2:j=e+1 - s:=by omega
   have hLD:(L++D).length=m:=by simp [es,hrl,em]
   refine ⟨L++D,(k:Int)+1,⟨by omega,by omega,?_,rfl⟩,⟨hLD.symm,rfl⟩,hLD.symm,by simp⟩
   rw [←eD,hj2]
   exact z3
 ·have hsn:¬(s:Int)<n:=by omega
  rw [fillF_end _ _ _ _ _ (by omega)] at z3
  subst z3
  have ht:List.take s (L.map intRow)=L.map intRow:=List.take_of_length_le (by simp [es])
  simp -dsimp [h,hsn,resOf,es,ht]
end
section
def xc87c:AC:=by
 apply fun (y:AC) (_:@Eq AC (let e0:=[5,6,88,89,90];(qs (qs (qr [(ym 87 0),(qi 88 (.s2b 5 (.v 87)) [0]),(yh 89 88 [1]),(qp 90 (.mov (qz 0)))]) (qk e0 (.block 6 (.loop (qk e0 (qs (qr [(qp 91 (qb .lss 90 89))]) (qk [5,6,88,89,90,91] (qs (qq (.v 91) .skip (.exit 6)) (qk e0 (qs (.block 7 (qs (qr [(ym 92 90),(qp 93 (qj 1 88 90)),(yk 94 93 [1]),(yn 16 92 [0,0,1,2]),(yn 17 94 [2,3,0,1,2,3])]) (qk [5,6,16,17,88,89,90] (qs (qr [(ym 95 17),(qi 96 (.conv .i64 (.v 95)) [0]),(qi 97 (.call 66 [.v 96]) [1]),(yc 98 .eql 97 (qz 1) [2])]) (qk [5,6,16,88,89,90,98] (qq (.v 98) (qr [(yl 99 6),(ym 100 16),(yl 101 5),(yj 102 1 99 100 [0,1,0,1,2]),(qo (.store 1 (.v 102) (.v 101)) [3,2,0,1,2])]) .skip)))))) (qk e0 (qr [(qp 103 (qc .add 90 (qz 1))),(yn 90 103 [0])])))))))))))) (qk [6] (qs (qr [(yl 104 6),(yn 4 104 [0,0])]) (qk [4] .ret))))) y)=>y
 dsimp
def xc87d:AC:=by
 apply fun (y:AC) (_:@Eq AC (let e0:=[0,5,6,10,14,15,44];(qs (qr [(qp 75 (qf 0 10)),(yk 76 75 [0]),(yn 15 76 [1,0,1])]) (qk e0 (.block 4 (.loop (qk e0 (qs (qs (qr [(ym 77 15),(qp 78 (qf 1 10)),(yk 79 78 [1]),(yb 80 .lss 77 79 [0,2])]) (qk [0,5,6,10,14,15,44,80] (qq (.v 80) .skip (.exit 4)))) (qk e0 (qs (.block 5 (qr [(yl 83 6),(ym 84 15),(ym 85 14),(yj 86 1 83 84 [0,1,0,1,2]),(qo (.store 1 (.v 86) (.v 85)) [3,2,0,1,2])])) (qk e0 (qr [(ym 81 15),(yc 82 .add 81 (qz 1) [0]),(yn 15 82 [1,0,1])]))))))))))) y)=>y
 dsimp
def xc87b:AC:=by
 apply fun (y:AC) (_:@Eq AC (let e0:=[0,5,6,10,12,13,44];(qs (qs (qr [(ym 43 1),(qi 44 (.call 126 [.v 43,.c (.clo (.func 127) [] [])]) [0])]) (qk [0,5,6,44] (.block 2 (.rfun (.v 44) [45,46] [10,11,12,13,14,15,45,46,47,48,49,50,51,52,53,54,55,56,57,58,59,60,61,62,63,64,65,66,67,68,69,70,71,72,73,74,75,76,77,78,79,80,81,82,83,84,85,86] (qs (qr [(qp 10 (.alloc [.int .i64 0,.int .i64 0])),(qo (.store 2 (.v 10) (.v 45)) [0,0])]) (qk [0,5,6,10,44,46] (qr [(ym 11 46)]))) (qk [0,5,6,10,11,44] (.block 3 (qs (qs (qr [(ym 47 11),(qi 48 (.un .not (.v 47)) [0])]) (qk [0,5,6,10,44,48] (qq (.v 48) (.exit 3) .skip))) (qk [0,5,6,10,44] (qs (qd [(qe (yl 49 5) [50] [] 2),(qe (yl 50 5) [12,49] [0] 2),(qe (yn 12 49 [0,0]) [50] [1] 2),(qe (yn 13 50 [1,2,0,1,2]) [] [] 2)]) (qk e0 (qs (qs (qr [(qp 51 (qf 0 10)),(yk 52 51 [0]),(yc 53 .gtr 52 (qz 0) [1])]) (qk [0,5,6,10,12,13,44,53] (qq (.v 53) (qr [(yl 54 6),(qp 55 (qf 0 10)),(yk 56 55 [1]),(yc 57 .sub 56 (qz 1) [2]),(yj 58 1 54 57 [0,3]),(yk 59 58 [4]),(yn 12 59 [5,0,1,2,3,4,5])]) .skip))) (qk e0 (qs (qs (qr [(qp 60 (qf 1 10)),(yk 61 60 [0]),(yl 62 6),(yh 63 62 [2]),(yb 64 .lss 61 63 [1,3])]) (qk [0,5,6,10,12,13,44,64] (qq (.v 64) (qr [(yl 65 6),(qp 66 (qf 1 10)),(yk 67 66 [1]),(yj 68 1 65 67 [0,2]),(yk 69 68 [3]),(yn 13 69 [4,0,1,2,3,4])]) .skip))) (qk e0 (qs (qr [(yl 70 5),(yn 14 70 [0,0])]) (qk [0,5,6,10,12,13,14,44] (qs (qs (qr [(ym 71 12),(ym 72 13),(yb 73 .eql 71 72 [0,1])]) (qk [0,5,6,10,12,14,44,73] (qq (.v 73) (qr [(ym 74 12),(yn 14 74 [0,0])]) .skip))) (qk [0,5,6,10,14,44] xc87d)))))))))))))))))) (qk [0,5,6] xc87c))) y)=>y
 dsimp
def ac87:AC:=by
 apply fun (y:AC) (_:@Eq AC (let e0:=[0,1,5,6,7,24,25,26];(qk [0,1] (qs (qr [(qp 4 (.mov (.c .nsl)))]) (qk [0,1] (qs (qr [(ym 18 0),(qi 19 (.call 86 [.v 18]) [0]),(qp 5 (.alloc [.int .i64 0])),(qo (.store 1 (.v 5) (.v 19)) [2,1,1,0,1,2])]) (qk [0,1,5] (qs (qr [(ym 20 1),(yh 21 20 [0]),(qi 22 (.mksl 3 1 8 [.int .i64 0] (.v 21) (.v 21)) [1,1]),(qp 6 (.alloc [.nsl])),(qo (.store 1 (.v 6) (.v 22)) [3,2,0,1,2,3])]) (qk [0,1,5,6] (qs (qr [(yl 23 5),(yn 7 23 [0,0])]) (qk [0,1,5,6,7] (qs (qs (qr [(ym 24 1),(yh 25 24 [0]),(qp 26 (.mov (qz 0)))]) (qk e0 (.block 0 (.loop (qk e0 (qs (qr [(qp 27 (qb .lss 26 25))]) (qk [0,1,5,6,7,24,25,26,27] (qs (qq (.v 27) .skip (.exit 0)) (qk e0 (qs (.block 1 (qs (qr [(ym 28 26),(qp 29 (qj 1 24 26)),(yk 30 29 [1]),(yn 8 28 [0,0,1,2]),(yn 9 30 [2,3,0,1,2,3])]) (qk [0,1,5,6,7,8,9,24,25,26] (qs (qs (qr [(ym 31 9),(yc 32 .eql 31 (qz 1) [0]),(yn 33 32 [1]),(qg 34 (qm 9) 33 false [2]),(qg 35 (qc .eql 34 (qz 2)) 33 false [3,2]),(qi 36 (.pick (.v 33) (.c (.bool true)) (.v 35)) [2,4])]) (qk [0,1,5,6,7,8,9,24,25,26,36] (qq (.v 36) (qr [(ym 37 9),(yn 7 37 [0,0])]) .skip))) (qk [0,1,5,6,7,8,24,25,26] (qr [(yl 38 6),(ym 39 8),(ym 40 7),(yj 41 1 38 39 [0,1,0,1,2]),(qo (.store 1 (.v 41) (.v 40)) [3,2,0,1,2])])))))) (qk e0 (qr [(qp 42 (qc .add 26 (qz 1))),(yn 26 42 [0])])))))))))))) (qk [0,1,5,6] xc87b)))))))))))) y)=>y
 dsimp
theorem fn87:factOf Tryz.prog 87=some (ac87.strip,[.tmp 4],105):=by kernel_rfl
theorem ok87:ac87.okAll=true:=by kernel_rfl
end
section
attribute [local simp] ba_size wb ba_at w1
set_option maxHeartbeats 400000
attribute [local simp] evC
attribute [local simp ↓] oneN oneI oneSp oneB
def d3K (t:List UInt8) (b:Int) (D:List Int) (k:Nat):List Int:=(List.range D.length).map fun i=>if i<k∧clsT t i=1 then b else D.getD i 0
theorem d3K_len {t:List UInt8} {b:Int} {D:List Int} {k:Nat}:(d3K t b D k).length=D.length:=by simp [d3K]
theorem d3K_0 (t:List UInt8) (b:Int) (D:List Int):d3K t b D 0=D:=by
 apply List.ext_getElem (by simp [d3K])
 intro i h1 h2
 simp [d3K,h2]
theorem d3K_yes {t:List UInt8} {b:Int} {D:List Int} {k:Nat} (h:clsT t k=1):d3K t b D (k+1)=(d3K t b D k).set k b:=by
 apply List.ext_getElem (by simp [d3K])
 intro i h1 h2
 have hi:i<D.length:=by simpa [d3K] using h1
 rw [List.getElem_set]
 simp only [d3K,List.getElem_map,List.getElem_range]
 by_cases e:k=i
 ·subst e
  rw [if_pos ⟨by omega,h⟩,if_pos rfl]
 ·rw [if_neg e]
  by_cases e2:i<k∧clsT t i=1
  ·rw [if_pos ⟨by omega,e2.2⟩,if_pos e2]
  ·rw [if_neg (fun q=>e2 ⟨by omega,q.2⟩),if_neg e2]
theorem d3K_no {t:List UInt8} {b:Int} {D:List Int} {k:Nat} (h:¬clsT t k=1):d3K t b D (k+1)=d3K t b D k:=by
 unfold d3K
 apply List.map_congr_left
 intro i _
 by_cases e:i=k
 ·subst e
  rw [if_neg (fun q=>h q.2),if_neg (fun q=>h q.2)]
 ·by_cases e2:i<k∧clsT t i=1
  ·rw [if_pos ⟨by omega,e2.2⟩,if_pos e2]
  ·rw [if_neg (fun q=>e2 ⟨by omega,q.2⟩),if_neg e2]
theorem x87c (t:List UInt8) (hl:t.length≤1000000) (b:Int) (D:List Int) (hD:D.length=t.length) :
  awp Tryz.prog xc87c (retK [RO.tmp 4] (.own (fun s=>.ref s 1 0 t.length) (.sl 3 1 ((d3K t b D t.length).map intRow)))) ⟨[(0,.p (.str (ba t))),(5,.ptr (5,0) 1 0 0),(6,.ptr (6,0) 1 0 0)],[((5,0),.box [.p (.int .i64 b)]),((6,0),.box [.ref (22,0) 1 0 t.length]),((22,0),.sl 3 1 (D.map intRow))]⟩:=by
 have hd:(ba t).data.toList=t:=by simp [ba]
 have h0:t.length≤9223372036854775807:=by omega
 simp -dsimp [xc87c,hd,h0]
 refine loopC t.length (fun k=>⟨[(5,.ptr (5,0) 1 0 0),(6,.ptr (6,0) 1 0 0),(88,.p (.sl 1 (t.map byteRow))),(89,.p (.int .i64 t.length)),(90,.p (.int .i64 k))],[((5,0),.box [.p (.int .i64 b)]),((6,0),.box [.ref (22,0) 1 0 t.length]),((22,0),.sl 3 1 ((d3K t b D k).map intRow))]⟩) (fun _=>True) (fun k hk _=>?_) trivial (by simp [d3K_0])
 have hml:=map_set_row (d3K t b D k) k b
 have hMl:(d3K t b D k).length=t.length:=by rw [d3K_len,hD]
 by_cases h:k<t.length
 ·obtain ⟨x,ex⟩:∃ x,t[k]=x:=⟨_,rfl⟩
  have hx:cT t k=(x.toNat:Int):=by simp [cT,bT,h,ex]
  have wk:R ((k:Int)+1):=⟨by omega,by omega⟩
  have wx:R (x.toNat:Int):=⟨by omega,by have:=x.toNat_lt;omega⟩
  have hyes:=d3K_yes (t:=t) (b:=b) (D:=D) (k:=k)
  have hno:=d3K_no (t:=t) (b:=b) (D:=D) (k:=k)
  have hcl:clsT t k=clsN x.toNat:=by rw [←hx];rfl
  rw [hcl] at hyes hno
  obtain ⟨M,eM⟩:∃ M,d3K t b D k=M:=⟨_,rfl⟩
  rw [eM] at hml hMl hyes hno ⊢
  have hkM:k<M.length:=by omega
  have htl:(intRow M[k]).tail=[]:=rfl
  simp -dsimp [h,ex,byteRow,wr wx]
  refine call_p (b66 x.toNat) (by simp) (by simp) ?_
  by_cases h1:clsN x.toNat=1
  ·rw [hyes h1,←hml]
   simp -dsimp [h1,h,hkM,hMl,htl,wr wk,-List.all_eq_true,-List.map_set]
  ·rw [hno h1]
   simp -dsimp [h1,h,hkM,hMl,htl,wr wk,-List.all_eq_true,-List.map_set]
 ·have:k=t.length:=by omega
  subst this
  simp -dsimp [h,resOf,hMl]
  exact okV_ref 1 0 _
theorem pcs_get {q:Int→Bool} {l:List Int} {k:Nat} {s e:Nat} {key:Bool} (h:(pcs q l)[k]?=some (s,e,key)):s<e∧e≤l.length:=by
 have hP:=pcsF_get q l l.length 0 (by omega) (by omega) k
 have hpc:pcsF q l l.length 0=pcs q l:=rfl
 rw [hpc] at hP
 have hk:k<(pcs q l).length:=(List.getElem?_eq_some_iff.1 h).1
 have h1:=hP.2.1 hk
 have h2:=hP.1 h1
 rw [h2] at h
 have h3:=Option.some.inj h
 have h4:=congrArg Prod.fst h3
 have h5:=congrArg (fun x=>x.2.1) h3
 simp only at h4 h5
 have h6:=pnx_le q l (i:=pst q l k 0)
 rw [←pst_succ] at h6
 have:=h6.2 h1
 omega
def d2V (b:Int) (D:List Int) (s e:Nat):Int:=
 if (if 0<s then D.getD (s - 1) 0 else b)=(if e<D.length then D.getD e 0 else b) then (if 0<s then D.getD (s - 1) 0 else b) else b
def d2S (b:Int) (D:List Int) (x:Nat×Nat×Bool):List Int:=if x.2.2=true then setR D x.1 x.2.1 (d2V b D x.1 x.2.1) else D
def d2K (b:Int) (P:List (Nat×Nat×Bool)) (D:List Int):Nat→List Int
 | 0=>D
 | k+1=>d2S b (d2K b P D k) (P.getD k (0,0,false))
theorem d2K_len (b:Int) (P:List (Nat×Nat×Bool)) (D:List Int):∀ k,(d2K b P D k).length=D.length
 | 0=>rfl
 | k+1=>by
  rw [d2K,d2S]
  split
  ·rw [setR_len,d2K_len b P D k]
  ·exact d2K_len b P D k
def neuN (x:Int):Bool:=decide (x=0)
theorem x87d {Kc:AE→Fr→Prop} (t:List UInt8) (hl:t.length≤1000000) (b v:Int) (M:List Int) (hM:M.length=t.length) (s e:Nat) (hse:s<e) (he:e≤t.length) (a0 a44:PV)
  (hK:Kc .normal ⟨[(0,.p a0),(5,.ptr (5,0) 1 0 0),(6,.ptr (6,0) 1 0 0),(10,.ptr (10,0) 2 0 0),(14,.p (.int .i64 v)),(15,.p (.int .i64 e)),(44,.p a44),(80,.p (.bool false))],[((5,0),.box [.p (.int .i64 b)]),((6,0),.box [.ref (22,0) 1 0 t.length]),((10,0),.box [.p (.int .i64 s),.p (.int .i64 e)]),((22,0),.sl 3 1 ((setR M s e v).map intRow))]⟩) :
  awp Tryz.prog xc87d Kc ⟨[(0,.p a0),(5,.ptr (5,0) 1 0 0),(6,.ptr (6,0) 1 0 0),(10,.ptr (10,0) 2 0 0),(14,.p (.int .i64 v)),(44,.p a44)],[((5,0),.box [.p (.int .i64 b)]),((6,0),.box [.ref (22,0) 1 0 t.length]),((10,0),.box [.p (.int .i64 s),.p (.int .i64 e)]),((22,0),.sl 3 1 (M.map intRow))]⟩:=by
 simp -dsimp [xc87d]
 refine loopC (e - s) (fun n=>⟨[(0,.p a0),(5,.ptr (5,0) 1 0 0),(6,.ptr (6,0) 1 0 0),(10,.ptr (10,0) 2 0 0),(14,.p (.int .i64 v)),(15,.p (.int .i64 ((s+n:Nat):Int))),(44,.p a44)],[((5,0),.box [.p (.int .i64 b)]),((6,0),.box [.ref (22,0) 1 0 t.length]),((10,0),.box [.p (.int .i64 s),.p (.int .i64 e)]),((22,0),.sl 3 1 ((setR M s (s+n) v).map intRow))]⟩) (fun _=>True) (fun n hn _=>?_) trivial (by simp [setR_self])
 obtain ⟨j,ej⟩:∃ j,s+n=j:=⟨_,rfl⟩
 have ej2:s+(n+1)=j+1:=by omega
 rw [ej,ej2]
 by_cases hj:j<e
 ·have hs:=setR_succ M (a:=s) (j:=j) v (by omega)
  have hml:=map_set_row (setR M s j v) j v
  rw [←hs] at hml
  have hl3:(setR M s j v).length=t.length:=by simp [hM]
  obtain ⟨L,eL⟩:∃ L,setR M s j v=L:=⟨_,rfl⟩
  rw [eL] at hml hl3 ⊢
  have hjM:j<L.length:=by omega
  have hjt:j<t.length:=by omega
  have wj:R ((j:Int)+1):=⟨by omega,by omega⟩
  have hn2:n<e - s:=by omega
  have htl:(intRow L[j]).tail=[]:=rfl
  simp -dsimp [hj,hjM,hjt,hl3,htl,hml,wr wj,hn2,-List.all_eq_true,-List.map_set]
 ·have hjb:j=e:=by omega
  subst hjb
  simp -dsimp [hK]
theorem x87b (t:List UInt8) (hl:t.length≤1000000) (K:List Int) (hK:K.length=t.length) (b:Int) (D:List Int) (hD:D.length=t.length) :
  awp Tryz.prog xc87b (retK [RO.tmp 4] (.own (fun s=>.ref s 1 0 t.length) (.sl 3 1 ((d3K t b (d2K b (pcs neuN K) D (pcs neuN K).length) t.length).map intRow)))) ⟨[(0,.p (.str (ba t))),(1,.p (.sl 1 (K.map intRow))),(5,.ptr (5,0) 1 0 0),(6,.ptr (6,0) 1 0 0)],[((5,0),.box [.p (.int .i64 b)]),((6,0),.box [.ref (22,0) 1 0 t.length]),((22,0),.sl 3 1 (D.map intRow))]⟩:=by
 have q126:=b126 K 127 []
 have hG:=g162 K 127 [] neuN (fun x _=>b127 x) (by omega)
 simp -dsimp [xc87b,↓ awpC_of xc87c]
 refine call_p q126 (by simp) (by simp) ?_
 simp -dsimp [↓ awpC_of xc87c]
 have hlen:=d2K_len b (pcs neuN K) D
 refine rfunL_rule rfl rfl hG (fun k F=>F=⟨[(0,.p (.str (ba t))),(5,.ptr (5,0) 1 0 0),(6,.ptr (6,0) 1 0 0),(44,.p (.clo (.func 162) [] [.ro [.sl 1 (K.map intRow)],.ro [.clo (.func 127) [] []]]))],[((5,0),.box [.p (.int .i64 b)]),((6,0),.box [.ref (22,0) 1 0 t.length]),((22,0),.sl 3 1 ((d2K b (pcs neuN K) D k).map intRow))]⟩) ?_ ?_ (by simp [d2K])
 ·rintro k z F hz rfl
  have hk:k<(pcs neuN K).length:=by have:=(List.getElem?_eq_some_iff.1 hz).1;simpa using this
  rw [List.getElem?_map,List.getElem?_eq_getElem hk] at hz
  obtain ⟨⟨s,e,key⟩,ep⟩:∃ x,(pcs neuN K)[k]=x:=⟨_,rfl⟩
  rw [ep] at hz
  simp at hz;subst hz
  obtain ⟨hse,hen⟩:=pcs_get (q:=neuN) (l:=K) (k:=k) (s:=s) (e:=e) (key:=key) (by rw [List.getElem?_eq_getElem hk,ep])
  have hst:d2K b (pcs neuN K) D (k+1)=d2S b (d2K b (pcs neuN K) D k) (s,e,key):=by
   rw [d2K];simp [hk,ep]
  have hMl:(d2K b (pcs neuN K) D k).length=t.length:=by rw [hlen,hD]
  rw [hst]
  obtain ⟨M,eM⟩:∃ M,d2K b (pcs neuN K) D k=M:=⟨_,rfl⟩
  rw [eM] at hMl ⊢
  refine ⟨rfl,?_⟩
  cases key with
  | false=>simp -dsimp [pcRow,d2S]
  | true=>
   have hv:d2S b M (s,e,true)=setR M s e (d2V b M s e):=rfl
   rw [hv]
   have hen':e≤t.length:=by omega
   obtain ⟨v,ev⟩:∃ v,d2V b M s e=v:=⟨_,rfl⟩
   rw [ev]
   unfold d2V at ev
   rw [hMl] at ev
   have ht4:List.take t.length (((setR M s e v).map intRow))=(setR M s e v).map intRow:=List.take_of_length_le (by simp [hMl])
   rcases Nat.eq_zero_or_pos s with h0 | h0
   ·have n0:¬0<s:=by omega
    have n1:¬0<(s:Int):=by omega
    rw [if_neg n0] at ev
    by_cases h1:e<t.length
    ·have h1':e<M.length:=by omega
     obtain ⟨w,ew⟩:∃ w,M[e]=w:=⟨_,rfl⟩
     have ewd:M.getD e 0=w:=by simp [h1',ew]
     rw [if_pos h1,ewd] at ev
     by_cases h2:b=w
     ·rw [if_pos h2] at ev
      subst h2
      subst ev
      simp -dsimp [pcRow,n0,n1,h1,h1',ew,intRow,↓ awpC_of xc87d]
      refine awpC_in (x87d t hl b _ M hMl _ e hse hen' _ _ ?_)
      simp -dsimp
     ·rw [if_neg h2] at ev
      subst ev
      simp -dsimp [pcRow,n0,n1,h1,h1',ew,intRow,h2,↓ awpC_of xc87d]
      refine awpC_in (x87d t hl b _ M hMl _ e hse hen' _ _ ?_)
      simp -dsimp
    ·rw [if_neg h1] at ev
     by_cases h2:b=b
     ·rw [if_pos h2] at ev
      subst ev
      simp -dsimp [pcRow,n0,n1,h1,intRow,h2,↓ awpC_of xc87d]
      refine awpC_in (x87d t hl b _ M hMl _ e hse hen' _ _ ?_)
      simp -dsimp
     ·rw [if_neg h2] at ev
      subst ev
      simp -dsimp [pcRow,n0,n1,h1,intRow,h2,↓ awpC_of xc87d]
      refine awpC_in (x87d t hl b _ M hMl _ e hse hen' _ _ ?_)
      simp -dsimp
   ·obtain ⟨p,rfl⟩:∃ p,s=p+1:=⟨s - 1,by omega⟩
    have hp:p<M.length:=by omega
    have hpt:p<t.length:=by omega
    obtain ⟨u,eu⟩:∃ u,M[p]=u:=⟨_,rfl⟩
    have eud:M.getD p 0=u:=by simp [hp,eu]
    have wp:R (p:Int):=⟨by omega,by omega⟩
    have p0:0<(p:Int)+1:=by omega
    rw [if_pos h0,Nat.add_sub_cancel,eud] at ev
    by_cases h1:e<t.length
    ·have h1':e<M.length:=by omega
     obtain ⟨w,ew⟩:∃ w,M[e]=w:=⟨_,rfl⟩
     have ewd:M.getD e 0=w:=by simp [h1',ew]
     rw [if_pos h1,ewd] at ev
     by_cases h2:u=w
     ·rw [if_pos h2] at ev
      subst h2
      subst ev
      simp -dsimp [pcRow,p0,hp,hpt,eu,wr wp,h1,h1',ew,intRow,↓ awpC_of xc87d]
      refine awpC_in (x87d t hl b _ M hMl _ e hse hen' _ _ ?_)
      simp -dsimp
     ·rw [if_neg h2] at ev
      subst ev
      simp -dsimp [pcRow,p0,hp,hpt,eu,wr wp,h1,h1',ew,intRow,h2,↓ awpC_of xc87d]
      refine awpC_in (x87d t hl b _ M hMl _ e hse hen' _ _ ?_)
      simp -dsimp
    ·rw [if_neg h1] at ev
     by_cases h2:u=b
     ·rw [if_pos h2] at ev
      have h2':=h2.symm
      subst h2'
      subst ev
      simp -dsimp [pcRow,p0,hp,hpt,eu,wr wp,h1,intRow,↓ awpC_of xc87d]
      refine awpC_in (x87d t hl b _ M hMl _ e hse hen' _ _ ?_)
      simp -dsimp
     ·rw [if_neg h2] at ev
      subst ev
      simp -dsimp [pcRow,p0,hp,hpt,eu,wr wp,h1,intRow,h2,↓ awpC_of xc87d]
      refine awpC_in (x87d t hl b _ M hMl _ e hse hen' _ _ ?_)
      simp -dsimp
 ·rintro F rfl
  simp -dsimp [↓ awpC_of xc87c]
  exact awpC_in (x87c t hl b _ (by rw [hlen,hD]))
def runK (K:List Int) (b:Int):Nat→Int
 | 0=>b
 | i+1=>if K.getD i 0=1∨K.getD i 0=2 then K.getD i 0 else runK K b i
def d1K (K:List Int) (b:Int) (k:Nat):List Int:=(List.range K.length).map fun i=>if i<k then runK K b (i+1) else 0
theorem d1K_len {K:List Int} {b:Int} {k:Nat}:(d1K K b k).length=K.length:=by simp [d1K]
theorem d1K_0 (K:List Int) (b:Int):d1K K b 0=zerosI K.length:=by
 apply List.ext_getElem (by simp [d1K,zerosI])
 intro i h1 h2
 simp [d1K,zerosI]
theorem d1K_succ (K:List Int) (b:Int) (k:Nat):d1K K b (k+1)=(d1K K b k).set k (runK K b (k+1)):=by
 apply List.ext_getElem (by simp [d1K])
 intro i h1 h2
 rw [List.getElem_set]
 simp only [d1K,List.getElem_map,List.getElem_range]
 by_cases e:k=i
 ·subst e
  rw [if_pos (by omega),if_pos rfl]
 ·rw [if_neg e]
  by_cases e2:i<k
  ·rw [if_pos (by omega),if_pos e2]
  ·rw [if_neg (by omega),if_neg e2]
def dirT (t:List UInt8) (K:List Int):List Int:=d3K t (baseN t) (d2K (baseN t) (pcs neuN K) (d1K K (baseN t) K.length) (pcs neuN K).length) t.length
theorem dirT_len (t:List UInt8) (K:List Int):(dirT t K).length=K.length:=by unfold dirT;rw [d3K_len,d2K_len,d1K_len]
theorem b87 (t:List UInt8) (hl:t.length≤1000000) (K:List Int) (hK:K.length=t.length):Best Tryz.prog 87 [.str (ba t),.sl 1 (K.map intRow)] (.own (fun s=>.ref s 1 0 t.length) (.sl 3 1 ((dirT t K).map intRow))):=by
 refine best mixed fn87 ok87 (by simp) ?_
 unfold dirT
 obtain ⟨b,eb⟩:∃ b,baseN t=b:=⟨_,rfl⟩
 have q86:=b86 t hl
 rw [eb] at q86 ⊢
 have m0:(t.length:Int)≤281474976710656:=by omega
 have e0:8*(t.length:Int)≤281474976710656:=by omega
 have f0:(t.length:Int)≤9223372036854775807:=by omega
 simp -dsimp [ac87,↓ awpC_of xc87b]
 refine call_p q86 (by simp) (by simp) ?_
 simp -dsimp [hK,m0,e0,f0,↓ awpC_of xc87b]
 have hz:=zerosI_rows t.length
 refine loopC t.length (fun k=>⟨[(0,.p (.str (ba t))),(1,.p (.sl 1 (K.map intRow))),(5,.ptr (5,0) 1 0 0),(6,.ptr (6,0) 1 0 0),(7,.p (.int .i64 (runK K b k))),(24,.p (.sl 1 (K.map intRow))),(25,.p (.int .i64 t.length)),(26,.p (.int .i64 k))],[((5,0),.box [.p (.int .i64 b)]),((6,0),.box [.ref (22,0) 1 0 t.length]),((22,0),.sl 3 1 ((d1K K b k).map intRow))]⟩) (fun _=>True) (fun k hk _=>?_) trivial (by simp [d1K_0,runK,hK,hz])
 by_cases h:k<t.length
 ·have hkK:k<K.length:=by omega
  obtain ⟨x,ex⟩:∃ x,K[k]=x:=⟨_,rfl⟩
  have exd:K.getD k 0=x:=by simp [hkK,ex]
  have wk:R ((k:Int)+1):=⟨by omega,by omega⟩
  have hs:=d1K_succ K b k
  have hMl:(d1K K b k).length=t.length:=by rw [d1K_len,hK]
  have hr:runK K b (k+1)=if x=1∨x=2 then x else runK K b k:=by rw [runK,exd]
  have hml:=map_set_row (d1K K b k) k (runK K b (k+1))
  rw [←hs] at hml
  obtain ⟨M,eM⟩:∃ M,d1K K b k=M:=⟨_,rfl⟩
  rw [eM] at hml hMl ⊢
  have hkM:k<M.length:=by omega
  have htl:(intRow M[k]).tail=[]:=rfl
  obtain ⟨r,er⟩:∃ r,runK K b k=r:=⟨_,rfl⟩
  obtain ⟨r',er'⟩:∃ r',runK K b (k+1)=r':=⟨_,rfl⟩
  rw [er,er'] at hr
  rw [er'] at hml
  rw [er,er',←hml]
  by_cases h1:x=1
  ·rw [if_pos (.inl h1)] at hr
   have:r'=1:=by rw [hr,h1]
   subst this
   simp -dsimp [h,hkK,ex,intRow,h1,hMl,hkM,htl,wr wk,-List.all_eq_true,-List.map_set,↓ awpC_of xc87b]
  ·by_cases h2:x=2
   ·rw [if_pos (.inr h2)] at hr
    have:r'=2:=by rw [hr,h2]
    subst this
    simp -dsimp [h,hkK,ex,intRow,h1,h2,hMl,hkM,htl,wr wk,-List.all_eq_true,-List.map_set,↓ awpC_of xc87b]
   ·rw [if_neg (fun q=>q.elim h1 h2)] at hr
    subst hr
    simp -dsimp [h,hkK,ex,intRow,h1,h2,hMl,hkM,htl,wr wk,-List.all_eq_true,-List.map_set,↓ awpC_of xc87b]
 ·have:k=t.length:=by omega
  subst this
  simp -dsimp [h,hK,↓ awpC_of xc87b]
  rw [hK]
  exact awpC_in (x87b t hl K hK b (d1K K b t.length) (by rw [d1K_len,hK]))
end
section
def ac44:AC:=by
 apply fun (y:AC) (_:@Eq AC (let e0:=[3,4,5,15,16,17];let e1:=[3,4,5,6,7,15,16,17,25];(qk [0] (qs (qr [(qp 2 (.mov (.c .nsl)))]) (qk [0] (qs (qr [(ym 8 0),(qi 9 (.call 85 [.v 8]) [0]),(ym 10 0),(qi 11 (.call 86 [.v 10]) [2,1]),(yn 3 9 [1,3,0,1]),(yn 4 11 [3,4,0,1,2,3,4])]) (qk [0,3,4] (qs (qr [(ym 12 0),(ym 13 3),(qi 14 (.call 87 [.v 12,.v 13]) [0,1]),(yn 5 14 [2,2,0,1,2])]) (qk [3,4,5] (qs (qs (qr [(ym 15 5),(yh 16 15 [0]),(qp 17 (.mov (qz 0)))]) (qk e0 (.block 0 (.loop (qk e0 (qs (qr [(qp 18 (qb .lss 17 16))]) (qk [3,4,5,15,16,17,18] (qs (qq (.v 18) .skip (.exit 0)) (qk e0 (qs (.block 1 (qs (qr [(ym 19 17),(qp 20 (qj 1 15 17)),(yk 21 20 [1]),(yn 6 19 [0,0,1,2]),(yn 7 21 [2,3,0,1,2,3])]) (qk [3,4,5,6,7,15,16,17] (.block 2 (qs (qs (qr [(ym 26 7),(yc 27 .eql 26 (qz 2) [0]),(yn 28 27 [1]),(qg 29 (qm 3) 28 true [2]),(qg 30 (qm 6) 28 true [2]),(qg 31 (qj 1 29 30) 28 true [3,4,2]),(qg 32 (ql 31) 28 true [5,2]),(qg 33 (qc .eql 32 (qz 3)) 28 true [6,2]),(qi 34 (.pick (.v 28) (.v 33) (.c (.bool false))) [2,7]),(yn 25 34 [8,2])]) (qk e1 (qq (.v 25) .skip (qr [(ym 35 7),(yc 36 .eql 35 (qz 1) [0]),(yn 37 36 [1]),(qg 38 (qm 4) 37 true [2]),(qg 39 (qc .eql 38 (qz 2)) 37 true [3,2]),(qi 40 (.pick (.v 37) (.v 39) (.c (.bool false))) [2,4]),(yn 25 40 [5,2])])))) (qk e1 (qq (.v 25) (qr [(ym 41 5),(ym 42 6),(yj 43 1 41 42 [0,1,0,1]),(qo (.store 1 (.v 43) (qz 2)) [2,0,1])]) (qs (qr [(ym 45 7),(yc 46 .eql 45 (qz 2) [0]),(yn 44 46 [1])]) (qk [3,4,5,6,15,16,17,44] (qq (.v 44) (qr [(ym 47 5),(ym 48 6),(yj 49 1 47 48 [0,1,0,1]),(qo (.store 1 (.v 49) (qz 1)) [2,0,1])]) (qr [(ym 22 5),(ym 23 6),(yj 24 1 22 23 [0,1,0,1]),(qo (.store 1 (.v 24) (qz 0)) [2,0,1])]))))))))))) (qk e0 (qr [(qp 50 (qc .add 17 (qz 1))),(yn 17 50 [0])])))))))))))) (qk [5] (qs (qr [(ym 51 5),(yn 2 51 [0,0])]) (qk [2] .ret)))))))))))) y)=>y
 dsimp
theorem fn44:factOf Tryz.prog 44=some (ac44.strip,[.tmp 2],52):=by kernel_rfl
theorem ok44:ac44.okAll=true:=by kernel_rfl
end
section
attribute [local simp] ba_size wb ba_at w1
set_option maxHeartbeats 400000
attribute [local simp] evC
attribute [local simp ↓] oneN oneI oneSp oneB
def levV (b k d:Int):Int:=if (d=2∧k=3)∨(d=1∧b=2) then 2 else if d=2 then 1 else 0
def levK (b:Int) (K D:List Int) (k:Nat):List Int:=(List.range D.length).map fun i=>if i<k then levV b (K.getD i 0) (D.getD i 0) else D.getD i 0
theorem levK_len {b:Int} {K D:List Int} {k:Nat}:(levK b K D k).length=D.length:=by simp [levK]
theorem levK_0 (b:Int) (K D:List Int):levK b K D 0=D:=by
 apply List.ext_getElem (by simp [levK])
 intro i h1 h2
 simp [levK,h2]
theorem levK_at (b:Int) (K D:List Int) {k:Nat} (h:k<D.length):(levK b K D k)[k]'(by rw [levK_len];exact h)=D.getD k 0:=by simp [levK]
theorem levK_succ (b:Int) (K D:List Int) (k:Nat):levK b K D (k+1)=(levK b K D k).set k (levV b (K.getD k 0) (D.getD k 0)):=by
 apply List.ext_getElem (by simp [levK])
 intro i h1 h2
 rw [List.getElem_set]
 simp only [levK,List.getElem_map,List.getElem_range]
 by_cases e:k=i
 ·subst e
  rw [if_pos (by omega),if_pos rfl]
 ·rw [if_neg e]
  by_cases e2:i<k
  ·rw [if_pos (by omega),if_pos e2]
  ·rw [if_neg (by omega),if_neg e2]
theorem kinT_len (t:List UInt8):(kinT t).length=t.length:=kinK_len t _
def levT (t:List UInt8):List Int:=levK (baseN t) (kinT t) (dirT t (kinT t)) t.length
theorem levT_len (t:List UInt8):(levT t).length=t.length:=by unfold levT;rw [levK_len,dirT_len,kinT_len]
theorem b44 (t:List UInt8) (hl:t.length≤1000000):Best Tryz.prog 44 [.str (ba t)] (.p (.sl 1 ((levT t).map intRow))):=by
 refine best mixed fn44 ok44 (by simp) ?_
 unfold levT
 have q85:=b85 t hl
 have q86:=b86 t hl
 have hK:=kinT_len t
 have q87:=b87 t hl (kinT t) hK
 have hD:=dirT_len t (kinT t)
 rw [hK] at hD
 obtain ⟨K,eK⟩:∃ K,kinT t=K:=⟨_,rfl⟩
 obtain ⟨D,eD⟩:∃ D,dirT t (kinT t)=D:=⟨_,rfl⟩
 obtain ⟨b,eb⟩:∃ b,baseN t=b:=⟨_,rfl⟩
 rw [eD] at q87 hD ⊢
 rw [eK] at q85 q87 hK ⊢
 rw [eb] at q86 ⊢
 simp -dsimp [ac44]
 refine call_p q85 (by simp) (by simp) ?_
 simp -dsimp
 refine call_p q86 (by simp) (by simp) ?_
 simp -dsimp
 refine call_o q87 (by simp) (by simp) ?_
 simp -dsimp
 refine loopC t.length (fun k=>⟨[(3,.p (.sl 1 (K.map intRow))),(4,.p (.int .i64 b)),(5,.ref (14,0) 1 0 t.length),(15,.ref (14,0) 1 0 t.length),(16,.p (.int .i64 t.length)),(17,.p (.int .i64 k))],[((14,0),.sl 3 1 ((levK b K D k).map intRow))]⟩) (fun _=>True) (fun k hk _=>?_) trivial (by simp [levK_0])
 have hMl:(levK b K D k).length=t.length:=by rw [levK_len,hD]
 by_cases h:k<t.length
 ·have hkK:k<K.length:=by omega
  obtain ⟨x,ex⟩:∃ x,K[k]=x:=⟨_,rfl⟩
  have exd:K.getD k 0=x:=by simp [hkK,ex]
  obtain ⟨d,ed⟩:∃ d,D.getD k 0=d:=⟨_,rfl⟩
  have wk:R ((k:Int)+1):=⟨by omega,by omega⟩
  have hs:=levK_succ b K D k
  have hat:=levK_at b K D (k:=k) (by omega)
  rw [exd,ed] at hs
  rw [ed] at hat
  have hml:=map_set_row (levK b K D k) k (levV b x d)
  rw [←hs] at hml
  obtain ⟨M,eM⟩:∃ M,levK b K D k=M:=⟨_,rfl⟩
  simp only [eM] at hat
  rw [eM] at hml hMl ⊢
  have hkM:k<M.length:=by omega
  have htl:(intRow M[k]).tail=[]:=rfl
  rw [←hml]
  have hrow:intRow M[k]=[.int .i64 d]:=by rw [hat];rfl
  unfold levV
  by_cases h1:d=2
  ·by_cases h2:x=3
   ·rw [if_pos (.inl ⟨h1,h2⟩)]
    simp -dsimp [h,hkK,hkM,hMl,hat,ex,intRow,h1,h2,wr wk,-List.all_eq_true,-List.map_set]
   ·rw [if_neg (fun q=>q.elim (fun q=>h2 q.2) (fun q=>by omega)),if_pos h1]
    simp -dsimp [h,hkK,hkM,hMl,hat,ex,intRow,h1,h2,wr wk,-List.all_eq_true,-List.map_set]
  ·by_cases h3:d=1
   ·by_cases h4:b=2
    ·rw [if_pos (.inr ⟨h3,h4⟩)]
     simp -dsimp [h,hkK,hkM,hMl,hat,ex,intRow,h3,h4,wr wk,-List.all_eq_true,-List.map_set]
    ·rw [if_neg (fun q=>q.elim (fun q=>h1 q.1) (fun q=>h4 q.2)),if_neg h1]
     simp -dsimp [h,hkK,hkM,hMl,hat,ex,intRow,h3,h4,wr wk,-List.all_eq_true,-List.map_set]
   ·rw [if_neg (fun q=>q.elim (fun q=>h1 q.1) (fun q=>h3 q.1)),if_neg h1]
    simp -dsimp [h,hkK,hkM,hMl,hat,ex,intRow,h1,h3,wr wk,-List.all_eq_true,-List.map_set]
 ·have:k=t.length:=by omega
  subst this
  have ht:List.take t.length ((levK b K D t.length).map intRow)=(levK b K D t.length).map intRow:=List.take_of_length_le (by simp [hMl])
  simp -dsimp [h,resOf,ht,hMl]
end
section
def ac131:AC:=by
 apply fun (y:AC) (_:@Eq AC (let e0:=[1000000,1000001,1000002,1000003,1000004,1000005];let e1:=[0,1,2,3,4,5,6,7];let e2:=[14,15,16,17,22,23,24,25];let e3:=[14,15,16,17,18,19,20,21];(qk [0] (qs (qr [(ym 4 0),(yh 5 4 [0]),(yc 6 .sub 5 (qz 1) [1]),(qp 2 (.mov (qz 0))),(yn 3 6 [2,3,0,1,2,3])]) (qk [0,2,3] (.block 0 (.loop (qk [0,2,3] (qs (qs (qr [(ym 7 2),(ym 8 3),(yb 9 .lss 7 8 [0,1])]) (qk [0,2,3,9] (qq (.v 9) .skip (.exit 0)))) (qk [0,2,3] (qs (.block 1 (qd [(qe (ym 14 0) [15,16,17,18,19,20,21,22,23,24,25] [] 2),(qe (ym 15 2) [14,16,17,18,19,20,21,22,23,24,25] [0] 2),(qa (ym 16 0) [14,15,17,18,19,20,21,22,23,24,25,26] e0 [] [0,1] 2),(qa (ym 17 3) [14,15,16,18,19,20,21,22,23,24,25,26] e0 [] [0,1,2] 2),(qe (ym 18 0) [14,15,16,17,19,22,23,24,25] [0,1,2,3] 2),(qe (ym 19 3) [14,15,16,17,18,22,23,24,25] [0,1,2,3,4] 2),(qe (yj 20 1 18 19 [4,5]) e2 [0,1,2,3] 2),(qe (yk 21 20 [6]) e2 [0,1,2,3] 2),(qe (ym 22 0) [14,15,16,17,18,19,20,21,23] e1 2),(qe (ym 23 2) [14,15,16,17,18,19,20,21,22] [0,1,2,3,4,5,6,7,8] 2),(qe (yj 24 1 22 23 [8,9]) e3 e1 2),(qe (yk 25 24 [10]) e3 e1 2),(qe (yj 26 1 14 15 [0,1,0,1,4,5,6,7,11]) [16,17] [2,3] 2),(qa (qo (.store 1 (.v 26) (.v 21)) [12,7,0,1,4,5,6,7,11]) [16,17] [] e0 [2,3] 1),(qe (yj 27 1 16 17 [2,3,0,1,2,3,4,5,6,7,8,9,10,11,12,13]) [] [] 2),(qa (qo (.store 1 (.v 27) (.v 25)) [14,11,13,0,1,2,3,4,5,6,7,8,9,10,11,12,13]) [] [] e0 [] 1)])) (qk [0,2,3] (qr [(ym 10 2),(yc 11 .add 10 (qz 1) [0]),(ym 12 3),(yc 13 .sub 12 (qz 1) [2]),(yn 2 11 [1,0,1]),(yn 3 13 [3,4,0,1,2,3,4])])))))))))))) y)=>y
 dsimp
theorem fn131:factOf Tryz.prog 131=some (ac131.strip,[],28):=by kernel_rfl
theorem ok131:ac131.okAll=true:=by kernel_rfl
def ac94:AC:=by
 apply fun (y:AC) (_:@Eq AC (let e0:=[1,3,12,13];let e1:=[1,3,5];(qk [0] (qs (qr [(qp 1 (.box (.v 0))),(qp 2 (.mov (.c .nsl)))]) (.ghost (.freeze (1,0)) (qk [1] (qs (qr [(yl 8 1),(yh 9 8 [0]),(qi 10 (.mksl 3 1 8 [.int .i64 0] (.v 9) (.v 9)) [1,1]),(qp 3 (.alloc [.nsl])),(qo (.store 1 (.v 3) (.v 10)) [3,2,0,1,2,3])]) (qk [1,3] (qs (qs (qr [(yl 11 3),(yh 12 11 [0]),(qp 13 (.mov (qz 0)))]) (qk e0 (.block 0 (.loop (qk e0 (qs (qr [(qp 14 (qb .lss 13 12))]) (qk [1,3,12,13,14] (qs (qq (.v 14) .skip (.exit 0)) (qk e0 (qs (.block 1 (qs (qr [(ym 15 13),(yn 4 15 [0,0])]) (qk [1,3,4,12,13] (qr [(yl 16 3),(ym 17 4),(ym 18 4),(yj 19 1 16 17 [0,1,0,1,2]),(qo (.store 1 (.v 19) (.v 18)) [3,2,0,1,2])])))) (qk e0 (qr [(qp 20 (qc .add 13 (qz 1))),(yn 13 20 [0])])))))))))))) (qk [1,3] (qs (qs (qr [(qp 5 (.alloc [.int .i64 0])),(qo (.store 1 (.v 5) (qz 9)) [0,0])]) (qk e1 (.block 2 (.loop (qk e1 (qs (qs (qr [(yl 21 5),(yc 22 .gtr 21 (qz 0) [0])]) (qk [1,3,5,22] (qq (.v 22) .skip (.exit 2)))) (.ghost (.freeze (5,0)) (qk e1 (qs (.block 3 (qs (qr [(yl 25 3),(qi 26 (.call 129 [.v 25]) [0]),(qp 27 (.mkfn (.func 130) [] [.v 1,.v 5])),(qi 28 (.call 126 [.v 26,.v 27]) [1,2,1])]) (qk [1,3,5,28] (.block 4 (.rfun (.v 28) [29,30] [6,7,29,30,31,32,33,34,35,36,37,38] (qs (qr [(qp 6 (.alloc [.int .i64 0,.int .i64 0])),(qo (.store 2 (.v 6) (.v 29)) [0,0])]) (qk [1,3,5,6,28,30] (qr [(ym 7 30)]))) (qk [1,3,5,6,7,28] (.block 5 (qs (qr [(ym 31 7)]) (qk [1,3,5,6,28,31] (qq (.v 31) (qr [(yl 32 3),(qp 33 (qf 0 6)),(yk 34 33 [1]),(qp 35 (qf 1 6)),(yk 36 35 [3]),(qi 37 (.slcV 1 (.v 32) (some (.v 34)) (some (.v 36))) [0,2,4]),(qi 38 (.call 131 [.v 37]) [5])]) .skip)))))))))) (qk e1 (qs (qs (qr [(yl 39 5)]) (qk [1,3,39] (qr [(qp 5 (.alloc [.int .i64 0])),(qo (.store 1 (.v 5) (.v 39)) [0,0])]))) (qk e1 (qr [(yl 23 5),(yc 24 .sub 23 (qz 1) [0]),(qo (.store 1 (.v 5) (.v 24)) [1,0,1])]))))))))))))) (qk [3] (qs (qr [(yl 40 3),(yn 2 40 [0,0])]) (qk [2] .ret))))))))))))) y)=>y
 dsimp
theorem fn94:factOf Tryz.prog 94=some (ac94.strip,[.tmp 2],41):=by kernel_rfl
theorem ok94:ac94.okAll=true:=by kernel_rfl
end
section
set_option maxHeartbeats 400000
attribute [local simp] evC w1
attribute [local simp ↓] oneN oneI oneSp oneB
def rv (L:List Int) (s n:Nat):Nat→List Int
 | 0=>L
 | k+1=>((rv L s n k).set (s+k) ((rv L s n k).getD (s+(n - 1 - k)) 0)).set (s+(n - 1 - k)) ((rv L s n k).getD (s+k) 0)
theorem rv_len (L:List Int) (s n:Nat):∀ k,(rv L s n k).length=L.length
 | 0=>rfl
 | k+1=>by rw [rv,List.length_set,List.length_set,rv_len L s n k]
theorem rv_perm (L:List Int) {s n:Nat} (h:s+n≤L.length):∀ k,2*k≤n→(rv L s n k).Perm L
 | 0,_=>List.Perm.refl _
 | k+1,hk=>by
  have ih:=rv_perm L h k (by omega)
  have hl:=rv_len L s n k
  rw [rv]
  have h1:s+k<(rv L s n k).length:=by omega
  have h2:s+(n - 1 - k)<(rv L s n k).length:=by omega
  have e1:(rv L s n k).getD (s+(n - 1 - k)) 0=(rv L s n k)[s+(n - 1 - k)]:=by simp [h2]
  have e2:(rv L s n k).getD (s+k) 0=(rv L s n k)[s+k]:=by simp [h1]
  rw [e1,e2]
  exact (List.set_set_perm h1 h2).trans ih
def revT (L:List Int) (s n:Nat):List Int:=rv L s n (n / 2)
theorem revT_perm (L:List Int) {s n:Nat} (h:s+n≤L.length):(revT L s n).Perm L:=rv_perm L h _ (by omega)
theorem b131 (L:List Int) (s n:Nat) (h:s+n≤L.length) (hl:L.length≤1000000):BestF Tryz.prog 131 [((BIG,0),.sl 3 1 (L.map intRow))] [.ref (BIG,0) 1 s n] [(BIG,0)] (.p (.tup [])) [((BIG,0),.sl 3 1 ((revT L s n).map intRow))]:=by
 refine bestF mixed fn131 ok131 (by simp) (by simp) ?_
 have w0:R ((n:Int) - 1):=⟨by omega,by omega⟩
 simp -dsimp [ac131,wr w0]
 refine loopC (n / 2) (fun k=>⟨[(0,.ref (1000000,0) 1 s n),(2,.p (.int .i64 k)),(3,.p (.int .i64 ((n:Int) - 1 - k)))],[((1000000,0),.sl 3 1 ((rv L s n k).map intRow))]⟩) (fun _=>True) (fun k hk _=>?_) trivial (by simp [rv])
 obtain ⟨m,em⟩:∃ m:Int,(n:Int) - 1 - k=m:=⟨_,rfl⟩
 have hMl:=rv_len L s n k
 by_cases hc:(k:Int)<m
 ·have hk2:k<n / 2:=by omega
  obtain ⟨j,ej⟩:∃ j:Nat,m=j:=⟨m.toNat,by omega⟩
  subst ej
  have hkj:k<j:=by omega
  have ejn:n - 1 - k=j:=by omega
  have wk:R ((k:Int)+1):=⟨by omega,by omega⟩
  have wj:R ((j:Int) - 1):=⟨by omega,by omega⟩
  have e2:(n:Int) - 1 - (k+1:Nat)=(j:Int) - 1:=by omega
  have hkn:k<n:=by omega
  have hjn:j<n:=by omega
  have hs:rv L s n (k+1)=((rv L s n k).set (s+k) ((rv L s n k).getD (s+j) 0)).set (s+j) ((rv L s n k).getD (s+k) 0):=by rw [rv,ejn]
  obtain ⟨M,eM⟩:∃ M,rv L s n k=M:=⟨_,rfl⟩
  rw [eM] at hs hMl
  rw [em,e2,eM]
  have h1:s+k<M.length:=by omega
  have h2:s+j<M.length:=by omega
  obtain ⟨x,ex⟩:∃ x,M[s+k]=x:=⟨_,rfl⟩
  obtain ⟨y,ey⟩:∃ y,M[s+j]=y:=⟨_,rfl⟩
  have exd:M.getD (s+k) 0=x:=by simp [h1,ex]
  have eyd:M.getD (s+j) 0=y:=by simp [h2,ey]
  rw [exd,eyd] at hs
  have hml:=map_set_row M (s+k) y
  have hml2:=map_set_row (M.set (s+k) y) (s+j) x
  rw [←hs] at hml2
  rw [←hml2,←hml]
  have htl:∀ z:Int,(intRow z).tail=[]:=fun _=>rfl
  have htl2:∀ (hh:s+j<((M.map intRow).set (s+k) [PV.int .i64 y]).length),(((M.map intRow).set (s+k) [PV.int .i64 y])[s+j]'hh).tail=[]:=fun hh=>by
   rw [List.getElem_set]
   split
   ·rfl
   ·rw [List.getElem_map];rfl
  simp -dsimp [htl2,hkj,h1,h2,ex,ey,hkn,hjn,htl,intRow,wr wk,wr wj,hk2,-List.all_eq_true,-List.map_set]
 ·have hk3:k=n / 2:=by omega
  have hr:revT L s n=rv L s n k:=by rw [hk3];rfl
  rw [em,hr]
  simp -dsimp [hc,retF]
end
section
set_option maxHeartbeats 400000
attribute [local simp] evC w1
attribute [local simp ↓] oneN oneI oneSp oneB
theorem b131s (z:Slot) (L:List Int) (s n:Nat) (h:s+n≤L.length) (hl:L.length≤1000000):BestF Tryz.prog 131 [(z,.sl 3 1 (L.map intRow))] [.ref z 1 s n] [z] (.p (.tup [])) [(z,.sl 3 1 ((revT L s n).map intRow))]:=
 BestF.one (b131 L s n h hl) z rfl rfl
def ordI (n:Nat):List Int:=(List.range n).map fun (i:Nat)=>(i:Int)
def ioK (n k:Nat):List Int:=(List.range n).map fun i=>if i<k then (i:Int) else 0
theorem ioK_len {n k:Nat}:(ioK n k).length=n:=by simp [ioK]
theorem ioK_0 (n:Nat):ioK n 0=zerosI n:=by
 apply List.ext_getElem (by simp [ioK,zerosI])
 intro i h1 h2
 simp [ioK,zerosI]
theorem ioK_end (n:Nat):ioK n n=ordI n:=by
 unfold ioK ordI
 apply List.map_congr_left
 intro i hi
 rw [if_pos (by simpa using hi)]
theorem ioK_succ (n k:Nat):ioK n (k+1)=(ioK n k).set k (k:Int):=by
 apply List.ext_getElem (by simp [ioK])
 intro i h1 h2
 rw [List.getElem_set]
 simp only [ioK,List.getElem_map,List.getElem_range]
 by_cases e:k=i
 ·subst e
  rw [if_pos (by omega),if_pos rfl]
 ·rw [if_neg e]
  by_cases e2:i<k
  ·rw [if_pos (by omega),if_pos e2]
  ·rw [if_neg (by omega),if_neg e2]
def vsP (P:List (Nat×Nat×Bool)) (O:List Int):Nat→List Int
 | 0=>O
 | k+1=>if (P.getD k (0,0,false)).2.2=true then revT (vsP P O k) (P.getD k (0,0,false)).1 ((P.getD k (0,0,false)).2.1 - (P.getD k (0,0,false)).1) else vsP P O k
def vsQ (lv:List Int) (v:Int) (x:Int):Bool:=decide (v≤lv.getD x.toNat 0)
def vsL (lv:List Int):Nat→List Int
 | 0=>ordI lv.length
 | j+1=>vsP (pcs (vsQ lv (9 - j)) (vsL lv j)) (vsL lv j) (pcs (vsQ lv (9 - j)) (vsL lv j)).length
theorem vsP_perm {q:Int→Bool} {O:List Int}:∀ k,k≤(pcs q O).length→(vsP (pcs q O) O k).Perm O
 | 0,_=>List.Perm.refl _
 | k+1,hk=>by
  have ih:=vsP_perm (q:=q) (O:=O) k (by omega)
  rw [vsP]
  split
  ·obtain ⟨⟨s,e,key⟩,ep⟩:∃ x,(pcs q O)[k]=x:=⟨_,rfl⟩
   have hg:=pcs_get (q:=q) (l:=O) (k:=k) (s:=s) (e:=e) (key:=key) (by rw [List.getElem?_eq_getElem (by omega),ep])
   have exd:(pcs q O).getD k (0,0,false)=(s,e,key):=by rw [List.getD_eq_getElem?_getD,List.getElem?_eq_getElem (by omega),ep];rfl
   rw [exd]
   have hl:=ih.length_eq
   exact (revT_perm _ (by dsimp only;omega)).trans ih
  ·exact ih
theorem vsL_perm (lv:List Int):∀ j,(vsL lv j).Perm (ordI lv.length)
 | 0=>List.Perm.refl _
 | j+1=>(vsP_perm _ (Nat.le_refl _)).trans (vsL_perm lv j)
theorem vsL_len (lv:List Int) (j:Nat):(vsL lv j).length=lv.length:=by rw [(vsL_perm lv j).length_eq];simp [ordI]
theorem vsL_mem {lv:List Int} {j:Nat} {x:Int} (h:x∈vsL lv j):∃ i:Nat,x=i∧i<lv.length:=by
 have:=(vsL_perm lv j).mem_iff.1 h
 obtain ⟨i,hi,rfl⟩:=List.mem_map.1 this
 exact ⟨i,rfl,by simpa using hi⟩
def vsN (lv:List Int):List Int:=vsL lv 9
theorem b129o (l:List Int) (h0:0<l.length) (hl:l.length≤1000000):Best Tryz.prog 129 [.sl 1 (l.map intRow)] (.own (fun s=>.ref s 1 0 l.length) (.sl 3 1 (l.map intRow))):=by
 refine best mixed fn129 ok129 (by simp) ?_
 have m1:l.length≤maxLen:=by unfold maxLen;omega
 have e1:l.length*8≤140737488355328:=by omega
 simp -dsimp [ac129,h0,m1,e1,resOf,-List.all_eq_true]
 exact okV_ref 1 0 _
theorem flatI (l:List Int):((l.map intRow).all fun r=>r.all PV.flat)=true:=by
 rw [List.all_eq_true];intro r hr;obtain ⟨x,_,rfl⟩:=List.mem_map.1 hr;rfl
theorem b94 (lv:List Int) (h0:0<lv.length) (hl:lv.length≤1000000):Best Tryz.prog 94 [.sl 1 (lv.map intRow)] (.p (.sl 1 ((vsN lv).map intRow))):=by
 refine best mixed fn94 ok94 (by simp) ?_
 obtain ⟨n,en⟩:∃ n,lv.length=n:=⟨_,rfl⟩
 have m0:(n:Int)≤281474976710656:=by omega
 have e0:8*(n:Int)≤281474976710656:=by omega
 have f0:(n:Int)≤9223372036854775807:=by omega
 have hz:=zerosI_rows n
 simp -dsimp [ac94,en,m0,e0,f0]
 refine loopC n (fun k=>⟨[(1,.p (.ro [.sl 1 (lv.map intRow)])),(3,.ptr (3,0) 1 0 0),(12,.p (.int .i64 n)),(13,.p (.int .i64 k))],[((3,0),.box [.ref (10,0) 1 0 n]),((10,0),.sl 3 1 ((ioK n k).map intRow))]⟩) (fun _=>True) (fun k hk _=>?_) trivial (by simp [ioK_0,hz])
 have hMl:(ioK n k).length=n:=ioK_len
 by_cases h:k<n
 ·have wk:R ((k:Int)+1):=⟨by omega,by omega⟩
  have hs:=ioK_succ n k
  have hml:=map_set_row (ioK n k) k (k:Int)
  rw [←hs] at hml
  obtain ⟨M,eM⟩:∃ M,ioK n k=M:=⟨_,rfl⟩
  rw [eM] at hml hMl ⊢
  have hkM:k<M.length:=by omega
  have htl:(intRow M[k]).tail=[]:=rfl
  rw [←hml]
  simp -dsimp [h,hkM,hMl,htl,wr wk,-List.all_eq_true,-List.map_set]
 ·have:k=n:=by omega
  subst this
  rw [ioK_end]
  simp -dsimp [h]
  clear hMl
  refine loopC 9 (fun j=>⟨[(1,.p (.ro [.sl 1 (lv.map intRow)])),(3,.ptr (3,0) 1 0 0),(5,.ptr (5,0) 1 0 0)],[((3,0),.box [.ref (10,0) 1 0 k]),((5,0),.box [.p (.int .i64 (9 - j))]),((10,0),.sl 3 1 ((vsL lv j).map intRow))]⟩) (fun _=>True) (fun j hj _=>?_) trivial (by simp [vsL,en])
  have hVl:=vsL_len lv j
  rw [en] at hVl
  by_cases h9:j<9
  ·have hc:(0:Int)<9 - j:=by omega
   have wj:R ((9:Int) - j - 1):=⟨by omega,by omega⟩
   have ej:(9:Int) - (j+1:Nat)=9 - j - 1:=by omega
   have hvs:vsL lv (j+1)=vsP (pcs (vsQ lv (9 - j)) (vsL lv j)) (vsL lv j) (pcs (vsQ lv (9 - j)) (vsL lv j)).length:=rfl
   have q129:Best Tryz.prog 129 [.sl 1 ((vsL lv j).map intRow)] (.own (fun s=>.ref s 1 0 ((vsL lv j).map intRow).length) (.sl 3 1 ((vsL lv j).map intRow))):=by
    rw [List.length_map];exact b129o (vsL lv j) (by omega) (by omega)
   obtain ⟨v,ev⟩:∃ v:Int,9 - (j:Int)=v:=⟨_,rfl⟩
   rw [ev] at hc wj ej hvs
   have q126:=b126 (vsL lv j) 130 [.ro [.sl 1 (lv.map intRow)],.ro [.int .i64 v]]
   have hG:=g162 (vsL lv j) 130 [.ro [.sl 1 (lv.map intRow)],.ro [.int .i64 v]] (vsQ lv v) (fun x hx=>by
    obtain ⟨i,rfl,hi⟩:=vsL_mem hx
    exact b130 lv v i hi) (by omega)
   have hpl:=fun k hk=>(vsP_perm (q:=vsQ lv v) (O:=vsL lv j) k hk).length_eq
   obtain ⟨O,eO⟩:∃ O,vsL lv j=O:=⟨_,rfl⟩
   rw [eO] at hVl q129 q126 hG hvs hpl ⊢
   rw [ev,hvs,ej]
   have ht0:List.take k (O.map intRow)=O.map intRow:=List.take_of_length_le (by simp [hVl])
   simp -dsimp [hc]
   refine call_c q129 (by simp [ht0,hVl]) (flatI O) (by simp) ?_
   simp -dsimp
   refine call_p q126 (by simp) (by simp) ?_
   simp -dsimp
   refine rfunL_rule rfl rfl hG (fun r F=>F=⟨[(1,.p (.ro [.sl 1 (lv.map intRow)])),(3,.ptr (3,0) 1 0 0),(5,.p (.ro [.int .i64 v])),(28,.p (.clo (.func 162) [] [.ro [.sl 1 (O.map intRow)],.ro [.clo (.func 130) [] [.ro [.sl 1 (lv.map intRow)],.ro [.int .i64 v]]]]))],
    [((3,0),.box [.ref (10,0) 1 0 k]),((10,0),.sl 3 1 ((vsP (pcs (vsQ lv v) O) O r).map intRow))]⟩) ?_ ?_ (by simp [vsP])
   ·rintro r z F hz rfl
    have hr:r<(pcs (vsQ lv v) O).length:=by have:=(List.getElem?_eq_some_iff.1 hz).1;simpa using this
    rw [List.getElem?_map,List.getElem?_eq_getElem hr] at hz
    obtain ⟨⟨s,e,key⟩,ep⟩:∃ x,(pcs (vsQ lv v) O)[r]=x:=⟨_,rfl⟩
    rw [ep] at hz
    simp at hz;subst hz
    obtain ⟨hse,hen⟩:=pcs_get (q:=vsQ lv v) (l:=O) (k:=r) (s:=s) (e:=e) (key:=key) (by rw [List.getElem?_eq_getElem hr,ep])
    have epd:(pcs (vsQ lv v) O).getD r (0,0,false)=(s,e,key):=by rw [List.getD_eq_getElem?_getD,List.getElem?_eq_getElem hr,ep];rfl
    have hst:vsP (pcs (vsQ lv v) O) O (r+1)=if key=true then revT (vsP (pcs (vsQ lv v) O) O r) s (e - s) else vsP (pcs (vsQ lv v) O) O r:=by rw [vsP,epd]
    have hMl:=hpl r (by omega)
    rw [hst]
    obtain ⟨M,eM⟩:∃ M,vsP (pcs (vsQ lv v) O) O r=M:=⟨_,rfl⟩
    rw [eM] at hMl ⊢
    refine ⟨rfl,?_⟩
    have hek:e≤k:=by omega
    have hse':s≤e:=by omega
    cases key with
    | false=>simp -dsimp [pcRow]
    | true=>
     have q131:=b131s (10,0) M s (e - s) (by omega) (by omega)
     have hse2:(s:Int)≤e:=by omega
     have hek2:(e:Int)≤k:=by omega
     simp -dsimp [pcRow,hek,hse',hse2,hek2]
     refine call_m q131 (by simp) (by simp) (by simp) ?_
     simp -dsimp
   ·rintro F rfl
    simp -dsimp [wr wj,h9]
  ·have:j=9:=by omega
   subst this
   have ht:List.take k ((vsL lv 9).map intRow)=(vsL lv 9).map intRow:=List.take_of_length_le (by simp [hVl])
   simp -dsimp [resOf,ht,vsN,hVl]
theorem b48 (lv:List Int) (h0:0<lv.length) (hl:lv.length≤1000000):Best Tryz.prog 48 [.sl 1 (lv.map intRow)] (.p (.clo (.func 128) [] [.ro [.sl 1 ((vsN lv).map intRow)]])):=by
 refine best mixed fn48 ok48 (by simp) ?_
 simp -dsimp [ac48]
 refine call_p (b94 lv h0 hl) (by simp) (by simp) ?_
 simp -dsimp
 refine call_p (b93 (vsN lv)) (by simp) (by simp) ?_
 simp -dsimp
end
end Go.Abs.A29
