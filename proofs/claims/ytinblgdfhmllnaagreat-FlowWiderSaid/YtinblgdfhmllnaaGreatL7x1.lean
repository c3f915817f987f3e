/- Proved: the law FlowWider returns true for every input, and its arguments read behind the call as they did; no condition beyond the given row. -/
import Derived.Test.YtinblgdfhmllnaaGreatC27
import Derived.Test.YtinblgdfhmllnaaGreatProg
set_option linter.unusedVariables false
set_option linter.unusedSimpArgs false
namespace Go.Abs.A29
open Go Go.Abs Go.Proofs
set_option maxRecDepth 100000
set_option linter.unusedVariables false
set_option linter.unusedSimpArgs false
attribute [local simp ↓] awp_skip awp_seq awp_cond awp_block awp_exit awp_ret awp_reg awp_draw awp_ghost awp_loop awp_rfun awpR_nil awpR_cons awpX_nil awpX_0 awpX_1 awpX_2 awpI_eq awpI_t awpI_f awpStep_eq
attribute [local simp] condL_true condL_false condL_dec evDel evV evN evS evA initFr Ghost.app Fr.var Fr.blk Fr.ff FF.val Abs.look Fr.app Fr.erase Fr.noSlot AV.noSlot AV.noSlotL Blk.noSlot Fr.spoken AV.fz AV.fzL Blk.fz binV binI shI binS unV fillA FF.parts FF.vals headO intO boundO lenV scalarEq leavesEq AV.aggc AV.cells FF.read FF.rows AV.one PV.one chunk freshB newS pickV retK evRs evRl evR resOf mkTup mkAgg allP cloOf okP_nil okX_p okX okP addN Del.noSlot Del.owners Rnd reify_p normM insM Fr.back Fr.backV Fr.setPs normV insV
attribute [local simp] renF Fr.trim Blk.trim AV.rn AV.rnL Blk.rn AV.among AV.amongL Blk.among okF retM fixS BIG initFF
attribute [local simp] FF.reify FF.reifyL PV.flat
attribute [local simp] ym yn yl yk yb yc yf yj yh qp qe qi qo qg qa qk qz qm ql qt qf qj qn qb qc qs qr qq qd
section
theorem capN_mono {a b:Int} (h:a≤b):capN a≤capN b:=by unfold capN;omega
theorem fgo_low {ws:List Int} {sp:List Bool} {ms:List Int} {W:Int} {s n:Nat} {L:Int}:∀ (m i fit:Nat) (opp tot run:Int),(0≤opp→L≤opp)→L≤fit→L≤i→L≤fgo ws sp ms W s n m i fit opp tot run
 | 0,i,fit,opp,tot,run,h1,h2,h3=>by
  rw [fgo];unfold finN;split
  ·rename_i h;exact h1 h.2
  ·exact h2
 | m+1,i,fit,opp,tot,run,h1,h2,h3=>by
  rw [fgo]
  split
  ·unfold finN;split
   ·rename_i h;exact h1 h.2
   ·exact h2
  ·split
   ·unfold finN;split
    ·rename_i h;exact h1 h.2
    ·exact h3
   ·split
    ·exact h3
    ·refine fgo_low m _ _ _ _ _ (fun h=>?_) h3 (by omega)
     split
     ·exact h3
     ·rename_i h5;rw [if_neg h5] at h;exact h1 h
theorem fgo_mono {ws:List Int} {sp:List Bool} {ms:List Int} {W W':Int} {s s' n:Nat} (hW:W≤W') (hs:s≤s') (hn:s'<n) :
  ∀ (m i fit fit':Nat) (opp opp' tot tot' run run':Int),i+m=n→s'≤i→(s'<i→fit=i - 1∧fit'=i - 1)→(i=s'→fit≤s'∧fit'=s') →
   -1≤opp→opp<i→(0≤opp→(s:Int)≤opp)→(0≤opp'→(s':Int)≤opp')→(opp'=opp∨(opp<s'∧opp'=-1))→tot'≤tot→tot'+run'≤tot+run →
   fgo ws sp ms W s n m i fit opp tot run≤fgo ws sp ms W' s' n m i fit' opp' tot' run'
 | 0,i,fit,fit',opp,opp',tot,tot',run,run',h1,h2,h3,h4,h5,h6,h7,h8,h9,h10,h11=>by
  have:=h3 (by omega)
  rw [fgo,fgo]
  unfold finN
  rw [if_neg (by omega),if_neg (by omega)]
  omega
 | m+1,i,fit,fit',opp,opp',tot,tot',run,run',h1,h2,h3,h4,h5,h6,h7,h8,h9,h10,h11=>by
  have hc:=capN_mono hW
  have hT:totN (sp.getD i false) tot' run' (capN (ws.getD i 0))≤totN (sp.getD i false) tot run (capN (ws.getD i 0)):=by
   unfold totN;split<;>omega
  have hU:totN (sp.getD i false) tot' run' (capN (ws.getD i 0))+rnN (sp.getD i false) run' (capN (ws.getD i 0))≤totN (sp.getD i false) tot run (capN (ws.getD i 0))+rnN (sp.getD i false) run (capN (ws.getD i 0)):=by
   unfold totN rnN;split<;>omega
  have hf:(fit:Int)≤fit'∧(fit':Int)≤i∧(i:Int) - 1≤fit'∧(s':Int)≤fit':=by
   rcases Nat.lt_or_ge s' i with h | h
   ·have:=h3 h;omega
   ·have:=h4 (by omega);omega
  rw [fgo]
  split
  ·rename_i h
   have hL:finN n fit opp≤fit'∧finN n fit opp≤i∧(0≤opp'→finN n fit opp≤opp'):=by
    unfold finN
    by_cases c:(fit:Int)<(n:Int) - 1∧0≤opp
    ·rw [if_pos c]
     refine ⟨?_,by omega,fun h'=>?_⟩<;>omega
    ·rw [if_neg c]
     refine ⟨by omega,by omega,fun h'=>?_⟩
     rcases Nat.lt_or_ge s' i with h | h
     ·have:=h3 h;omega
     ·have:=h4 (by omega);omega
   exact fgo_low (m+1) i fit' opp' tot' run' hL.2.2 hL.1 hL.2.1
  ·split
   ·rename_i h h'
    have hi:i=s:=by
     rcases Nat.lt_or_ge s i with q | q
     ·exact absurd ⟨h',q⟩ h
     ·omega
    have ho:opp=-1:=by omega
    have e:finN n i opp=i:=by unfold finN;rw [if_neg (by omega)]
    rw [e]
    have:=h4 (by omega)
    exact fgo_low (m+1) i fit' opp' tot' run' (fun h=>by omega) (by omega) (by omega)
   ·rename_i h h'
    rw [show fgo ws sp ms W' s' n (m+1) i fit' opp' tot' run'=if ms.getD i 0=2 then (i:Int)
     else fgo ws sp ms W' s' n m (i+1) i (if ms.getD i 0=1 then (i:Int) else opp') (totN (sp.getD i false) tot' run' (capN (ws.getD i 0))) (rnN (sp.getD i false) run' (capN (ws.getD i 0))) by
      rw [fgo,if_neg (by omega),if_neg (by omega)]]
    split
    ·exact Int.le_refl _
    ·refine fgo_mono hW hs hn m (i+1) i i _ _ _ _ _ _ (by omega) (by omega) (fun _=>by omega) (fun _=>by omega) ?_ ?_ ?_ ?_ ?_ hT hU
     all_goals (split<;>omega)
theorem endN_mono1 {ws:List Int} {sp:List Bool} {ms:List Int} {W W':Int} {s n:Nat} (hW:W≤W') (hn:s<n):endN ws sp ms W n s≤endN ws sp ms W' n s:=
 fgo_mono hW (Nat.le_refl s) hn _ _ _ _ _ _ _ _ _ _ (by omega) (by omega) (fun h=>by omega) (fun _=>by omega) (by omega) (by omega) (by omega) (by omega) (.inl rfl) (by omega) (by omega)
theorem endN_mono2 {ws:List Int} {sp:List Bool} {ms:List Int} {W:Int} {s n:Nat} (hn:s+1<n):endN ws sp ms W n s≤endN ws sp ms W n (s+1):=by
 have hr:=endN_range (ws:=ws) (sp:=sp) (ms:=ms) (W:=W) hn
 obtain ⟨m,hm⟩:∃ m,n - s=m+1:=⟨n - s - 1,by omega⟩
 have hm2:n - (s+1)=m:=by omega
 have e:finN n s (-1)=s:=by unfold finN;rw [if_neg (by omega)]
 have hc:=capN_b (ws.getD s 0)
 unfold endN at hr ⊢
 rw [hm,fgo,e]
 split
 ·omega
 ·split
  ·omega
  ·split
   ·omega
   ·rw [hm2]
    refine fgo_mono (Int.le_refl _) (by omega) hn m (s+1) s (s+1) _ _ _ _ _ _ (by omega) (by omega) (fun _=>by omega) (fun _=>by omega) ?_ ?_ ?_ ?_ ?_ ?_ ?_
    ·split<;>omega
    ·split<;>omega
    ·split<;>omega
    ·omega
    ·right;split<;>omega
    ·unfold totN;split<;>omega
    ·unfold totN rnN;split<;>omega
theorem endN_mono {ws:List Int} {sp:List Bool} {ms:List Int} {W W':Int} {s n:Nat} (hW:W≤W') (d:Nat) (hn:s+d<n):endN ws sp ms W n s≤endN ws sp ms W' n (s+d):=by
 induction d with
 | zero=>exact endN_mono1 hW hn
 | succ d ih=>exact Int.le_trans (ih (by omega)) (endN_mono2 hn)
theorem fillF_pre {E:Nat→Int} {n:Nat}:∀ (m:Nat) (L:List Int) (line:Int),(∀ i,i<L.length→(fillF E n m L line).getD i 0=L.getD i 0)∧(∀ i,L.length≤i→i<(fillF E n m L line).length→line≤(fillF E n m L line).getD i 0)
 | 0,L,line=>by rw [fillF];exact ⟨fun _ _=>rfl,fun i h1 h2=>by omega⟩
 | m+1,L,line=>by
  rw [fillF]
  split
  ·obtain ⟨k,ek⟩:∃ k,(E L.length).toNat+1 - L.length=k:=⟨_,rfl⟩
   rw [ek]
   have ih:=fillF_pre (E:=E) (n:=n) m (L++List.replicate k line) (line+1)
   refine ⟨fun i hi=>?_,fun i hi h2=>?_⟩
   ·rw [ih.1 i (by simp;omega)]
    simp [List.getD_eq_getElem?_getD,List.getElem?_append_left hi]
   ·by_cases h:i<(L++List.replicate k line).length
    ·rw [ih.1 i h]
     have hk:i - L.length<k:=by simp at h;omega
     simp [List.getD_eq_getElem?_getD,List.getElem?_append_right hi,hk]
    ·have:=ih.2 i (by omega) h2
     omega
  ·exact ⟨fun _ _=>rfl,fun i h1 h2=>by omega⟩
theorem fillF_mono {E E':Nat→Int} {n:Nat} (hE:∀ s,s<n→(s:Int)≤E s∧E s<n) (hE':∀ s,s<n→(s:Int)≤E' s∧E' s<n) (hm:∀ s d,s+d<n→E s≤E' (s+d)) :
  ∀ (m:Nat) (L L':List Int) (line:Int),n - L.length≤m→L.length≤L'.length→L'.length≤n→(∀ i,i<L.length→L'.getD i 0≤L.getD i 0)→(∀ i,L.length≤i→i<L'.length→L'.getD i 0<line) →
   ∀ i,i<n→(fillF E' n m L' line).getD i 0≤(fillF E n m L line).getD i 0
 | 0,L,L',line,h1,h2,h3,h4,h5,i,hi=>by rw [fillF,fillF];exact h4 i (by omega)
 | m+1,L,L',line,h1,h2,h3,h4,h5,i,hi=>by
  by_cases c':L'.length<n
  ·have c:L.length<n:=by omega
   have a1:=hE L.length c
   have a2:=hE' L'.length c'
   have a3:=hm L.length (L'.length - L.length) (by omega)
   rw [show L.length+(L'.length - L.length)=L'.length by omega] at a3
   rw [fillF,if_pos c',fillF,if_pos c]
   obtain ⟨k,ek⟩:∃ k,(E L.length).toNat+1 - L.length=k:=⟨_,rfl⟩
   obtain ⟨k',ek'⟩:∃ k,(E' L'.length).toNat+1 - L'.length=k:=⟨_,rfl⟩
   rw [ek,ek']
   refine fillF_mono hE hE' hm m _ _ _ (by simp;omega) (by simp;omega) (by simp;omega) (fun j hj=>?_) (fun j hj hj'=>?_) i hi
   ·by_cases q:j<L.length
    ·have e1:(L++List.replicate k line).getD j 0=L.getD j 0:=by simp [List.getD_eq_getElem?_getD,List.getElem?_append_left q]
     have e2:(L'++List.replicate k' line).getD j 0=L'.getD j 0:=by simp [List.getD_eq_getElem?_getD,List.getElem?_append_left (show j<L'.length by omega)]
     rw [e1,e2];exact h4 j q
    ·have hk:j - L.length<k:=by simp at hj;omega
     have e1:(L++List.replicate k line).getD j 0=line:=by simp [List.getD_eq_getElem?_getD,List.getElem?_append_right (show L.length≤j by omega),hk]
     rw [e1]
     by_cases q':j<L'.length
     ·have e2:(L'++List.replicate k' line).getD j 0=L'.getD j 0:=by simp [List.getD_eq_getElem?_getD,List.getElem?_append_left q']
      rw [e2];have:=h5 j (by omega) q';omega
     ·have hk':j - L'.length<k':=by simp at hj;omega
      have e2:(L'++List.replicate k' line).getD j 0=line:=by simp [List.getD_eq_getElem?_getD,List.getElem?_append_right (show L'.length≤j by omega),hk']
      rw [e2];omega
   ·simp at hj hj'
    by_cases q':j<L'.length
    ·have e2:(L'++List.replicate k' line).getD j 0=L'.getD j 0:=by simp [List.getD_eq_getElem?_getD,List.getElem?_append_left q']
     rw [e2];have:=h5 j (by omega) q';omega
    ·have hk':j - L'.length<k':=by omega
     have e2:(L'++List.replicate k' line).getD j 0=line:=by simp [List.getD_eq_getElem?_getD,List.getElem?_append_right (show L'.length≤j by omega),hk']
     rw [e2];omega
  ·rw [fillF_end E' n (m+1) L' line c']
   have hp:=fillF_pre (E:=E) (n:=n) (m+1) L line
   have hl:(fillF E n (m+1) L line).length=n:=fillF_len hE (m+1) L line h1 (by omega)
   by_cases q:i<L.length
   ·rw [hp.1 i q];exact h4 i q
   ·have:=hp.2 i (by omega) (by omega)
    have:=h5 i (by omega) (by omega)
    omega
theorem fillN_mono {ws ms:List Int} {sp:List Bool} {W W':Int} {n:Nat} (hW:W≤W') (i:Nat) (hi:i<n):(fillN ws ms sp W' n).getD i 0≤(fillN ws ms sp W n).getD i 0:=
 fillF_mono (fun s h=>endN_range h) (fun s h=>endN_range h) (fun s d h=>endN_mono hW d h) n [] [] 0 (by simp) (by simp) (by simp) (by simp) (by simp) i hi
def LStep (L:List Int):Prop:=(∀ i,i+1<L.length→L.getD (i+1) 0=L.getD i 0∨L.getD (i+1) 0=L.getD i 0+1)∧(0<L.length→L.getD 0 0=0)
theorem fillF_step {E:Nat→Int} {n:Nat} (hE:∀ s,s<n→(s:Int)≤E s∧E s<n):∀ (m:Nat) (L:List Int) (line:Int),LStep L→(0<L.length→L.getD (L.length - 1) 0=line - 1)→(L.length=0→line=0)→LStep (fillF E n m L line)
 | 0,L,line,h1,_,_=>by rw [fillF];exact h1
 | m+1,L,line,h1,h2,h3=>by
  rw [fillF]
  split
  ·rename_i c
   have a:=hE _ c
   obtain ⟨k,ek⟩:∃ k,(E L.length).toNat+1 - L.length=k:=⟨_,rfl⟩
   rw [ek]
   have hk:0<k:=by omega
   have g1:∀ j,j<L.length→(L++List.replicate k line).getD j 0=L.getD j 0:=fun j q=>by simp [List.getD_eq_getElem?_getD,List.getElem?_append_left q]
   have g2:∀ j,L.length≤j→j<L.length+k→(L++List.replicate k line).getD j 0=line:=fun j q q'=>by
    have:j - L.length<k:=by omega
    simp [List.getD_eq_getElem?_getD,List.getElem?_append_right q,this]
   refine fillF_step hE m _ _ ⟨fun i hi=>?_,fun _=>?_⟩ (fun _=>?_) (fun h=>by simp at h;omega)
   ·simp at hi
    by_cases q:i+1<L.length
    ·rw [g1 _ q,g1 i (by omega)];exact h1.1 i q
    ·rw [g2 (i+1) (by omega) (by omega)]
     by_cases q2:i<L.length
     ·rw [g1 i q2]
      have:=h2 (by omega)
      rw [show L.length - 1=i by omega] at this
      omega
     ·rw [g2 i (by omega) (by omega)];omega
   ·by_cases q:0<L.length
    ·rw [g1 0 q];exact h1.2 q
    ·rw [g2 0 (by omega) (by omega)];exact h3 (by omega)
   ·rw [g2 _ (by simp;omega) (by simp;omega)];omega
  ·exact h1
theorem fillN_step {ws ms:List Int} {sp:List Bool} {W:Int} {n:Nat}:LStep (fillN ws ms sp W n):=
 fillF_step (fun s h=>endN_range h) n [] 0 ⟨fun i h=>by simp at h,fun h=>by simp at h⟩ (fun h=>by simp at h) (fun _=>rfl)
end
section
def ac7:AC:=by
 apply fun (y:AC) (_:@Eq AC (let e0:=[12,13,14,15,16];let e1:=[25,26,27,28,29];let e2:=[5,10,11,12];let e3:=[50,51,52,53,54];let e4:=[45,46,47,48,49];let e5:=[62,63,64,65,66];let e6:=[57,58,59,60,61];let e7:=[75,76,77,78,79];let e8:=[70,71,72,73,74];let e9:=[0,1,2,3,4];(qk [0,1] (qs (qr [(qp 2 (.box (.v 0))),(qp 4 (.mov (.c (.bool false))))]) (qk [1,2] (qs (qr [(qp 13 (.call 8 [])),(yn 5 13 [0,0,0])]) (qk [1,2,5] (qs (qr [(qp 15 (qt 9 2)),(qi 16 (.call 9 [.v 15]) [0]),(yn 14 16 [1]),(qi 17 (.ext (.v 14) 0) [2]),(qi 18 (.ext (.v 14) 1) [2]),(qi 19 (.ext (.v 14) 2) [2]),(qi 20 (.ext (.v 14) 3) [2]),(qp 8 (.alloc [.int .i64 0,.nsl,.int .i64 0])),(yn 6 17 [3,1,0,1,2,3,7]),(yn 7 18 [4,8,0,1,2,3,4,7,8]),(qo (.store 3 (.v 8) (.v 19)) [7,5,9,0,1,2,3,4,5,7,8,9]),(yn 9 20 [6,10,0,1,2,3,4,5,6,7,8,9,10])]) (qk [1,5,6,7,8,9] (qs (qr [(ym 21 6),(ym 22 7),(qp 23 (qt 3 8)),(ym 24 9),(qi 25 (.call 17 [.v 21,.v 22,.v 23,.v 24]) [0,1,2,3]),(yn 10 25 [4,4,0,1,2,3,4])]) (qk [1,5,6,7,8,9,10] (qs (qr [(ym 26 6),(ym 27 7),(qp 28 (qt 3 8)),(ym 29 9),(ym 30 1),(qi 31 (.conv .i64 (.v 30)) [4]),(yb 32 .add 29 31 [3,5]),(qi 33 (.call 17 [.v 26,.v 27,.v 28,.v 32]) [0,1,2,6]),(yn 11 33 [7,7,0,1,2,3,4,5,6,7])]) (qk [5,10,11] (qs (qs (qr [(ym 34 10),(yh 35 34 [0]),(ym 36 11),(yh 37 36 [2]),(yb 38 .neq 35 37 [1,3])]) (qk [5,10,11,38] (qq (.v 38) (qs (qr [(qp 4 (.mov (.c (.bool false))))]) (qk [4] .ret)) .skip))) (qk [5,10,11] (qs (qs (qr [(qp 12 (.mov (qz 0)))]) (qk e2 (.block 0 (.loop (qk e2 (qs (qs (qr [(ym 39 12),(ym 40 10),(yh 41 40 [1]),(yb 42 .lss 39 41 [0,2])]) (qk [5,10,11,12,42] (qq (.v 42) .skip (.exit 0)))) (qk e2 (qs (.block 1 (qs (qd [(qe (ym 45 11) [46,50,51,52,53,54] [] 2),(qe (ym 46 12) [45,50,51,52,53,54] [0] 2),(qe (yj 47 6 45 46 [0,1]) e3 [] 2),(qe (yf 48 3 47 [2]) e3 [] 2),(qe (yk 49 48 [3]) e3 [] 2),(qe (ym 50 10) [45,46,47,48,49,51] e9 2),(qe (ym 51 12) [45,46,47,48,49,50] [0,1,2,3,4,5] 2),(qe (yj 52 6 50 51 [5,6]) e4 e9 2),(qe (yf 53 3 52 [7]) e4 e9 2),(qe (yk 54 53 [8]) e4 e9 2),(qe (yb 55 .gtr 49 54 [4,9]) [] [] 2),(qe (yn 56 55 [10]) [] [] 2),(qe (qg 57 (qm 11) 56 false [11]) [58,62,63,64,65,66] [] 2),(qe (qg 58 (qm 12) 56 false [11]) [57,62,63,64,65,66] [12] 2),(qe (qg 59 (qj 6 57 58) 56 false [12,13,11]) e5 [] 2),(qe (qg 60 (qf 5 59) 56 false [14,11]) e5 [] 2),(qe (qg 61 (ql 60) 56 false [15,11]) e5 [] 2),(qe (qg 62 (qm 10) 56 false [11]) [57,58,59,60,61,63] e0 2),(qe (qg 63 (qm 12) 56 false [11]) [57,58,59,60,61,62] [12,13,14,15,16,17] 2),(qe (qg 64 (qj 6 62 63) 56 false [17,18,11]) e6 e0 2),(qe (qg 65 (qf 5 64) 56 false [19,11]) e6 e0 2),(qe (qg 66 (ql 65) 56 false [20,11]) e6 e0 2),(qe (qg 67 (qb .neq 61 66) 56 false [16,21,11]) [] [] 2),(qe (qi 68 (.pick (.v 56) (.c (.bool true)) (.v 67)) [11,22]) [] [] 2),(qe (yn 69 68 [23,11]) [] [] 2),(qe (qg 70 (qm 11) 69 false [24]) [71,75,76,77,78,79] [] 2),(qe (qg 71 (qm 12) 69 false [24]) [70,75,76,77,78,79] [25] 2),(qe (qg 72 (qj 6 70 71) 69 false [25,26,24]) e7 [] 2),(qe (qg 73 (qf 2 72) 69 false [27,24]) e7 [] 2),(qe (qg 74 (ql 73) 69 false [28,24]) e7 [] 2),(qe (qg 75 (qm 10) 69 false [24]) [70,71,72,73,74,76] e1 2),(qe (qg 76 (qm 12) 69 false [24]) [70,71,72,73,74,75] [25,26,27,28,29,30] 2),(qe (qg 77 (qj 6 75 76) 69 false [30,31,24]) e8 e1 2),(qe (qg 78 (qf 2 77) 69 false [32,24]) e8 e1 2),(qe (qg 79 (ql 78) 69 false [33,24]) e8 e1 2),(qe (qg 80 (qb .neq 74 79) 69 false [29,34,24]) [] [] 2),(qe (qi 81 (.pick (.v 69) (.c (.bool true)) (.v 80)) [24,35]) [] [] 2)]) (qk [5,10,11,12,81] (qq (.v 81) (qs (qr [(qp 4 (.mov (.c (.bool false))))]) (qk [4] .ret)) .skip)))) (qk e2 (qr [(ym 43 12),(yc 44 .add 43 (qz 1) [0]),(yn 12 44 [1,0,1])])))))))))) (qk [5] (qs (qr [(ym 82 5),(yn 4 82 [0,0])]) (qk [4] .ret)))))))))))))))))) y)=>y
 dsimp
theorem fn7:factOf Tryz.prog 7=some (ac7.strip,[.tmp 4],83):=by kernel_rfl
theorem ok7:ac7.okAll=true:=by kernel_rfl
end
section
attribute [local simp ↓] awp_scope awp_label
attribute [local simp] w1
set_option maxHeartbeats 400000
attribute [local simp] evC
attribute [local simp ↓] oneN oneI oneSp oneCor onePl
theorem placesN_get {cs:List Cor} {t:List UInt8} {s:Stg} {w:Int} (h:fitN s=true):∃ X,placesN cs t s w=plcL (fontsN cs t) (linesN cs t s w) X (widthsN cs t s) (splT t).length:=by
 unfold placesN
 rw [if_pos h]
 exact ⟨_,rfl⟩
theorem placesN_len {cs:List Cor} {t:List UInt8} {s:Stg} {w:Int} (h:fitN s=true):(placesN cs t s w).length=(splT t).length:=by
 obtain ⟨X,e⟩:=placesN_get (cs:=cs) (t:=t) (w:=w) h
 rw [e,plcL_len]
theorem plcL_get (Fs ls X Ws:List Int) (n i:Nat) (h:i<(plcL Fs ls X Ws n).length):(plcL Fs ls X Ws n)[i]=⟨i,Fs.getD i 0,ls.getD i 0,X.getD i 0,Ws.getD i 0⟩:=by
 simp [plcL]
theorem b7 (h8:Best Tryz.prog 8 [] (.p (.bool true))) (p:Pg) (hp:p.ok) (more:Nat) (hm:more<256):Best Tryz.prog 7 [.agg (pgRow p),.int .u8 more] (.p (.bool true)):=by
 refine best mixed fn7 ok7 (by simp [pgRow]) ?_
 obtain ⟨cs,hl,hcs,q9⟩:=p.made hp
 have ht:=p.txt_len
 have ha:=p.at_len
 have hf:=p.fit
 have hw:=p.wid_b
 have q17:=b17 cs hcs p.txt (by omega) p.set (by omega) p.wid (by omega)
 have q17':=b17 cs hcs p.txt (by omega) p.set (by omega) (p.wid+more) (by omega)
 have hn:(splT p.txt).length≤20:=by have:=splT_len p.txt;omega
 have hP:(placesN cs p.txt p.set p.wid).length≤20:=by rw [placesN_len hf];exact hn
 have hP':(placesN cs p.txt p.set (p.wid+more)).length=(placesN cs p.txt p.set p.wid).length:=by rw [placesN_len hf,placesN_len hf]
 have key:∀ (k:Nat) (h:k<(placesN cs p.txt p.set p.wid).length) (h':k<(placesN cs p.txt p.set (p.wid+more)).length),(placesN cs p.txt p.set (p.wid+more))[k].l≤(placesN cs p.txt p.set p.wid)[k].l∧(placesN cs p.txt p.set (p.wid+more))[k].w=(placesN cs p.txt p.set p.wid)[k].w∧(placesN cs p.txt p.set (p.wid+more))[k].f=(placesN cs p.txt p.set p.wid)[k].f:=by
  obtain ⟨X,e⟩:=placesN_get (cs:=cs) (t:=p.txt) (w:=p.wid) hf
  obtain ⟨X',e'⟩:=placesN_get (cs:=cs) (t:=p.txt) (w:=p.wid+more) hf
  rw [e,e']
  intro k h h'
  rw [plcL_get,plcL_get]
  rw [plcL_len] at h
  exact ⟨fillN_mono (by omega) k h,rfl,rfl⟩
 generalize p.txt=T at *
 generalize p.set=S at *
 generalize p.wid=W at *
 obtain ⟨P,eP⟩:∃ P,placesN cs T S W=P:=⟨_,rfl⟩
 obtain ⟨P',eP'⟩:∃ P,placesN cs T S (W+more)=P:=⟨_,rfl⟩
 simp only [eP,eP'] at hP hP' q17 q17' key
 have wW:R (W+more):=⟨by omega,by omega⟩
 have wm:R (more:Int):=⟨by omega,by omega⟩
 have hPl:¬(P.length:Int)≠P'.length:=by omega
 simp -dsimp [ac7,pgRow]
 refine call_p h8 (by simp) (by simp) ?_
 simp -dsimp
 refine call_p q9 (by simp [pgRow]) (by simp) ?_
 simp -dsimp [stgRow]
 refine call_p q17 (by simp [stgRow]) (by simp) ?_
 simp -dsimp [wr wm,wr wW]
 refine call_p q17' (by simp [stgRow]) (by simp) ?_
 simp -dsimp [hP']
 refine loopC P.length (fun k=>⟨[(5,.p (.bool true)),(10,.p (.sl 6 (P.map plcRow))),(11,.p (.sl 6 (P'.map plcRow))),(12,.p (.int .i64 k))],[]⟩) (fun _=>True) (fun k hk _=>?_) trivial (by simp)
 by_cases h:k<P.length
 ·have wk:R ((k:Int)+1):=⟨by omega,by omega⟩
  have h':k<P'.length:=by omega
  have hk:=key k h h'
  obtain ⟨⟨i,f,l,x,w⟩,e⟩:∃ p,P[k]=p:=⟨_,rfl⟩
  obtain ⟨⟨i',f',l',x',w'⟩,e'⟩:∃ p,P'[k]=p:=⟨_,rfl⟩
  rw [e,e'] at hk
  obtain ⟨k1,k2,k3⟩:=hk
  dsimp only at k1 k2 k3
  subst k2 k3
  have k4:¬l<l':=by omega
  simp -dsimp [h,h',hP',e,e',plcRow,k1,k4,wr wk]
 ·have:k=P.length:=by omega
  subst this
  simp -dsimp [h,resOf]
end
end Go.Abs.A29
namespace Go.Proofs.YtinblgdfhmllnaaGreat
open Go Go.Abs Go.ChangeShapes Go.WideShapes Go.RowKit Go.Proofs Go.Abs.A29
set_option maxRecDepth 100000
set_option linter.unusedVariables false
theorem flowWider_lifted (os:Os) (started:os.Started) (H:Type) (enc:TypeId×Value→H) :
  ReturnsInHanded {} Tryz.checked os 7 .any (ChangeSpec.pre6 enc Tryz.prog Tryz.f7 Rows.flowWiderSpec [] false)
   (Rows.flowWiderSpec.post enc Tryz.prog Tryz.f7 false true false false):=by
 refine returnsInHanded_of_change (C:=Tryz.checked) own started (by kernel_rfl) Tryz.func7
  (ChangeSpec.witness6_at (enc:=enc) (C:=Tryz.checked) (os:=os) false (restWorld os) #[.agg #[.slice none 0 0,.slice none 0 0,.slice none 0 0,.int .u8 0,.slice none 0 0,.slice none 0 0,.int .i64 0,.int .i64 0,.int .i64 0],.int .u8 0] 8 rfl (by kernel_rfl) (by kernel_rfl) (by kernel_rfl) (by kernel_rfl) (by kernel_rfl)) ?_
 intro W base args ds gs before hval hW _ _
 have hW':=hW
 obtain ⟨p,q,hA,hV,-,-,-⟩:=hW'
 have hA:DataW.TrodAll enc Tryz.prog W 0 (fun _=>true) true Tryz.f7.params.toList args.toList ds p:=hA
 rw [Tryz.params7] at hA
 have hval:∀ (j:Nat) t v,Tryz.f7.params[j]?=some t→args[j]?=some v→Value.okWide Tryz.prog W .any base t v:=hval
 rw [Tryz.params7] at hval
 obtain ⟨v0,v1,d0,d1,p0,p1,rfl,rfl,rfl,h0,h1⟩:=trodAll_two hA
 obtain ⟨a0,o0,r0⟩:=Rd.argT Tryz.underlying26 rd_page (hval 0 26 v0 rfl rfl) h0
 obtain ⟨a1,o1,r1⟩:=Rd.argI Tryz.underlying5 rd_u8 (hval 1 5 v1 rfl rfl) h1
 exact law_step rfl rfl hW rfl (by decide +kernel) ((b7 b8 a0 o0 a1 o1)) (Ps.cons r0 (Ps.one r1))
theorem flowWider_holds:Rows.FlowWiderSaid:=
 OpenClaim.holds_of_wide 7 Tryz.f7 rfl rfl rfl rfl rfl rfl rfl ⟨rfl,rfl,rfl,rfl,rfl⟩ rfl rfl rfl rfl rfl (by kernel_rfl) Tryz.func7 (by kernel_rfl)
  (of_decide_eq_true (by kernel_rfl)) (by unfold Func.isWrapper;rw [if_neg (of_decide_eq_false (by kernel_rfl))];exact ⟨rfl,rfl⟩)
  (fun os started H enc _=>flowWider_lifted os started H enc)
end Go.Proofs.YtinblgdfhmllnaaGreat
