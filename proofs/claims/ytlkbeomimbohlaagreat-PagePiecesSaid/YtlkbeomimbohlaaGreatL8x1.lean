/- Proved: the law PagePieces returns true for every input, and its arguments read behind the call as they did; no condition beyond the given row. -/
import Derived.Test.YtlkbeomimbohlaaGreatC24
set_option linter.unusedVariables false
set_option linter.unusedSimpArgs false
namespace Go.Abs.A30
open Go Go.Abs Go.Proofs
set_option maxRecDepth 100000
set_option linter.unusedVariables false
set_option linter.unusedSimpArgs false
attribute [local simp ↓] awp_skip awp_seq awp_cond awp_block awp_exit awp_ret awp_reg awp_draw awp_ghost awp_loop awp_rfun awpR_nil awpR_cons awpX_nil awpX_0 awpX_1 awpX_2 awpI_eq awpI_t awpI_f awpStep_eq
attribute [local simp] condL_true condL_false condL_dec evDel evV evN evS evA initFr Ghost.app Fr.var Fr.blk Fr.ff FF.val Abs.look Fr.app Fr.erase Fr.noSlot AV.noSlot AV.noSlotL Blk.noSlot Fr.spoken AV.fz AV.fzL Blk.fz binV binI shI binS unV fillA FF.parts FF.vals headO intO boundO lenV scalarEq leavesEq AV.aggc AV.cells FF.read FF.rows AV.one PV.one chunk freshB newS pickV retK evRs evRl evR resOf mkTup mkAgg allP cloOf okP_nil okX_p okX okP addN Del.noSlot Del.owners Rnd reify_p normM insM Fr.back Fr.backV Fr.setPs normV insV
attribute [local simp] renF Fr.trim Blk.trim AV.rn AV.rnL Blk.rn AV.among AV.amongL Blk.among okF retM fixS BIG initFF
attribute [local simp] FF.reify FF.reifyL PV.flat
section
theorem stT_first (t:List UInt8) {i:Nat} (h:0<i):(stT t i).1[0]?=some 0:=by
 obtain ⟨r,hr⟩:=stT_pre t 1 i h
 rw [←hr]
 simp [stT,begT]
def sA (t:List UInt8) (i:Nat):Nat:=if i<(splT t).length then ((splT t).getD i (0,0)).1 else t.length
theorem sA_get {t:List UInt8} {i:Nat} (h:i<(splT t).length):(splT t).getD i (0,0)=(sA t i,sA t (i+1)):=by
 have hl:(splT t).length=(stT t t.length).1.length:=by simp [splT]
 have key:∀ j,j<(splT t).length→(splT t).getD j (0,0)=((stT t t.length).1.getD j 0,if j+1<(splT t).length then (stT t t.length).1.getD (j+1) 0 else t.length):=fun j hj=>by
  rw [List.getD_eq_getElem?_getD,List.getElem?_eq_getElem hj,hl]
  exact spQ_get (by omega)
 unfold sA
 rw [if_pos h,key i h]
 congr 1
 by_cases h2:i+1<(splT t).length
 ·rw [if_pos h2,if_pos h2,key (i+1) h2]
 ·rw [if_neg h2,if_neg h2]
theorem sA_0 (t:List UInt8):sA t 0=0:=by
 have hl:(splT t).length=(stT t t.length).1.length:=by simp [splT]
 by_cases h:0<t.length
 ·have h0:=stT_first t h
  have hlt:0<(splT t).length:=by rw [hl];exact (List.getElem?_eq_some_iff.1 h0).1
  unfold sA
  rw [if_pos hlt,List.getD_eq_getElem?_getD,List.getElem?_eq_getElem hlt]
  have:(splT t)[0]=((stT t t.length).1.getD 0 0,if 0+1<(stT t t.length).1.length then (stT t t.length).1.getD (0+1) 0 else t.length):=spQ_get (by omega)
  rw [this,List.getD_eq_getElem?_getD,h0];rfl
 ·have ht:t=[]:=List.eq_nil_of_length_eq_zero (by omega)
  subst ht
  rfl
theorem sA_lt {t:List UInt8} {i:Nat} (h:i<(splT t).length):sA t i<sA t (i+1)∧sA t (i+1)≤t.length∧sA t (i+1)≤sA t i+6:=by
 have:=splT_mem (t:=t) (a:=sA t i) (b:=sA t (i+1)) (by
  rw [←sA_get h,List.getD_eq_getElem?_getD,List.getElem?_eq_getElem h];simp)
 omega
theorem sA_end (t:List UInt8):sA t (splT t).length=t.length:=by simp [sA]
theorem sA_mono {t:List UInt8} (i d:Nat) (h:i+d≤(splT t).length):sA t i+d≤sA t (i+d):=by
 induction d with
 | zero=>exact Nat.le_refl _
 | succ d ih=>
  have:=ih (by omega)
  have h2:=(sA_lt (t:=t) (i:=i+d) (by omega)).1
  rw [show i+(d+1)=i+d+1 by omega]
  omega
theorem stT_yes {t:List UInt8} {i:Nat} (h:begT t i (stT t i).2=true):stT t (i+1)=((stT t i).1++[i],i):=by simp only [stT,h,if_true]
theorem stT_no {t:List UInt8} {i:Nat} (h:begT t i (stT t i).2=false):stT t (i+1)=stT t i:=by simp [stT,h]
theorem stT_add (t:List UInt8) (n d:Nat):∃ r,(stT t (n+d)).1=(stT t n).1++r∧∀ y∈r,n≤y:=by
 induction d with
 | zero=>exact ⟨[],by simp,by simp⟩
 | succ d ih=>
  obtain ⟨r,h1,h2⟩:=ih
  rw [show n+(d+1)=(n+d)+1 by omega]
  cases hb:begT t (n+d) (stT t (n+d)).2 with
  | true=>
   rw [stT_yes hb]
   refine ⟨r++[n+d],by rw [h1,List.append_assoc],fun y hy=>?_⟩
   rcases List.mem_append.1 hy with q | q
   ·exact h2 y q
   ·simp at q;omega
  | false=>rw [stT_no hb];exact ⟨r,h1,h2⟩
theorem stT_at {t:List UInt8} {n i x:Nat} (hx:(stT t n).1[i]?=some x):(stT t x).1=(stT t n).1.take i∧begT t x (stT t x).2=true∧x<n:=by
 obtain ⟨_,_,h3,h4,_⟩:=stT_inv t n
 have hi:=(List.getElem?_eq_some_iff.1 hx).1
 have hxn:x<n:=h4 x (List.mem_of_getElem? hx)
 obtain ⟨d,rfl⟩:∃ d,n=x+d:=⟨n - x,by omega⟩
 obtain ⟨r,hr,hr2⟩:=stT_add t x d
 have hlow:=(stT_inv t x).2.2.2.1
 rw [hr] at hx h3 hi
 rw [hr]
 have hip:(stT t x).1.length≤i:=by
  rcases Nat.lt_or_ge i (stT t x).1.length with q | q
  ·rw [List.getElem?_append_left q] at hx
   have:=hlow x (List.mem_of_getElem? hx)
   omega
  ·exact q
 have hr0:=hx
 rw [List.getElem?_append_right hip] at hr0
 have hi2:i=(stT t x).1.length:=by
  rcases Nat.lt_or_ge (stT t x).1.length i with q | q
  ·have hrl:=(List.getElem?_eq_some_iff.1 hr0).1
   have hr1:r[0]'(by omega)<r[i - (stT t x).1.length]:=List.pairwise_iff_getElem.1 (List.pairwise_append.1 h3).2.1 0 _ (by omega) hrl (by omega)
   have e:=(List.getElem?_eq_some_iff.1 hr0).2
   have:=hr2 (r[0]'(by omega)) (by simp)
   omega
  ·omega
 refine ⟨by rw [hi2,List.take_left],?_,hxn⟩
 cases hb:begT t x (stT t x).2 with
 | true=>rfl
 | false=>
  exfalso
  obtain ⟨r2,hs,hs2⟩:=stT_add t (x+1) (d - 1)
  rw [show x+1+(d - 1)=x+d by omega,hr,stT_no hb] at hs
  have hrr:=List.append_cancel_left hs
  rw [hrr] at hr0
  have:=hs2 x (List.mem_of_getElem? hr0)
  omega
def cutT (t:List UInt8) (a b:Nat):List UInt8:=(t.take b).drop a
theorem cutT_len {t:List UInt8} {a b:Nat} (hb:b≤t.length):(cutT t a b).length=b - a:=by simp [cutT];omega
theorem cutT_at {t:List UInt8} {a b j:Nat} (h:a+j<b):bT (cutT t a b) j=bT t (a+j):=by
 simp only [bT,cutT,List.getD_eq_getElem?_getD,List.getElem?_drop,List.getElem?_take,if_pos h]
theorem stT_cut {t:List UInt8} {a b:Nat} (ha:begT t a (stT t a).2=true):∀ j,1≤j→a+j≤b→stT t (a+j)=((stT t a).1++(stT (cutT t a b) j).1.map (a+·),a+(stT (cutT t a b) j).2):=by
 intro j
 induction j with
 | zero=>intro h _;omega
 | succ j ih=>
  intro _ hb
  by_cases h0:j=0
  ·subst h0
   have e:stT (cutT t a b) 1=([0],0):=by simp [stT,begT]
   rw [e,show a+(0+1)=a+1 by omega,stT_yes ha]
   simp
  ·have i1:=ih (by omega) (by omega)
   rw [show a+(j+1)=(a+j)+1 by omega]
   obtain ⟨f,ef⟩:∃ f,(stT (cutT t a b) j).2=f:=⟨_,rfl⟩
   have e1:cT (cutT t a b) j=cT t (a+j):=by simp only [cT,cutT_at (by omega:a+j<b)]
   have e2:clsT (cutT t a b) j=clsT t (a+j):=by simp only [clsT,e1]
   have e3:clsT (cutT t a b) (j - 1)=clsT t (a+j - 1):=by
    simp only [clsT,cT,cutT_at (by omega:a+(j - 1)<b),show a+(j - 1)=a+j - 1 by omega]
   have hbeg:begT t (a+j) (a+f)=begT (cutT t a b) j f:=by
    have d1:decide (a+j=0)=decide (j=0):=by congr 1;simp;omega
    have d2:decide (((a+j:Nat):Int) - ((a+f:Nat):Int)=6)=decide ((j:Int) - (f:Int)=6):=by congr 1;simp;omega
    simp only [begT,e1,e2,e3,d1,d2]
   cases hb2:begT (cutT t a b) j f with
   | true=>
    have s1:stT (cutT t a b) (j+1)=((stT (cutT t a b) j).1++[j],j):=stT_yes (by rw [ef];exact hb2)
    have s2:stT t (a+j+1)=((stT t (a+j)).1++[a+j],a+j):=stT_yes (by rw [i1];dsimp only;rw [ef,hbeg];exact hb2)
    rw [s1,s2,i1]
    simp
   | false=>
    have s1:stT (cutT t a b) (j+1)=stT (cutT t a b) j:=stT_no (by rw [ef];exact hb2)
    have s2:stT t (a+j+1)=stT t (a+j):=stT_no (by rw [i1];dsimp only;rw [ef,hbeg];exact hb2)
    rw [s1,s2,i1]
theorem splT_cut {t:List UInt8} {i0 i1:Nat} (h01:i0<i1) (h1:i1≤(splT t).length):splT (cutT t (sA t i0) (sA t i1))=(List.range (i1 - i0)).map fun j=>(sA t (i0+j) - sA t i0,sA t (i0+j+1) - sA t i0):=by
 have hl:(splT t).length=(stT t t.length).1.length:=by simp [splT]
 have hsA:∀ i,i<(splT t).length→(stT t t.length).1[i]?=some (sA t i):=by
  intro i hi
  have:=sA_get hi
  rw [List.getD_eq_getElem?_getD,List.getElem?_eq_getElem hi] at this
  have e:(splT t)[i]=((stT t t.length).1.getD i 0,if i+1<(stT t t.length).1.length then (stT t t.length).1.getD (i+1) 0 else t.length):=spQ_get (by omega)
  rw [Option.getD_some,e] at this
  have h1:=congrArg Prod.fst this
  dsimp only at h1
  rw [←h1,List.getD_eq_getElem?_getD,List.getElem?_eq_getElem (by omega:i<(stT t t.length).1.length)]
  rfl
 obtain ⟨L,eL⟩:∃ L,(stT t t.length).1=L:=⟨_,rfl⟩
 have hsm:∀ i d,i+d≤(splT t).length→sA t i+d≤sA t (i+d):=by
  intro i d
  induction d with
  | zero=>intro _;exact Nat.le_refl _
  | succ d ih=>
   intro hh
   have:=ih (by omega)
   have h2:=(sA_lt (t:=t) (i:=i+d) (by omega)).1
   rw [show i+(d+1)=i+d+1 by omega]
   omega
 have hA:=hsA i0 (by omega)
 obtain ⟨a1,a2,a3⟩:=stT_at hA
 have hAB:=hsm i0 (i1 - i0) (by omega)
 rw [show i0+(i1 - i0)=i1 by omega] at hAB
 have hBl:sA t i1≤t.length:=by
  have:=sA_lt (t:=t) (i:=i1 - 1) (by omega)
  rw [show i1 - 1+1=i1 by omega] at this
  omega
 have hB:(stT t (sA t i1)).1=(stT t t.length).1.take i1:=by
  by_cases q:i1<(splT t).length
  ·exact (stT_at (hsA i1 q)).1
  ·have e:i1=(splT t).length:=by omega
   rw [e,sA_end,hl,List.take_length]
 have hc:=stT_cut (b:=sA t i1) a2 (sA t i1 - sA t i0) (by omega) (by omega)
 rw [show sA t i0+(sA t i1 - sA t i0)=sA t i1 by omega] at hc
 have hc1:=congrArg Prod.fst hc
 dsimp only at hc1
 rw [hB,a1] at hc1
 rw [eL] at hsA hc1
 rw [eL] at hl
 have hul:=cutT_len (t:=t) (a:=sA t i0) hBl
 unfold splT
 rw [hul]
 obtain ⟨U,eU⟩:∃ U,(stT (cutT t (sA t i0) (sA t i1)) (sA t i1 - sA t i0)).1=U:=⟨_,rfl⟩
 rw [eU] at hc1 ⊢
 have hUl:U.length=i1 - i0:=by
  have:=congrArg List.length hc1
  simp only [List.length_take,List.length_append,List.length_map] at this
  omega
 have hUj:∀ j,j<i1 - i0→U.getD j 0=sA t (i0+j) - sA t i0:=by
  intro j hj
  have:=congrArg (fun l=>l[i0+j]?) hc1
  rw [List.getElem?_take,if_pos (by omega),hsA (i0+j) (by omega),List.getElem?_append_right (by simp;omega)] at this
  simp only [List.length_take] at this
  rw [show i0+j - min i0 L.length=j by omega,List.getElem?_map,List.getElem?_eq_getElem (by omega:j<U.length)] at this
  simp at this
  rw [List.getD_eq_getElem?_getD,List.getElem?_eq_getElem (by omega:j<U.length)]
  simp
  omega
 unfold spQ
 rw [hUl]
 refine List.map_congr_left fun j hj=>?_
 have hj:j<i1 - i0:=by simpa using hj
 rw [hUj j hj]
 by_cases q:j+1<i1 - i0
 ·rw [if_pos q,hUj (j+1) q,show i0+(j+1)=i0+j+1 by omega]
 ·rw [if_neg q,show i0+j+1=i1 by omega]
end
end Go.Abs.A30
namespace Go.Abs.A30
open Go Go.Abs Go.Proofs
set_option maxRecDepth 100000
set_option maxHeartbeats 4000000
set_option linter.unusedVariables false
def ac26:AC:=by
 apply fun (y:AC) (_:@Eq AC (anD [⟨5,[.freeze (5,0),.freeze (3,0)],[],none⟩] (anF Tryz.prog 26 mu2 [] 0 0 [])) y)=>y
 conv=>lhs;reduce;dsimp
theorem fn26:factOf Tryz.prog 26=some (ac26.strip,[.tmp 4],20):=by kernel_rfl
theorem ok26:ac26.okAll=true:=by kernel_rfl
def ac67:AC:=by
 apply fun (y:AC) (_:@Eq AC (anF Tryz.prog 67 mu2 [] 0 0 []) y)=>y
 conv=>lhs;reduce;dsimp
theorem fn67:factOf Tryz.prog 67=some (ac67.strip,[.tmp 4],26):=by kernel_rfl
theorem ok67:ac67.okAll=true:=by kernel_rfl
def ac68:AC:=by
 apply fun (y:AC) (_:@Eq AC (anF Tryz.prog 68 mu2 [] 0 0 []) y)=>y
 conv=>lhs;reduce;dsimp
theorem fn68:factOf Tryz.prog 68=some (ac68.strip,[.tmp 4],12):=by kernel_rfl
theorem ok68:ac68.okAll=true:=by kernel_rfl
def ac27:AC:=by
 apply fun (y:AC) (_:@Eq AC (qk [0,1] (qs (qr [(qp 4 (.mov (.c (.bool false))))]) (qk [0,1] (qs (qs (qr [(ym 6 0),(yh 7 6 [0]),(ym 8 1),(yh 9 8 [2]),(yb 10 .neq 7 9 [1,3])]) (qk [0,1,10] (qq (.v 10) (qs (qr [(qp 4 (.mov (.c (.bool false))))]) (qk [4] .ret)) .skip))) (qk [0,1] (qs (qs (qr [(qp 5 (.mov (qz 0)))]) (qk [0,1,5] (.block 0 (.loop (qk [0,1,5] (qs (qs (qr [(ym 11 5),(ym 12 0),(yh 13 12 [1]),(yb 14 .lss 11 13 [0,2])]) (qk [0,1,5,14] (qq (.v 14) .skip (.exit 0)))) (qk [0,1,5] (qs (.block 1 (qs (qd [(qe (ym 17 0) [18,21,22,23,24] [] 2),(qe (ym 18 5) [17,21,22,23,24] [0] 2),(qe (yj 19 2 17 18 [0,1]) [21,22,23,24] [] 2),(qe (qi 20 (qt 2 19) [2]) [21,22,23,24] [] 2),(qe (ym 21 1) [17,18,19,20,22] [0,1,2,3] 2),(qe (ym 22 5) [17,18,19,20,21] [0,1,2,3,4] 2),(qe (yj 23 2 21 22 [4,5]) [17,18,19,20] [0,1,2,3] 2),(qe (qi 24 (qt 2 23) [6]) [17,18,19,20] [0,1,2,3] 2),(qe (qi 25 (.eqs true 2 [(0,1),(1,1)] (.v 20) (.v 24)) [3,7]) [] [] 2)]) (qk [0,1,5,25] (qq (.v 25) (qs (qr [(qp 4 (.mov (.c (.bool false))))]) (qk [4] .ret)) .skip)))) (qk [0,1,5] (qr [(ym 15 5),(yc 16 .add 15 (qz 1) [0]),(yn 5 16 [1,0,1])])))))))))) (qk [] (qs (qr [(qp 4 (.mov (.c (.bool true))))]) (qk [4] .ret))))))))) y)=>y
 dsimp
theorem fn27:factOf Tryz.prog 27=some (ac27.strip,[.tmp 4],26):=by kernel_rfl
theorem ok27:ac27.okAll=true:=by kernel_rfl
end Go.Abs.A30
namespace Go.Abs.A30
open Go Go.Abs Go.Proofs
set_option maxRecDepth 100000
set_option linter.unusedVariables false
set_option linter.unusedSimpArgs false
attribute [local simp ↓] awp_skip awp_seq awp_cond awp_block awp_exit awp_ret awp_reg awp_draw awp_ghost awp_loop awp_rfun awpR_nil awpR_cons awpX_nil awpX_0 awpX_1 awpX_2 awpI_eq awpI_t awpI_f awpStep_eq
attribute [local simp] condL_true condL_false condL_dec evDel evV evN evS evA initFr Ghost.app Fr.var Fr.blk Fr.ff FF.val Abs.look Fr.app Fr.erase Fr.noSlot AV.noSlot AV.noSlotL Blk.noSlot Fr.spoken AV.fz AV.fzL Blk.fz binV binI shI binS unV fillA FF.parts FF.vals headO intO boundO lenV scalarEq leavesEq AV.aggc AV.cells FF.read FF.rows AV.one PV.one chunk freshB newS pickV retK evRs evRl evR resOf mkTup mkAgg allP cloOf okP_nil okX_p okX okP addN Del.noSlot Del.owners Rnd reify_p normM insM Fr.back Fr.backV Fr.setPs normV insV
attribute [local simp] renF Fr.trim Blk.trim AV.rn AV.rnL Blk.rn AV.among AV.amongL Blk.among okF retM fixS BIG initFF
attribute [local simp] FF.reify FF.reifyL PV.flat
section
attribute [local simp ↓] oneI oneSp
attribute [local simp] ba_size
theorem b27 (a:List (Nat×Nat)) (hl:a.length≤1000000):Best Tryz.prog 27 [.sl 2 (a.map spRow),.sl 2 (a.map spRow)] (.p (.bool true)):=by
 refine best mixed fn27 ok27 (by simp) ?_
 simp -dsimp [ac27]
 refine loopC a.length (fun k=>⟨[(0,.p (.sl 2 (a.map spRow))),(1,.p (.sl 2 (a.map spRow))),(5,.p (.int .i64 k))],[]⟩) (fun _=>True) (fun k hk _=>?_) trivial (by simp)
 by_cases h:k<a.length
 ·have wk:R ((k:Int)+1):=⟨by omega,by omega⟩
  obtain ⟨⟨x,y⟩,e⟩:∃ p,a[k]=p:=⟨_,rfl⟩
  simp -dsimp [h,e,spRow,wr wk]
 ·have:k=a.length:=by omega
  subst this
  simp -dsimp [h]
theorem b67 (f:FuncId) (c1 c2:PV) (n k:Nat) (hn:n≤1000000) (hk:k≤n) (hf:∀ j:Nat,j<n→Best Tryz.prog f [.int .i64 j,c1,c2] (.p (.bool (decide (k≤j))))):Best Tryz.prog 67 [.int .i64 n,.clo (.func f) [] [c1,c2]] (.p (.int .i64 k)):=by
 refine best mixed fn67 ok67 (by simp) ?_
 simp -dsimp [ac67]
 refine loopM (fun x:Nat×Nat=>x.2 - x.1) (fun x=>⟨[(1,.p (.clo (.func f) [] [c1,c2])),(5,.p (.int .i64 x.1)),(6,.p (.int .i64 x.2))],[]⟩) (fun x=>x.1≤k∧k≤x.2∧x.2≤n) (0,n) (fun x hx=>?_) ⟨by omega,hk,by omega⟩ (by simp)
 obtain ⟨i,j⟩:=x
 obtain ⟨h1,h2,h3⟩:=hx
 dsimp only at h1 h2 h3
 by_cases h:i<j
 ·obtain ⟨m,em⟩:∃ m,(i+j) / 2=m:=⟨_,rfl⟩
  have hm:i≤m∧m<j:=by omega
  have w1:R ((i:Int)+j):=⟨by omega,by omega⟩
  have w2:R (m:Int):=⟨by omega,by omega⟩
  have w3:R ((m:Int)+1):=⟨by omega,by omega⟩
  have wu:IntKind.u64.wrap ((i:Int)+j)=((i+j:Nat):Int):=by
   rw [IntKind.wrap_u64];push_cast;omega
  have wq:((i:Int)+j).fdiv (2 ^ min 1 IntKind.u64.bits)=m:=by
   show Int.fdiv _ 2=_
   rw [Int.fdiv_eq_ediv_of_nonneg _ (by decide)]
   omega
  have hfm:=hf m (by omega)
  simp -dsimp [h,wr w1,wu,wq,wr w2]
  refine call_p hfm (by simp) (by simp) ?_
  by_cases hkm:k≤m
  ·simp -dsimp [hkm]
   exact ⟨i,m,by omega,⟨h1,hkm,by omega⟩,rfl,rfl⟩
  ·simp -dsimp [hkm,wr w3]
   exact ⟨m+1,j,by omega,⟨by omega,h2,h3⟩,by push_cast;rfl,rfl⟩
 ·have e1:i=k:=by omega
  have e2:j=k:=by omega
  subst e1 e2
  simp -dsimp
theorem b68 (T:List (Nat×Nat)) (j k x:Nat) (hj:j<T.length) (hk:decide (x<T[j].2)=decide (k≤j)):Best Tryz.prog 68 [.int .i64 j,.ro [.sl 2 (T.map spRow)],.ro [.int .i64 x]] (.p (.bool (decide (k≤j)))):=by
 refine best mixed fn68 ok68 (by simp) ?_
 obtain ⟨⟨a,b⟩,e⟩:∃ p,T[j]=p:=⟨_,rfl⟩
 rw [e] at hk
 simp -dsimp [ac68,hj,e,spRow,hk]
theorem b26 (t:List UInt8) (hl:t.length≤1000000) (k:Nat) (hk:k<(splT t).length):Best Tryz.prog 26 [.str (ba t),.int .i64 (sA t k)] (.p (.int .i64 k)):=by
 have hlt:=sA_lt hk
 have hsl:=splT_len t
 have q23:=b23 t hl
 have q67:=b67 68 (.ro [.sl 2 ((splT t).map spRow)]) (.ro [.int .i64 (sA t k)]) (splT t).length k (by omega) (by omega) (fun j hj=>b68 (splT t) j k (sA t k) hj (by
  have e:=sA_get hj
  rw [List.getD_eq_getElem?_getD,List.getElem?_eq_getElem hj,Option.getD_some] at e
  rw [e]
  congr 1
  apply propext
  constructor
  ·intro h
   rcases Nat.lt_or_ge j k with q | q
   ·have:=sA_mono (t:=t) (j+1) (k - (j+1)) (by omega)
    rw [show j+1+(k - (j+1))=k by omega] at this
    dsimp only at h
    omega
   ·exact q
  ·intro h
   have:=sA_mono (t:=t) k (j+1 - k) (by omega)
   rw [show k+(j+1 - k)=j+1 by omega] at this
   dsimp only
   omega))
 have n1:¬(sA t k:Int)<0:=by omega
 have n2:¬(t.length:Int)≤sA t k:=by omega
 refine best mixed fn26 ok26 (by simp) ?_
 simp -dsimp [ac26,n1,n2]
 refine call_p q23 (by simp) (by simp) ?_
 simp -dsimp
 refine call_p q67 (by simp) (by simp) ?_
 simp -dsimp
end
section
abbrev Kn:=Nat→Knd
def setE (o:List (Nat×Nat)) (b:Nat):List (Nat×Nat):=match o.getLast? with
 | some (x,_)=>o.dropLast++[(x,b)]
 | none=>[]
def pcI (kn:Kn):Nat→List (Nat×Nat)×Knd
 | 0=>([],(true,0,0))
 | k+1=>(if (kn k).1=true then (pcI kn k).1 else if kn k=(pcI kn k).2 then setE (pcI kn k).1 (k+1) else (pcI kn k).1++[(k,k+1)],kn k)
structure PcOk (kn:Kn) (k:Nat) (o:List (Nat×Nat)) (la:Knd):Prop where
 in_:∀ p∈o,p.1<p.2∧p.2≤k∧∀ i,p.1≤i→i<p.2→kn i=kn p.1∧(kn i).1=false
 nx:∀ (j:Nat) (p q:Nat×Nat),o[j]?=some p→o[j+1]?=some q→p.2≤q.1∧(p.2=q.1→kn p.1≠kn q.1)
 fl:(o.flatMap fun p=>List.range' p.1 (p.2 - p.1))=(List.range k).filter fun i=>!(kn i).1
 la_:la.1=false→∃ o' x,o=o'++[(x,k)]∧kn x=la
theorem pcI_ok (kn:Kn):∀ k,PcOk kn k (pcI kn k).1 (pcI kn k).2
 | 0=>⟨by simp [pcI],by simp [pcI],by simp [pcI],by simp [pcI]⟩
 | k+1=>by
  obtain ⟨h1,h2,h3,h4⟩:=pcI_ok kn k
  simp only [pcI]
  obtain ⟨⟨o,la⟩,e⟩:∃ x,pcI kn k=x:=⟨_,rfl⟩
  rw [e] at h1 h2 h3 h4 ⊢
  dsimp only at h1 h2 h3 h4 ⊢
  have hf:(List.range (k+1)).filter (fun i=>!(kn i).1)=(List.range k).filter (fun i=>!(kn i).1)++(if (kn k).1=true then [] else [k]):=by
   rw [List.range_succ,List.filter_append]
   cases e2:(kn k).1<;>simp [e2]
  by_cases c1:(kn k).1=true
  ·rw [if_pos c1]
   rw [if_pos c1,List.append_nil] at hf
   exact ⟨fun p hp=>⟨(h1 p hp).1,by have:=(h1 p hp).2.1;omega,(h1 p hp).2.2⟩,h2,by rw [hf];exact h3,fun q=>by rw [c1] at q;simp at q⟩
  ·have c1':(kn k).1=false:=by simpa using c1
   rw [if_neg c1]
   rw [if_neg c1] at hf
   by_cases c2:kn k=la
   ·rw [if_pos c2]
    obtain ⟨o',x,rfl,hx⟩:=h4 (by rw [←c2];exact c1')
    have hs:setE (o'++[(x,k)]) (k+1)=o'++[(x,k+1)]:=by simp [setE]
    rw [hs]
    obtain ⟨g1,g2,g3⟩:=h1 (x,k) (by simp)
    dsimp only at g1 g2 g3
    refine ⟨fun p hp=>?_,fun j p q hp hq=>?_,?_,fun _=>⟨o',x,rfl,by rw [hx,c2]⟩⟩
    ·rcases List.mem_append.1 hp with g | g
     ·have:=h1 p (by simp [g])
      exact ⟨this.1,by omega,this.2.2⟩
     ·simp only [List.mem_singleton] at g
      subst g
      refine ⟨by dsimp only;omega,Nat.le_refl _,fun i hi1 hi2=>?_⟩
      dsimp only at hi1 hi2 ⊢
      by_cases q:i<k
      ·exact g3 i hi1 q
      ·have:i=k:=by omega
       subst this
       exact ⟨by rw [hx,c2],c1'⟩
    ·have hjl:=(List.getElem?_eq_some_iff.1 hq).1
     simp only [List.length_append,List.length_singleton] at hjl
     have hp':(o'++[(x,k)])[j]?=some p:=by
      rw [List.getElem?_append_left (by omega)] at hp ⊢;exact hp
     by_cases q2:j+1<o'.length
     ·have hq':(o'++[(x,k)])[j+1]?=some q:=by
       rw [List.getElem?_append_left q2] at hq ⊢;exact hq
      exact h2 j p q hp' hq'
     ·rw [List.getElem?_append_right (by omega),show j+1 - o'.length=0 by omega] at hq
      simp at hq
      have:=h2 j p (x,k) hp' (by rw [List.getElem?_append_right (by omega),show j+1 - o'.length=0 by omega];rfl)
      rw [←hq]
      exact this
    ·rw [hf,←h3,List.flatMap_append,List.flatMap_append]
     simp only [List.flatMap_cons,List.flatMap_nil,List.append_nil,List.append_assoc]
     congr 1
     rw [show k+1 - x=(k - x)+1 by omega,List.range'_concat,show x+1*(k - x)=k by omega]
   ·rw [if_neg c2]
    refine ⟨fun p hp=>?_,fun j p q hp hq=>?_,?_,fun _=>⟨o,k,rfl,rfl⟩⟩
    ·rcases List.mem_append.1 hp with g | g
     ·have:=h1 p g
      exact ⟨this.1,by omega,this.2.2⟩
     ·simp only [List.mem_singleton] at g
      subst g
      refine ⟨by dsimp only;omega,Nat.le_refl _,fun i hi1 hi2=>?_⟩
      dsimp only at hi1 hi2 ⊢
      have:i=k:=by omega
      subst this
      exact ⟨rfl,c1'⟩
    ·have hjl:=(List.getElem?_eq_some_iff.1 hq).1
     simp only [List.length_append,List.length_singleton] at hjl
     have hp':o[j]?=some p:=by
      rw [List.getElem?_append_left (by omega)] at hp;exact hp
     by_cases q2:j+1<o.length
     ·have hq':o[j+1]?=some q:=by
       rw [List.getElem?_append_left q2] at hq;exact hq
      exact h2 j p q hp' hq'
     ·rw [List.getElem?_append_right (by omega),show j+1 - o.length=0 by omega] at hq
      simp at hq
      subst hq
      have hpm:=h1 p (List.mem_of_getElem? hp')
      refine ⟨hpm.2.1,fun e2=>?_⟩
      dsimp only at e2 ⊢
      intro e3
      by_cases q3:la.1=false
      ·obtain ⟨o',x,eo,hx⟩:=h4 q3
       have:p=(x,k):=by
        rw [eo] at hp'
        have hj:j=o'.length:=by rw [eo] at q2 hjl;simp at q2 hjl;omega
        rw [hj,List.getElem?_append_right (Nat.le_refl _),Nat.sub_self] at hp'
        simp at hp'
        exact hp'.symm
       rw [this] at e3
       exact c2 (by rw [←e3,←hx])
      ·-- the cluster before is the end of a line,or there is none
       have q4:k=0∨(kn (k - 1)).1=true:=by
        cases k with
        | zero=>exact .inl rfl
        | succ m=>
         right
         have:la=kn m:=by
          have:=congrArg Prod.snd e
          simp only [pcI] at this
          exact this.symm
         rw [Nat.add_sub_cancel,←this]
         simpa using q3
       rcases q4 with q4 | q4
       ·omega
       ·have:=(hpm.2.2 (k - 1) (by omega) (by omega)).2
        rw [q4] at this
        simp at this
    ·rw [hf,←h3,List.flatMap_append]
     simp
theorem pcF_pcI (t:List UInt8) (Fs LV:List Int):∀ k,k≤(splT t).length→pcF t Fs LV k=((pcI (kndK t Fs LV) k).1.map (fun p=>((sA t p.1:Int),(sA t p.2:Int),Fs.getD p.1 0)),(pcI (kndK t Fs LV) k).2)
 | 0,_=>rfl
 | k+1,h=>by
  have ih:=pcF_pcI t Fs LV k (by omega)
  have hg:=sA_get (t:=t) (i:=k) (by omega)
  simp only [pcF,pcI,ih,hg]
  by_cases c1:(kndK t Fs LV k).1=true
  ·rw [if_pos c1,if_pos c1]
  ·rw [if_neg c1,if_neg c1]
   by_cases c2:kndK t Fs LV k=(pcI (kndK t Fs LV) k).2
   ·rw [if_pos c2,if_pos c2]
    obtain ⟨o',x,eo,_⟩:=(pcI_ok (kndK t Fs LV) k).la_ (by rw [←c2];simpa using c1)
    rw [eo]
    simp [setTo,setE]
   ·rw [if_neg c2,if_neg c2]
    simp [kndK]
end
end Go.Abs.A30
namespace Go.Abs.A30
open Go Go.Abs Go.Proofs
set_option maxRecDepth 100000
set_option maxHeartbeats 4000000
set_option linter.unusedVariables false
def xc8e:AC:=by
 apply fun (y:AC) (_:@Eq AC (anS 33 [] [] (anF Tryz.prog 8 mu2 [] 0 0 [])) y)=>y
 conv=>lhs;reduce;dsimp
def xc8d:AC:=(fun (z0:AC)=>by
 apply fun (y:AC) (_:@Eq AC (anS 25 [⟨33,[],[],some z0⟩] [] (anF Tryz.prog 8 mu2 [] 0 0 [])) y)=>y
 conv=>lhs;reduce;dsimp) xc8e
def xc8c:AC:=(fun (z0:AC)=>by
 apply fun (y:AC) (_:@Eq AC (anS 21 [⟨25,[],[],some z0⟩] [] (anF Tryz.prog 8 mu2 [] 0 0 [])) y)=>y
 conv=>lhs;reduce;dsimp) xc8d
def ac8:AC:=(fun (z0:AC)=>by
 apply fun (y:AC) (_:@Eq AC (anD [⟨21,[],[],some z0⟩] (anF Tryz.prog 8 mu2 [] 0 0 [])) y)=>y
 conv=>lhs;reduce;dsimp) xc8c
theorem fn8:factOf Tryz.prog 8=some (ac8.strip,[.tmp 2],187):=by kernel_rfl
theorem ok8:ac8.okAll=true:=by kernel_rfl
end Go.Abs.A30
namespace Go.Abs.A30
open Go Go.Abs Go.Proofs
set_option maxRecDepth 100000
set_option linter.unusedVariables false
set_option linter.unusedSimpArgs false
attribute [local simp ↓] awp_skip awp_seq awp_cond awp_block awp_exit awp_ret awp_reg awp_draw awp_ghost awp_loop awp_rfun awpR_nil awpR_cons awpX_nil awpX_0 awpX_1 awpX_2 awpI_eq awpI_t awpI_f awpStep_eq
attribute [local simp] condL_true condL_false condL_dec evDel evV evN evS evA initFr Ghost.app Fr.var Fr.blk Fr.ff FF.val Abs.look Fr.app Fr.erase Fr.noSlot AV.noSlot AV.noSlotL Blk.noSlot Fr.spoken AV.fz AV.fzL Blk.fz binV binI shI binS unV fillA FF.parts FF.vals headO intO boundO lenV scalarEq leavesEq AV.aggc AV.cells FF.read FF.rows AV.one PV.one chunk freshB newS pickV retK evRs evRl evR resOf mkTup mkAgg allP cloOf okP_nil okX_p okX okP addN Del.noSlot Del.owners Rnd reify_p normM insM Fr.back Fr.backV Fr.setPs normV insV
attribute [local simp] renF Fr.trim Blk.trim AV.rn AV.rnL Blk.rn AV.among AV.amongL Blk.among okF retM fixS BIG initFF
attribute [local simp] FF.reify FF.reifyL PV.flat
section
set_option maxHeartbeats 1000000
attribute [local simp ↓] oneD2 oneI oneC onePa onePi oneSp onePl oneI3
attribute [local simp] ba_size
def spanN (t:List UInt8) (i:Nat):Nat×Nat:=(sA t i,sA t (i+1))
def spansN (t:List UInt8) (i0 j:Nat):List (Nat×Nat):=(List.range' i0 j).map (spanN t)
theorem spansN_succ (t:List UInt8) (i0 j:Nat):spansN t i0 (j+1)=spansN t i0 j++[spanN t (i0+j)]:=by
 simp only [spansN]
 rw [List.range'_concat,List.map_append]
 simp
theorem x8e {K:AE→Fr→Prop} (cs:List Cor) (ps:List Par) (kk:Nat) (t:List UInt8) (ht:t.length≤1000) (s:Stg) (Fs LV:List Int) (i0 i1:Nat) (h01:i0<i1) (h1:i1≤(splT t).length) (f lv:Int)
  (hFs:∀ i,i0≤i→i<i1→Fs[i]?=some f) (hLV:∀ i,i0≤i→i<i1→LV[sA t i]?=some lv) (b0 b1:Int) (P:List (Int×Int×Int)) (m:Nat) (W A:List (Nat×Nat)) (hA:A.length≤1000)
  (hK:∀ F',(Ghost.keep [3,5,7,8,9,10,11,12,13,29,30,31,75,76,77]).app F'=some ⟨[(3,.p (.bool true)),(5,.p (.sl 9 (cs.map corRow))),(7,.ptr (7,0) 4 0 0),(8,.p (.sl 1 (Fs.map intRow))),(9,.p (.sl 1 (LV.map intRow))),(10,.p (.int .i64 (sA t i1))),(11,.ptr (11,0) 2 0 0),(12,.ref (175,A.length+(i1 - i0)) 2 0 (A.length+(i1 - i0))),(13,.ref (65,W.length) 2 0 W.length),(29,.p (.sl 4 (ps.map parRow))),(30,.p (.int .i64 ps.length)),(31,.p (.int .i64 kk)),(75,.p (.sl 3 (P.map i3Row))),(76,.p (.int .i64 P.length)),(77,.p (.int .i64 m))],
   [((7,0),.box [.p (.str (ba t)),.p (.int .i64 s.size),.p (.sl 1 (s.at_.map intRow)),.p (.int .i64 s.feat)]),((11,0),.box [.p (.int .i64 f),.p (.int .i64 lv)]),((65,W.length),.sl 76 2 (W.map spRow)),((175,A.length+(i1 - i0)),.sl 76 2 ((A++spansN t i0 (i1 - i0)).map spRow))]⟩→K .normal F') :
  awp Tryz.prog xc8e K ⟨[(3,.p (.bool true)),(5,.p (.sl 9 (cs.map corRow))),(7,.ptr (7,0) 4 0 0),(8,.p (.sl 1 (Fs.map intRow))),(9,.p (.sl 1 (LV.map intRow))),(11,.ptr (11,0) 2 0 0),(12,.ref (175,A.length) 2 0 A.length),(13,.ref (65,W.length) 2 0 W.length),(17,.ptr (17,0) 3 0 0),(18,.ptr (18,0) 2 0 0),(29,.p (.sl 4 (ps.map parRow))),(30,.p (.int .i64 ps.length)),(31,.p (.int .i64 kk)),(75,.p (.sl 3 (P.map i3Row))),(76,.p (.int .i64 P.length)),(77,.p (.int .i64 m))],
   [((7,0),.box [.p (.str (ba t)),.p (.int .i64 s.size),.p (.sl 1 (s.at_.map intRow)),.p (.int .i64 s.feat)]),((11,0),.box [.p (.int .i64 b0),.p (.int .i64 b1)]),((17,0),.box [.p (.int .i64 (sA t i0)),.p (.int .i64 (sA t i1)),.p (.int .i64 f)]),((18,0),.box [.p (.int .i64 f),.p (.int .i64 lv)]),((65,W.length),.sl 76 2 (W.map spRow)),((175,A.length),.sl 76 2 (A.map spRow))]⟩:=by
 have hsl:=splT_len t
 have hAB:=sA_mono (t:=t) i0 (i1 - i0) (by omega)
 rw [show i0+(i1 - i0)=i1 by omega] at hAB
 have hBl:sA t i1≤t.length:=by
  have:=sA_lt (t:=t) (i:=i1 - 1) (by omega)
  rw [show i1 - 1+1=i1 by omega] at this
  omega
 have hcl:=splT_cut h01 h1
 have hcut:(ba t).extract (sA t i0) (sA t i1)=ba (cutT t (sA t i0) (sA t i1)):=ba_cut t (sA t i0) (sA t i1) hBl
 have q23:=b23 (cutT t (sA t i0) (sA t i1)) (by rw [cutT_len hBl];omega)
 obtain ⟨d,ed⟩:∃ d,i1 - i0=d:=⟨_,rfl⟩
 rw [ed] at hK hcl
 have hCl:(splT (cutT t (sA t i0) (sA t i1))).length=d:=by rw [hcl];simp
 have hCg:∀ j (hj:j<(splT (cutT t (sA t i0) (sA t i1))).length),(splT (cutT t (sA t i0) (sA t i1)))[j]=(sA t (i0+j) - sA t i0,sA t (i0+j+1) - sA t i0):=by
  intro j hj
  have:=congrArg (fun l=>l[j]?) hcl
  rw [List.getElem?_eq_getElem hj] at this
  simp only [List.getElem?_map] at this
  rw [List.getElem?_range (by omega)] at this
  simpa using this
 have hle:(sA t i0:Int)≤sA t i1:=by omega
 have hle2:sA t i0≤sA t i1:=by omega
 obtain ⟨C,eC⟩:∃ C,splT (cutT t (sA t i0) (sA t i1))=C:=⟨_,rfl⟩
 simp only [eC] at q23 hCl hCg
 obtain ⟨U,eU⟩:∃ U,cutT t (sA t i0) (sA t i1)=U:=⟨_,rfl⟩
 rw [eU] at hcut q23
 simp -dsimp [xc8e,hle2,hBl,hcut]
 refine call_p q23 (by simp) (by simp) ?_
 simp -dsimp [hCl]
 refine loopC d (fun j=>⟨[(3,.p (.bool true)),(5,.p (.sl 9 (cs.map corRow))),(7,.ptr (7,0) 4 0 0),(8,.p (.sl 1 (Fs.map intRow))),(9,.p (.sl 1 (LV.map intRow))),(11,.ptr (11,0) 2 0 0),(12,.ref (175,A.length+j) 2 0 (A.length+j)),(13,.ref (65,W.length) 2 0 W.length),(17,.ptr (17,0) 3 0 0),(18,.ptr (18,0) 2 0 0),(29,.p (.sl 4 (ps.map parRow))),(30,.p (.int .i64 ps.length)),(31,.p (.int .i64 kk)),(75,.p (.sl 3 (P.map i3Row))),(76,.p (.int .i64 P.length)),(77,.p (.int .i64 m)),(124,.p (.sl 2 (C.map spRow))),(125,.p (.int .i64 d)),(126,.p (.int .i64 j))],
   [((7,0),.box [.p (.str (ba t)),.p (.int .i64 s.size),.p (.sl 1 (s.at_.map intRow)),.p (.int .i64 s.feat)]),((11,0),.box [.p (.int .i64 b0),.p (.int .i64 b1)]),((17,0),.box [.p (.int .i64 (sA t i0)),.p (.int .i64 (sA t i1)),.p (.int .i64 f)]),((18,0),.box [.p (.int .i64 f),.p (.int .i64 lv)]),((65,W.length),.sl 76 2 (W.map spRow)),((175,A.length+j),.sl 76 2 ((A++spansN t i0 j).map spRow))]⟩) (fun _=>True) (fun j hj _=>?_) trivial (by simp [spansN])
 have hSl:(A++spansN t i0 j).length=A.length+j:=by simp [spansN]
 have hss:=spansN_succ t i0 j
 have hs1:A++spansN t i0 (j+1)=A++spansN t i0 j++[spanN t (i0+j)]:=by rw [hss,List.append_assoc]
 by_cases h:j<d
 ·have hjC:j<C.length:=by omega
  have hc:=hCg j hjC
  have hlt:=sA_lt (t:=t) (i:=i0+j) (by omega)
  have hmo:=sA_mono (t:=t) i0 j (by omega)
  have q26:=b26 t (by omega) (i0+j) (by omega)
  have hf:=hFs (i0+j) (by omega) (by omega)
  have hv:=hLV (i0+j) (by omega) (by omega)
  obtain ⟨q,eq⟩:∃ q,i0+j=q:=⟨_,rfl⟩
  rw [eq] at hc hlt hmo q26 hf hv hs1
  obtain ⟨hfl,hfe⟩:=List.getElem?_eq_some_iff.1 hf
  obtain ⟨hvl,hve⟩:=List.getElem?_eq_some_iff.1 hv
  simp only [spanN] at hs1
  obtain ⟨a,ea⟩:∃ a,sA t q=a:=⟨_,rfl⟩
  obtain ⟨b,eb⟩:∃ b,sA t (q+1)=b:=⟨_,rfl⟩
  obtain ⟨z,ez⟩:∃ z,sA t i0=z:=⟨_,rfl⟩
  simp only [ea,eb,ez] at hc hlt hmo q26 hvl hve hs1
  rw [ez,hs1]
  obtain ⟨S,eS⟩:∃ S,A++spansN t i0 j=S:=⟨_,rfl⟩
  rw [eS] at hSl ⊢
  obtain ⟨e,ee⟩:∃ e,a - z=e:=⟨_,rfl⟩
  obtain ⟨e2,ee2⟩:∃ e,b - z=e:=⟨_,rfl⟩
  rw [ee,ee2] at hc
  have c1:(e:Int)+z=a:=by omega
  have c2:(e2:Int)+z=b:=by omega
  have wa:R (a:Int):=⟨by omega,by omega⟩
  have wb':R (b:Int):=⟨by omega,by omega⟩
  have wj:R ((j:Int)+1):=⟨by omega,by omega⟩
  have n1:¬(q:Int)<0:=by omega
  have m1:A.length+j+1≤maxLen:=by unfold maxLen;omega
  have m2:(A.length+j+1)*16≤140737488355328:=by omega
  have hall:((S.map spRow).all fun r=>r.all PV.one)=true:=oneSp _
  simp -dsimp [h,hjC,hc,spRow,c1,wr wa]
  refine call_p q26 (by simp) (by simp) ?_
  simp -dsimp [n1,hfl,hfe,hvl,hve,intRow,h,hjC,hc,spRow,c1,c2,wr wa,wr wb',wr wj,m1,m2,hSl,hall,List.range,List.range.loop,-List.all_eq_true]
  omega
 ·have:j=d:=by omega
  subst this
  simp -dsimp [h]
  refine hK _ ?_
  simp
theorem x8d {K:AE→Fr→Prop} (cs:List Cor) (ps:List Par) (kk:Nat) (t:List UInt8) (ht:t.length≤1000) (s:Stg) (Fs LV:List Int) (i0 i1:Nat) (h01:i0<i1) (h1:i1≤(splT t).length) (f lv:Int)
  (hFs:∀ i,i0≤i→i<i1→Fs[i]?=some f) (hLV:∀ i,i0≤i→i<i1→LV[sA t i]?=some lv) (at_:Nat) (hat:at_≤sA t i0) (b0 b1:Int) (hb:sA t i0=at_→¬(f=b0∧lv=b1)) (P:List (Int×Int×Int)) (m:Nat) (hm:m≤1000) (hP:P[m]?=some ((sA t i0:Int),(sA t i1:Int),f)) (W A:List (Nat×Nat)) (hA:A.length≤1000)
  (hK:∀ F',(Ghost.keep [3,5,7,8,9,10,11,12,13,29,30,31,75,76,77]).app F'=some ⟨[(3,.p (.bool true)),(5,.p (.sl 9 (cs.map corRow))),(7,.ptr (7,0) 4 0 0),(8,.p (.sl 1 (Fs.map intRow))),(9,.p (.sl 1 (LV.map intRow))),(10,.p (.int .i64 (sA t i1))),(11,.ptr (11,0) 2 0 0),(12,.ref (175,A.length+(i1 - i0)) 2 0 (A.length+(i1 - i0))),(13,.ref (65,W.length) 2 0 W.length),(29,.p (.sl 4 (ps.map parRow))),(30,.p (.int .i64 ps.length)),(31,.p (.int .i64 kk)),(75,.p (.sl 3 (P.map i3Row))),(76,.p (.int .i64 P.length)),(77,.p (.int .i64 ((m:Int)+1)))],
   [((7,0),.box [.p (.str (ba t)),.p (.int .i64 s.size),.p (.sl 1 (s.at_.map intRow)),.p (.int .i64 s.feat)]),((11,0),.box [.p (.int .i64 f),.p (.int .i64 lv)]),((65,W.length),.sl 76 2 (W.map spRow)),((175,A.length+(i1 - i0)),.sl 76 2 ((A++spansN t i0 (i1 - i0)).map spRow))]⟩→K .normal F') :
  awp Tryz.prog xc8d K ⟨[(3,.p (.bool true)),(5,.p (.sl 9 (cs.map corRow))),(7,.ptr (7,0) 4 0 0),(8,.p (.sl 1 (Fs.map intRow))),(9,.p (.sl 1 (LV.map intRow))),(10,.p (.int .i64 at_)),(11,.ptr (11,0) 2 0 0),(12,.ref (175,A.length) 2 0 A.length),(13,.ref (65,W.length) 2 0 W.length),(29,.p (.sl 4 (ps.map parRow))),(30,.p (.int .i64 ps.length)),(31,.p (.int .i64 kk)),(75,.p (.sl 3 (P.map i3Row))),(76,.p (.int .i64 P.length)),(77,.p (.int .i64 m))],
   [((7,0),.box [.p (.str (ba t)),.p (.int .i64 s.size),.p (.sl 1 (s.at_.map intRow)),.p (.int .i64 s.feat)]),((11,0),.box [.p (.int .i64 b0),.p (.int .i64 b1)]),((65,W.length),.sl 76 2 (W.map spRow)),((175,A.length),.sl 76 2 (A.map spRow))]⟩:=by
 have hAB:=sA_mono (t:=t) i0 (i1 - i0) (by omega)
 rw [show i0+(i1 - i0)=i1 by omega] at hAB
 have hBl:sA t i1≤t.length:=by
  have:=sA_lt (t:=t) (i:=i1 - 1) (by omega)
  rw [show i1 - 1+1=i1 by omega] at this
  omega
 obtain ⟨hml,hme⟩:=List.getElem?_eq_some_iff.1 hP
 obtain ⟨hvl,hve⟩:=List.getElem?_eq_some_iff.1 (hLV i0 (Nat.le_refl _) h01)
 obtain ⟨z,ez⟩:∃ z,sA t i0=z:=⟨_,rfl⟩
 obtain ⟨y,ey⟩:∃ y,sA t i1=y:=⟨_,rfl⟩
 rw [ez] at hat hb
 simp only [ez,ey] at hme hAB hBl hvl hve
 have n1:¬z<at_:=by omega
 have n2:¬y≤z:=by omega
 have n3:¬t.length<y:=by omega
 have wm:R ((m:Int)+1):=⟨by omega,by omega⟩
 by_cases c1:z=at_
 ·have hb2:=hb c1
  subst c1
  by_cases c2:f=b0
  ·have c3:¬lv=b1:=fun q=>hb2 ⟨c2,q⟩
   subst c2
   simp -dsimp [xc8d,hml,hme,i3Row,n2,n3,hvl,hve,intRow,c3,↓ awpC_of xc8e]
   refine awpC_in ?_
   rw [←ez,←ey]
   refine x8e cs ps kk t ht s Fs LV i0 i1 h01 h1 f lv hFs hLV f b1 P m W A hA ?_
   intro F' e
   dsimp only
   rw [awp_ghost,e]
   dsimp only
   simp -dsimp [wr wm]
   refine hK _ ?_
   simp
  ·simp -dsimp [xc8d,hml,hme,i3Row,n2,n3,hvl,hve,intRow,c2,↓ awpC_of xc8e]
   refine awpC_in ?_
   rw [←ez,←ey]
   refine x8e cs ps kk t ht s Fs LV i0 i1 h01 h1 f lv hFs hLV b0 b1 P m W A hA ?_
   intro F' e
   dsimp only
   rw [awp_ghost,e]
   dsimp only
   simp -dsimp [wr wm]
   refine hK _ ?_
   simp
 ·have c1':¬(z:Int)=at_:=by omega
  simp -dsimp [xc8d,hml,hme,i3Row,n1,n2,n3,hvl,hve,intRow,c1,c1',↓ awpC_of xc8e]
  refine awpC_in ?_
  rw [←ez,←ey]
  refine x8e cs ps kk t ht s Fs LV i0 i1 h01 h1 f lv hFs hLV b0 b1 P m W A hA ?_
  intro F' e
  dsimp only
  rw [awp_ghost,e]
  dsimp only
  simp -dsimp [wr wm]
  refine hK _ ?_
  simp
end
section
set_option maxHeartbeats 1000000
attribute [local simp ↓] oneD2 oneI oneC onePa onePi oneSp onePl oneI3
attribute [local simp] ba_size wb ba_at w1
def atM (t:List UInt8) (o:List (Nat×Nat)):Nat→Nat
 | 0=>0
 | m+1=>sA t (o.getD m (0,0)).2
def bM (kn:Kn) (o:List (Nat×Nat)):Nat→Int×Int
 | 0=>(-2,0)
 | m+1=>(kn (o.getD m (0,0)).1).2
def flM (t:List UInt8) (o:List (Nat×Nat)) (m:Nat):List (Nat×Nat):=((o.take m).flatMap fun p=>List.range' p.1 (p.2 - p.1)).map (spanN t)
theorem flM_succ (t:List UInt8) (o:List (Nat×Nat)) (m i0 i1:Nat) (h:o[m]?=some (i0,i1)):flM t o (m+1)=flM t o m++spansN t i0 (i1 - i0):=by
 simp only [flM,spansN]
 rw [List.take_add_one,h]
 simp
theorem flM_len (t:List UInt8) (o:List (Nat×Nat)) (m:Nat):(flM t o m).length≤(flM t o o.length).length:=by
 simp only [flM,List.length_map,List.take_length]
 have:o.flatMap (fun p=>List.range' p.1 (p.2 - p.1))=(o.take m).flatMap (fun p=>List.range' p.1 (p.2 - p.1))++(o.drop m).flatMap (fun p=>List.range' p.1 (p.2 - p.1)):=by
  rw [←List.flatMap_append,List.take_append_drop]
 rw [this,List.length_append]
 omega
theorem fl_ge:∀ o:List (Nat×Nat),(∀ p∈o,p.1<p.2)→o.length≤(o.flatMap fun p=>List.range' p.1 (p.2 - p.1)).length
 | [],_=>by simp
 | p :: o,h=>by
  have a1:=h p (by simp)
  have a2:=fl_ge o fun q hq=>h q (by simp [hq])
  simp only [List.length_cons,List.flatMap_cons,List.length_append,List.length_range']
  omega
theorem sA_le {t:List UInt8} {i k:Nat} (h:i≤k) (hk:k≤(splT t).length):sA t i≤sA t k:=by
 have:=sA_mono (t:=t) i (k - i) (by omega)
 rw [show i+(k - i)=k by omega] at this
 omega
theorem fontsN_ge (cs:List Cor) (t:List UInt8):∀ x∈fontsN cs t,-1≤x:=by
 intro x hx
 obtain ⟨y,_,rfl⟩:=List.mem_map.1 hx
 unfold fontN
 split
 ·omega
 ·unfold idxS
  split<;>omega
theorem x8c {K:AE→Fr→Prop} (cs:List Cor) (hcs:CorsOk2 cs) (ps:List Par) (kk:Nat) (t:List UInt8) (ht:t.length≤12) (s:Stg) (W:List (Nat×Nat)) (hW:W=((List.range (splT t).length).filter fun i=>!(kndK t (fontsN cs t) (levT t) i).1).map (spanN t))
  (hK:∀ F',(Ghost.keep [3,5,29,30,31]).app F'=some ⟨[(3,.p (.bool true)),(5,.p (.sl 9 (cs.map corRow))),(29,.p (.sl 4 (ps.map parRow))),(30,.p (.int .i64 ps.length)),(31,.p (.int .i64 kk))],[]⟩→K .normal F') :
  awp Tryz.prog xc8c K ⟨[(3,.p (.bool true)),(5,.p (.sl 9 (cs.map corRow))),(7,.ptr (7,0) 4 0 0),(8,.p (.sl 1 ((fontsN cs t).map intRow))),(9,.p (.sl 1 ((levT t).map intRow))),(10,.p (.int .i64 0)),(11,.ptr (11,0) 2 0 0),(12,.ref (175,0) 2 0 0),(13,.ref (65,W.length) 2 0 W.length),(29,.p (.sl 4 (ps.map parRow))),(30,.p (.int .i64 ps.length)),(31,.p (.int .i64 kk))],
   [((7,0),.box [.p (.str (ba t)),.p (.int .i64 s.size),.p (.sl 1 (s.at_.map intRow)),.p (.int .i64 s.feat)]),((11,0),.box [.p (.int .i64 (-2)),.p (.int .i64 0)]),((65,W.length),.sl 76 2 (W.map spRow)),((175,0),.sl 76 2 [])]⟩:=by
 have hsl:=splT_len t
 have q12:=b12 cs hcs t (by omega)
 have hFl:(fontsN cs t).length=(splT t).length:=by simp [fontsN]
 have hLl:=levT_len t
 have hFg:=fontsN_ge cs t
 have hok:=pcI_ok (kndK t (fontsN cs t) (levT t)) (splT t).length
 have hP:piecesN cs t=(pcI (kndK t (fontsN cs t) (levT t)) (splT t).length).1.map (fun p=>((sA t p.1:Int),(sA t p.2:Int),(fontsN cs t).getD p.1 0)):=by
  unfold piecesN
  rw [pcF_pcI t _ _ _ (Nat.le_refl _)]
 rw [hP] at q12
 obtain ⟨Fs,eF⟩:∃ Fs,fontsN cs t=Fs:=⟨_,rfl⟩
 obtain ⟨LV,eL⟩:∃ LV,levT t=LV:=⟨_,rfl⟩
 simp only [eF,eL] at hFl hLl hFg hok q12 hW ⊢
 have hkn:∀ i,kndK t Fs LV i=(decide (clsT t (baseT t ((splT t).getD i (0,0)).1 ((splT t).getD i (0,0)).2)=1),Fs.getD i 0,LV.getD ((splT t).getD i (0,0)).1 0):=fun i=>rfl
 obtain ⟨kn,ekn⟩:∃ kn,kndK t Fs LV=kn:=⟨_,rfl⟩
 simp only [ekn] at hok q12 hW hkn
 obtain ⟨⟨o,la⟩,eo⟩:∃ x,pcI kn (splT t).length=x:=⟨_,rfl⟩
 rw [eo] at hok q12
 obtain ⟨k1,k2,k3,_⟩:=hok
 dsimp only at k1 k2 k3 q12
 have hWf:flM t o o.length=W:=by rw [hW];simp only [flM,List.take_length];rw [k3]
 have hWl:W.length≤1000:=by
  rw [hW,List.length_map]
  have:=List.length_filter_le (fun i=>!(kn i).1) (List.range (splT t).length)
  rw [List.length_range] at this
  omega
 have q27:=b27 W (by omega)
 have hol:o.length≤1000:=by
  have e:=congrArg List.length k3
  have h2:=List.length_filter_le (fun i=>!(kn i).1) (List.range (splT t).length)
  rw [List.length_range] at h2
  have h3:=fl_ge o fun p hp=>(k1 p hp).1
  omega
 obtain ⟨P,eP⟩:∃ P,o.map (fun p=>((sA t p.1:Int),(sA t p.2:Int),Fs.getD p.1 0))=P:=⟨_,rfl⟩
 have hPl:P.length=o.length:=by rw [←eP];simp
 rw [eP] at q12
 simp -dsimp [xc8c,↓ awpC_of xc8d]
 refine call_p q12 (by simp) (by simp) ?_
 simp -dsimp [↓ awpC_of xc8d]
 refine loopC o.length (fun m=>⟨[(3,.p (.bool true)),(5,.p (.sl 9 (cs.map corRow))),(7,.ptr (7,0) 4 0 0),(8,.p (.sl 1 (Fs.map intRow))),(9,.p (.sl 1 (LV.map intRow))),(10,.p (.int .i64 (atM t o m))),(11,.ptr (11,0) 2 0 0),(12,.ref (175,(flM t o m).length) 2 0 (flM t o m).length),(13,.ref (65,W.length) 2 0 W.length),(29,.p (.sl 4 (ps.map parRow))),(30,.p (.int .i64 ps.length)),(31,.p (.int .i64 kk)),(75,.p (.sl 3 (P.map i3Row))),(76,.p (.int .i64 P.length)),(77,.p (.int .i64 m))],
   [((7,0),.box [.p (.str (ba t)),.p (.int .i64 s.size),.p (.sl 1 (s.at_.map intRow)),.p (.int .i64 s.feat)]),((11,0),.box [.p (.int .i64 (bM kn o m).1),.p (.int .i64 (bM kn o m).2)]),((65,W.length),.sl 76 2 (W.map spRow)),((175,(flM t o m).length),.sl 76 2 ((flM t o m).map spRow))]⟩) (fun _=>True) (fun m hm _=>?_) trivial (by simp [atM,bM,flM])
 by_cases h:m<o.length
 ·obtain ⟨⟨i0,i1⟩,ei⟩:∃ p,o[m]?=some p:=⟨_,List.getElem?_eq_getElem h⟩
  obtain ⟨g1,g2,g3⟩:=k1 (i0,i1) (List.mem_of_getElem? ei)
  dsimp only at g1 g2 g3
  have hg:∀ i,i<(splT t).length→(splT t).getD i (0,0)=(sA t i,sA t (i+1)):=fun i hi=>sA_get hi
  have hf2:∀ i,i0≤i→i<i1→Fs[i]?=some (kn i0).2.1:=by
   intro i h1 h2
   have e:=(g3 i h1 h2).1
   have e2:(kn i).2.1=Fs.getD i 0:=by rw [hkn]
   rw [←e,e2,List.getD_eq_getElem?_getD,List.getElem?_eq_getElem (by omega:i<Fs.length)]
   rfl
  have hv2:∀ i,i0≤i→i<i1→LV[sA t i]?=some (kn i0).2.2:=by
   intro i h1 h2
   have e:=(g3 i h1 h2).1
   have:=sA_lt (t:=t) (i:=i) (by omega)
   have e2:(kn i).2.2=LV.getD (sA t i) 0:=by rw [hkn,hg i (by omega)]
   rw [←e,e2,List.getD_eq_getElem?_getD,List.getElem?_eq_getElem (by omega:sA t i<LV.length)]
   rfl
  have hPm:P[m]?=some ((sA t i0:Int),(sA t i1:Int),(kn i0).2.1):=by
   rw [←eP,List.getElem?_map,ei,hkn]
   rfl
  have hat:atM t o m≤sA t i0∧(sA t i0=atM t o m→¬((kn i0).2.1=(bM kn o m).1∧(kn i0).2.2=(bM kn o m).2)):=by
   cases m with
   | zero=>
    refine ⟨by simp [atM],fun _ q=>?_⟩
    have h1:=hf2 i0 (Nat.le_refl _) g1
    have:=hFg _ (List.mem_of_getElem? h1)
    simp only [bM] at q
    omega
   | succ m=>
    obtain ⟨⟨j0,j1⟩,ej⟩:∃ p,o[m]?=some p:=⟨_,List.getElem?_eq_getElem (by omega)⟩
    have ejd:o.getD m (0,0)=(j0,j1):=by rw [List.getD_eq_getElem?_getD,ej];rfl
    obtain ⟨l1,l2⟩:=k2 m (j0,j1) (i0,i1) ej ei
    dsimp only at l1 l2
    obtain ⟨f1,f2,f3⟩:=k1 (j0,j1) (List.mem_of_getElem? ej)
    dsimp only at f1 f2 f3
    simp only [atM,bM,ejd]
    refine ⟨sA_le l1 (by omega),fun e q=>?_⟩
    have:j1=i0:=by
     rcases Nat.lt_or_ge j1 i0 with q2 | q2
     ·have:=sA_mono (t:=t) j1 (i0 - j1) (by omega)
      rw [show j1+(i0 - j1)=i0 by omega] at this
      omega
     ·omega
    refine l2 this ?_
    have e1:=(f3 j0 (Nat.le_refl _) f1).2
    have e2:=(g3 i0 (Nat.le_refl _) g1).2
    exact Prod.ext (by rw [e1,e2]) (Prod.ext q.1.symm q.2.symm)
  have hfs:=flM_succ t o m i0 i1 ei
  have hfl:(flM t o m).length≤1000:=by have:=flM_len t o m;rw [hWf] at this;omega
  have hsl2:(spansN t i0 (i1 - i0)).length=i1 - i0:=by simp [spansN]
  have eat:atM t o (m+1)=sA t i1:=by simp only [atM];rw [List.getD_eq_getElem?_getD,ei];rfl
  have ebm:bM kn o (m+1)=(kn i0).2:=by simp only [bM];rw [List.getD_eq_getElem?_getD,ei];rfl
  rw [hfs,eat,ebm]
  have hmP:m<P.length:=by omega
  simp -dsimp [hmP,↓ awpC_of xc8d]
  refine awpC_in ?_
  refine x8d cs ps kk t (by omega) s Fs LV i0 i1 g1 g2 (kn i0).2.1 (kn i0).2.2 hf2 hv2 (atM t o m) hat.1 (bM kn o m).1 (bM kn o m).2 hat.2 P m (by omega) hPm W (flM t o m) hfl ?_
  intro F' e
  refine ⟨h,trivial,?_⟩
  rw [e]
  simp [hsl2]
 ·have:m=o.length:=by omega
  subst this
  rw [hWf]
  have hmP:¬o.length<P.length:=by omega
  simp -dsimp [hmP]
  have t1:List.take W.length (W.map spRow)=W.map spRow:=List.take_of_length_le (by simp)
  refine call_f q27 (by simp [t1]) (by simp) (by simp) ?_
  simp -dsimp
  refine hK _ ?_
  simp
theorem law8 (F:List (List (List Int))) (D:List (List Int)) (hF:∀ x∈F,x.length≤9223372036854775807∧∀ y∈x,∀ n∈y,R n) (hD:∀ x∈D,x.length≤9223372036854775807∧∀ n∈x,R n) :
  Best Tryz.prog 8 [.agg [.sl 1 (F.map lllRow),.sl 1 (D.map llRow)]] (.p (.bool true)):=by
 obtain ⟨cs,w,ps,⟨hc,hco,hw1,hw2,hps⟩,q10⟩:=b10 F D hF hD
 have hcs:CorsOk2 cs:=⟨by omega,fun c h=>(hco c h).fine⟩
 have h3:=hps.1
 simp only [docRow] at q10
 refine best mixed fn8 ok8 (by simp) ?_
 simp -dsimp [ac8]
 refine call_p b9 (by simp) (by simp) ?_
 simp -dsimp
 refine call_p q10 (by simp) (by simp) ?_
 simp -dsimp
 refine loopC ps.length (fun k=>⟨[(3,.p (.bool true)),(5,.p (.sl 9 (cs.map corRow))),(29,.p (.sl 4 (ps.map parRow))),(30,.p (.int .i64 ps.length)),(31,.p (.int .i64 k))],[]⟩) (fun _=>True) (fun k hk _=>?_) trivial (by simp)
 by_cases h:k<ps.length
 ·obtain ⟨⟨t,s⟩,ex⟩:∃ x,ps[k]=x:=⟨_,rfl⟩
  have ht:=(hps.2 ⟨t,s⟩ (by rw [←ex];simp)).1
  dsimp only at ht
  have wk:R ((k:Int)+1):=⟨by omega,by omega⟩
  have q21:=b21 cs hcs.one t (by omega)
  have q22:=b22 t (by omega)
  have q23:=b23 t (by omega)
  have hsl:=splT_len t
  have hFl:(fontsN cs t).length=(splT t).length:=by simp [fontsN]
  have hx:=fun K W hW hK=>@x8c K cs hcs ps k t ht s W hW hK
  have hFe:∀ i (h:i<(fontsN cs t).length),clsT t (baseT t (sA t i) (sA t (i+1)))=1→(fontsN cs t)[i]=-1:=by
   intro i hi e
   have hi2:i<(splT t).length:=by omega
   have hg:=sA_get hi2
   rw [List.getD_eq_getElem?_getD,List.getElem?_eq_getElem hi2,Option.getD_some] at hg
   simp only [fontsN,List.getElem_map,hg,fontN]
   rw [if_pos e]
  obtain ⟨Fs,eF⟩:∃ Fs,fontsN cs t=Fs:=⟨_,rfl⟩
  obtain ⟨LV,eL⟩:∃ LV,levT t=LV:=⟨_,rfl⟩
  simp only [eF,eL] at q21 q22 hFl hx hFe
  have hkn:∀ i,i<(splT t).length→(kndK t Fs LV i).1=decide (clsT t (baseT t (sA t i) (sA t (i+1)))=1):=fun i hi=>by
   simp only [kndK,sA_get hi]
  obtain ⟨kn,ekn⟩:∃ kn,kndK t Fs LV=kn:=⟨_,rfl⟩
  simp only [ekn] at hx hkn
  simp -dsimp [h,ex,parRow]
  refine call_p q21 (by simp) (by simp) ?_
  simp -dsimp
  refine call_p q22 (by simp) (by simp) ?_
  simp -dsimp
  refine call_p q23 (by simp) (by simp) ?_
  simp -dsimp [↓ awpC_of xc8c]
  refine loopC (splT t).length (fun j=>⟨[(3,.p (.bool true)),(5,.p (.sl 9 (cs.map corRow))),(7,.ptr (7,0) 4 0 0),(8,.p (.sl 1 (Fs.map intRow))),(9,.p (.sl 1 (LV.map intRow))),(10,.p (.int .i64 0)),(11,.ptr (11,0) 2 0 0),(12,.ref (175,0) 2 0 0),(13,.ref (65,(((List.range j).filter fun i=>!(kn i).1).map (spanN t)).length) 2 0 (((List.range j).filter fun i=>!(kn i).1).map (spanN t)).length),(29,.p (.sl 4 (ps.map parRow))),(30,.p (.int .i64 ps.length)),(31,.p (.int .i64 k)),(45,.p (.sl 2 ((splT t).map spRow))),(46,.p (.int .i64 (splT t).length)),(47,.p (.int .i64 j))],
   [((7,0),.box [.p (.str (ba t)),.p (.int .i64 s.size),.p (.sl 1 (s.at_.map intRow)),.p (.int .i64 s.feat)]),((11,0),.box [.p (.int .i64 (-2)),.p (.int .i64 0)]),((65,(((List.range j).filter fun i=>!(kn i).1).map (spanN t)).length),.sl 76 2 ((((List.range j).filter fun i=>!(kn i).1).map (spanN t)).map spRow)),((175,0),.sl 76 2 [])]⟩) (fun _=>True) (fun j hj _=>?_) trivial (by simp)
  by_cases hj2:j<(splT t).length
  ·have hg:=sA_get hj2
   rw [List.getD_eq_getElem?_getD,List.getElem?_eq_getElem hj2,Option.getD_some] at hg
   have hlt:=sA_lt hj2
   have hk2:=hkn j hj2
   have hjF:j<Fs.length:=by omega
   have hfe:=hFe j hjF
   have hrs:(List.range (j+1)).filter (fun i=>!(kn i).1)=(List.range j).filter (fun i=>!(kn i).1)++(if (kn j).1=true then [] else [j]):=by
    rw [List.range_succ,List.filter_append]
    cases e2:(kn j).1<;>simp [e2]
   have hLlen:(((List.range j).filter fun i=>!(kn i).1).map (spanN t)).length≤12:=by
    have:=List.length_filter_le (fun i=>!(kn i).1) (List.range j)
    rw [List.length_range] at this
    rw [List.length_map]
    omega
   rw [hrs]
   obtain ⟨a,ea⟩:∃ a,sA t j=a:=⟨_,rfl⟩
   obtain ⟨b,eb⟩:∃ b,sA t (j+1)=b:=⟨_,rfl⟩
   have esp:spanN t j=(a,b):=by simp only [spanN,ea,eb]
   simp only [ea,eb] at hg hlt hk2 hfe
   have q25:=b25 t a b hlt.1 hlt.2.1 (by omega)
   have hbl:=baseT_le hlt.1 (t:=t)
   obtain ⟨z,ez⟩:∃ z,baseT t a b=z:=⟨_,rfl⟩
   rw [ez] at q25 hbl hk2 hfe
   have q24:=b24 (cT t z)
   have hcl:clsN (cT t z)=clsT t z:=rfl
   rw [hcl] at q24
   have hzt:z<t.length:=by omega
   have hcT:((bT t z).toNat:Int)=cT t z:=rfl
   have wcT:IntKind.i64.wrap (cT t z)=cT t z:=wr ⟨by unfold cT;omega,by unfold cT;have:=(bT t z).toNat_lt;omega⟩
   have wj:R ((j:Int)+1):=⟨by omega,by omega⟩
   by_cases he:clsT t z=1
   ·have c1:(kn j).1=true:=by rw [hk2];simpa using he
    have hf1:=hfe he
    rw [if_pos c1,List.append_nil]
    obtain ⟨Y,eY⟩:∃ Y,((List.range j).filter fun i=>!(kn i).1).map (spanN t)=Y:=⟨_,rfl⟩
    rw [eY]
    simp -dsimp [hj2,hg,spRow]
    refine call_p q25 (by simp [spRow]) (by simp) ?_
    simp -dsimp [hzt,hcT,wcT]
    refine call_p q24 (by simp) (by simp) ?_
    simp -dsimp [he,hjF,hf1,intRow,wr wj,hj2]
   ·have c1:¬(kn j).1=true:=by rw [hk2];simpa using he
    rw [if_neg c1,List.map_append]
    obtain ⟨Y,eY⟩:∃ Y,((List.range j).filter fun i=>!(kn i).1).map (spanN t)=Y:=⟨_,rfl⟩
    rw [eY] at hLlen ⊢
    have m1:Y.length+1≤maxLen:=by unfold maxLen;omega
    have m2:(Y.length+1)*16≤140737488355328:=by omega
    have hall:((Y.map spRow).all fun r=>r.all PV.one)=true:=oneSp _
    simp -dsimp [hj2,hg,spRow]
    refine call_p q25 (by simp [spRow]) (by simp) ?_
    simp -dsimp [hzt,hcT,wcT]
    refine call_p q24 (by simp) (by simp) ?_
    simp -dsimp [he,wr wj,hj2,esp,spRow,m1,m2,hall,List.range,List.range.loop,-List.all_eq_true]
  ·have:j=(splT t).length:=by omega
   subst this
   have hx2:=fun K W hW=>hx K W hW
   obtain ⟨W,eW⟩:∃ W,((List.range (splT t).length).filter fun i=>!(kn i).1).map (spanN t)=W:=⟨_,rfl⟩
   rw [eW]
   simp -dsimp [↓ awpC_of xc8c]
   refine awpC_in ?_
   refine hx _ W eW.symm ?_
   intro F' e
   dsimp only
   rw [awp_ghost,e]
   dsimp only
   simp -dsimp [wr wk,h]
 ·have:k=ps.length:=by omega
  subst this
  simp -dsimp [h]
end
end Go.Abs.A30
namespace Go.Proofs.YtlkbeomimbohlaaGreat
open Go Go.Abs Go.ChangeShapes Go.WideShapes Go.RowKit Go.Proofs Go.Abs.A30
set_option maxRecDepth 100000
set_option linter.unusedVariables false
theorem pagePieces_lifted (os:Os) (started:os.Started) (H:Type) (enc:TypeId×Value→H) :
  ReturnsInHanded {} Tryz.checked os 8 .any (ChangeSpec.pre6 enc Tryz.prog Tryz.f8 Rows.pagePiecesSpec [] false)
   (Rows.pagePiecesSpec.post enc Tryz.prog Tryz.f8 false true false false):=by
 refine returnsInHanded_of_change (C:=Tryz.checked) own started (by kernel_rfl) Tryz.func8
  (ChangeSpec.witness6_at (enc:=enc) (C:=Tryz.checked) (os:=os) false (restWorld os) #[.agg #[.slice none 0 0,.slice none 0 0]] 8 rfl (by kernel_rfl) (by kernel_rfl) (by kernel_rfl) (by kernel_rfl) (by kernel_rfl)) ?_
 intro W base args ds gs before hval hW _ _
 have hW':=hW
 obtain ⟨p,q,hA,hV,-,-,-⟩:=hW'
 have hA:DataW.TrodAll enc Tryz.prog W 0 (fun _=>true) true Tryz.f8.params.toList args.toList ds p:=hA
 rw [Tryz.params8] at hA
 have hval:∀ (j:Nat) t v,Tryz.f8.params[j]?=some t→args[j]?=some v→Value.okWide Tryz.prog W .any base t v:=hval
 rw [Tryz.params8] at hval
 obtain ⟨v0,d0,rfl,rfl,h0⟩:=trodAll_one hA
 obtain ⟨a0,o0,r0⟩:=Rd.argT Tryz.underlying25 rd_case (hval 0 25 v0 rfl rfl) h0
 exact law_step rfl rfl hW rfl (by decide +kernel) (law8 a0.1 a0.2 o0.1 o0.2) (Ps.one r0)
theorem pagePieces_holds:Rows.PagePiecesSaid:=
 OpenClaim.holds_of_wide 8 Tryz.f8 rfl rfl rfl rfl rfl rfl rfl ⟨rfl,rfl,rfl,rfl,rfl⟩ rfl rfl rfl rfl rfl (by kernel_rfl) Tryz.func8 (by kernel_rfl)
  (of_decide_eq_true (by kernel_rfl)) (by unfold Func.isWrapper;rw [if_neg (of_decide_eq_false (by kernel_rfl))];exact ⟨rfl,rfl⟩)
  (fun os started H enc _=>pagePieces_lifted os started H enc)
end Go.Proofs.YtlkbeomimbohlaaGreat
