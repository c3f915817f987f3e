/- Proved: the law PageCopies returns true for every input, and its arguments read behind the call as they did; no condition beyond the given row. -/
import Derived.Test.YtlkbeomimbohlaaGreatC24
set_option linter.unusedVariables false
set_option linter.unusedSimpArgs false
namespace Go.Abs.A30
open Go Go.Abs Go.Proofs
set_option maxRecDepth 100000
set_option linter.unusedVariables false
set_option linter.unusedSimpArgs false
attribute [local simp ↓] awp_skip awp_seq awp_cond awp_block awp_exit awp_ret awp_reg awp_draw awp_ghost awp_loop awp_rfun awpR_nil awpR_cons awpX_nil awpX_0 awpX_1 awpX_2 awpI_eq awpI_t awpI_f awpStep_eq
attribute [local simp] condL_true condL_false condL_dec evDel evV evN evS evA initFr Ghost.app Fr.var Fr.blk Fr.ff FF.val Abs.look Fr.app Fr.erase Fr.noSlot AV.noSlot AV.noSlotL Blk.noSlot Fr.spoken AV.fz AV.fzL Blk.fz binV binI shI binS unV fillA FF.parts FF.vals headO intO boundO lenV scalarEq leavesEq AV.aggc AV.cells FF.read FF.rows AV.one PV.one chunk freshB newS pickV retK evRs evRl evR resOf mkTup mkAgg allP cloOf okP_nil okX_p okX okP addN Del.noSlot Del.owners Rnd reify_p normM insM Fr.back Fr.backV Fr.setPs normV insV
attribute [local simp] renF Fr.trim Blk.trim AV.rn AV.rnL Blk.rn AV.among AV.amongL Blk.among okF retM fixS BIG initFF
attribute [local simp] FF.reify FF.reifyL PV.flat
section
theorem stT_first (t:List UInt8) {i:Nat} (h:0<i):(stT t i).1[0]?=some 0:=by
 obtain ⟨r,hr⟩:=stT_pre t 1 i h
 rw [←hr]
 simp [stT,begT]
def sA (t:List UInt8) (i:Nat):Nat:=if i<(splT t).length then ((splT t).getD i (0,0)).1 else t.length
theorem sA_get {t:List UInt8} {i:Nat} (h:i<(splT t).length):(splT t).getD i (0,0)=(sA t i,sA t (i+1)):=by
 have hl:(splT t).length=(stT t t.length).1.length:=by simp [splT]
 have key:∀ j,j<(splT t).length→(splT t).getD j (0,0)=((stT t t.length).1.getD j 0,if j+1<(splT t).length then (stT t t.length).1.getD (j+1) 0 else t.length):=fun j hj=>by
  rw [List.getD_eq_getElem?_getD,List.getElem?_eq_getElem hj,hl]
  exact spQ_get (by omega)
 unfold sA
 rw [if_pos h,key i h]
 congr 1
 by_cases h2:i+1<(splT t).length
 ·rw [if_pos h2,if_pos h2,key (i+1) h2]
 ·rw [if_neg h2,if_neg h2]
theorem sA_0 (t:List UInt8):sA t 0=0:=by
 have hl:(splT t).length=(stT t t.length).1.length:=by simp [splT]
 by_cases h:0<t.length
 ·have h0:=stT_first t h
  have hlt:0<(splT t).length:=by rw [hl];exact (List.getElem?_eq_some_iff.1 h0).1
  unfold sA
  rw [if_pos hlt,List.getD_eq_getElem?_getD,List.getElem?_eq_getElem hlt]
  have:(splT t)[0]=((stT t t.length).1.getD 0 0,if 0+1<(stT t t.length).1.length then (stT t t.length).1.getD (0+1) 0 else t.length):=spQ_get (by omega)
  rw [this,List.getD_eq_getElem?_getD,h0];rfl
 ·have ht:t=[]:=List.eq_nil_of_length_eq_zero (by omega)
  subst ht
  rfl
theorem sA_lt {t:List UInt8} {i:Nat} (h:i<(splT t).length):sA t i<sA t (i+1)∧sA t (i+1)≤t.length∧sA t (i+1)≤sA t i+6:=by
 have:=splT_mem (t:=t) (a:=sA t i) (b:=sA t (i+1)) (by
  rw [←sA_get h,List.getD_eq_getElem?_getD,List.getElem?_eq_getElem h];simp)
 omega
theorem sA_end (t:List UInt8):sA t (splT t).length=t.length:=by simp [sA]
theorem sA_mono {t:List UInt8} (i d:Nat) (h:i+d≤(splT t).length):sA t i+d≤sA t (i+d):=by
 induction d with
 | zero=>exact Nat.le_refl _
 | succ d ih=>
  have:=ih (by omega)
  have h2:=(sA_lt (t:=t) (i:=i+d) (by omega)).1
  rw [show i+(d+1)=i+d+1 by omega]
  omega
theorem stT_yes {t:List UInt8} {i:Nat} (h:begT t i (stT t i).2=true):stT t (i+1)=((stT t i).1++[i],i):=by simp only [stT,h,if_true]
theorem stT_no {t:List UInt8} {i:Nat} (h:begT t i (stT t i).2=false):stT t (i+1)=stT t i:=by simp [stT,h]
theorem stT_add (t:List UInt8) (n d:Nat):∃ r,(stT t (n+d)).1=(stT t n).1++r∧∀ y∈r,n≤y:=by
 induction d with
 | zero=>exact ⟨[],by simp,by simp⟩
 | succ d ih=>
  obtain ⟨r,h1,h2⟩:=ih
  rw [show n+(d+1)=(n+d)+1 by omega]
  cases hb:begT t (n+d) (stT t (n+d)).2 with
  | true=>
   rw [stT_yes hb]
   refine ⟨r++[n+d],by rw [h1,List.append_assoc],fun y hy=>?_⟩
   rcases List.mem_append.1 hy with q | q
   ·exact h2 y q
   ·simp at q;omega
  | false=>rw [stT_no hb];exact ⟨r,h1,h2⟩
theorem stT_at {t:List UInt8} {n i x:Nat} (hx:(stT t n).1[i]?=some x):(stT t x).1=(stT t n).1.take i∧begT t x (stT t x).2=true∧x<n:=by
 obtain ⟨_,_,h3,h4,_⟩:=stT_inv t n
 have hi:=(List.getElem?_eq_some_iff.1 hx).1
 have hxn:x<n:=h4 x (List.mem_of_getElem? hx)
 obtain ⟨d,rfl⟩:∃ d,n=x+d:=⟨n - x,by omega⟩
 obtain ⟨r,hr,hr2⟩:=stT_add t x d
 have hlow:=(stT_inv t x).2.2.2.1
 rw [hr] at hx h3 hi
 rw [hr]
 have hip:(stT t x).1.length≤i:=by
  rcases Nat.lt_or_ge i (stT t x).1.length with q | q
  ·rw [List.getElem?_append_left q] at hx
   have:=hlow x (List.mem_of_getElem? hx)
   omega
  ·exact q
 have hr0:=hx
 rw [List.getElem?_append_right hip] at hr0
 have hi2:i=(stT t x).1.length:=by
  rcases Nat.lt_or_ge (stT t x).1.length i with q | q
  ·have hrl:=(List.getElem?_eq_some_iff.1 hr0).1
   have hr1:r[0]'(by omega)<r[i - (stT t x).1.length]:=List.pairwise_iff_getElem.1 (List.pairwise_append.1 h3).2.1 0 _ (by omega) hrl (by omega)
   have e:=(List.getElem?_eq_some_iff.1 hr0).2
   have:=hr2 (r[0]'(by omega)) (by simp)
   omega
  ·omega
 refine ⟨by rw [hi2,List.take_left],?_,hxn⟩
 cases hb:begT t x (stT t x).2 with
 | true=>rfl
 | false=>
  exfalso
  obtain ⟨r2,hs,hs2⟩:=stT_add t (x+1) (d - 1)
  rw [show x+1+(d - 1)=x+d by omega,hr,stT_no hb] at hs
  have hrr:=List.append_cancel_left hs
  rw [hrr] at hr0
  have:=hs2 x (List.mem_of_getElem? hr0)
  omega
def cutT (t:List UInt8) (a b:Nat):List UInt8:=(t.take b).drop a
theorem cutT_len {t:List UInt8} {a b:Nat} (hb:b≤t.length):(cutT t a b).length=b - a:=by simp [cutT];omega
theorem cutT_at {t:List UInt8} {a b j:Nat} (h:a+j<b):bT (cutT t a b) j=bT t (a+j):=by
 simp only [bT,cutT,List.getD_eq_getElem?_getD,List.getElem?_drop,List.getElem?_take,if_pos h]
theorem stT_cut {t:List UInt8} {a b:Nat} (ha:begT t a (stT t a).2=true):∀ j,1≤j→a+j≤b→stT t (a+j)=((stT t a).1++(stT (cutT t a b) j).1.map (a+·),a+(stT (cutT t a b) j).2):=by
 intro j
 induction j with
 | zero=>intro h _;omega
 | succ j ih=>
  intro _ hb
  by_cases h0:j=0
  ·subst h0
   have e:stT (cutT t a b) 1=([0],0):=by simp [stT,begT]
   rw [e,show a+(0+1)=a+1 by omega,stT_yes ha]
   simp
  ·have i1:=ih (by omega) (by omega)
   rw [show a+(j+1)=(a+j)+1 by omega]
   obtain ⟨f,ef⟩:∃ f,(stT (cutT t a b) j).2=f:=⟨_,rfl⟩
   have e1:cT (cutT t a b) j=cT t (a+j):=by simp only [cT,cutT_at (by omega:a+j<b)]
   have e2:clsT (cutT t a b) j=clsT t (a+j):=by simp only [clsT,e1]
   have e3:clsT (cutT t a b) (j - 1)=clsT t (a+j - 1):=by
    simp only [clsT,cT,cutT_at (by omega:a+(j - 1)<b),show a+(j - 1)=a+j - 1 by omega]
   have hbeg:begT t (a+j) (a+f)=begT (cutT t a b) j f:=by
    have d1:decide (a+j=0)=decide (j=0):=by congr 1;simp;omega
    have d2:decide (((a+j:Nat):Int) - ((a+f:Nat):Int)=6)=decide ((j:Int) - (f:Int)=6):=by congr 1;simp;omega
    simp only [begT,e1,e2,e3,d1,d2]
   cases hb2:begT (cutT t a b) j f with
   | true=>
    have s1:stT (cutT t a b) (j+1)=((stT (cutT t a b) j).1++[j],j):=stT_yes (by rw [ef];exact hb2)
    have s2:stT t (a+j+1)=((stT t (a+j)).1++[a+j],a+j):=stT_yes (by rw [i1];dsimp only;rw [ef,hbeg];exact hb2)
    rw [s1,s2,i1]
    simp
   | false=>
    have s1:stT (cutT t a b) (j+1)=stT (cutT t a b) j:=stT_no (by rw [ef];exact hb2)
    have s2:stT t (a+j+1)=stT t (a+j):=stT_no (by rw [i1];dsimp only;rw [ef,hbeg];exact hb2)
    rw [s1,s2,i1]
theorem splT_cut {t:List UInt8} {i0 i1:Nat} (h01:i0<i1) (h1:i1≤(splT t).length):splT (cutT t (sA t i0) (sA t i1))=(List.range (i1 - i0)).map fun j=>(sA t (i0+j) - sA t i0,sA t (i0+j+1) - sA t i0):=by
 have hl:(splT t).length=(stT t t.length).1.length:=by simp [splT]
 have hsA:∀ i,i<(splT t).length→(stT t t.length).1[i]?=some (sA t i):=by
  intro i hi
  have:=sA_get hi
  rw [List.getD_eq_getElem?_getD,List.getElem?_eq_getElem hi] at this
  have e:(splT t)[i]=((stT t t.length).1.getD i 0,if i+1<(stT t t.length).1.length then (stT t t.length).1.getD (i+1) 0 else t.length):=spQ_get (by omega)
  rw [Option.getD_some,e] at this
  have h1:=congrArg Prod.fst this
  dsimp only at h1
  rw [←h1,List.getD_eq_getElem?_getD,List.getElem?_eq_getElem (by omega:i<(stT t t.length).1.length)]
  rfl
 obtain ⟨L,eL⟩:∃ L,(stT t t.length).1=L:=⟨_,rfl⟩
 have hsm:∀ i d,i+d≤(splT t).length→sA t i+d≤sA t (i+d):=by
  intro i d
  induction d with
  | zero=>intro _;exact Nat.le_refl _
  | succ d ih=>
   intro hh
   have:=ih (by omega)
   have h2:=(sA_lt (t:=t) (i:=i+d) (by omega)).1
   rw [show i+(d+1)=i+d+1 by omega]
   omega
 have hA:=hsA i0 (by omega)
 obtain ⟨a1,a2,a3⟩:=stT_at hA
 have hAB:=hsm i0 (i1 - i0) (by omega)
 rw [show i0+(i1 - i0)=i1 by omega] at hAB
 have hBl:sA t i1≤t.length:=by
  have:=sA_lt (t:=t) (i:=i1 - 1) (by omega)
  rw [show i1 - 1+1=i1 by omega] at this
  omega
 have hB:(stT t (sA t i1)).1=(stT t t.length).1.take i1:=by
  by_cases q:i1<(splT t).length
  ·exact (stT_at (hsA i1 q)).1
  ·have e:i1=(splT t).length:=by omega
   rw [e,sA_end,hl,List.take_length]
 have hc:=stT_cut (b:=sA t i1) a2 (sA t i1 - sA t i0) (by omega) (by omega)
 rw [show sA t i0+(sA t i1 - sA t i0)=sA t i1 by omega] at hc
 have hc1:=congrArg Prod.fst hc
 dsimp only at hc1
 rw [hB,a1] at hc1
 rw [eL] at hsA hc1
 rw [eL] at hl
 have hul:=cutT_len (t:=t) (a:=sA t i0) hBl
 unfold splT
 rw [hul]
 obtain ⟨U,eU⟩:∃ U,(stT (cutT t (sA t i0) (sA t i1)) (sA t i1 - sA t i0)).1=U:=⟨_,rfl⟩
 rw [eU] at hc1 ⊢
 have hUl:U.length=i1 - i0:=by
  have:=congrArg List.length hc1
  simp only [List.length_take,List.length_append,List.length_map] at this
  omega
 have hUj:∀ j,j<i1 - i0→U.getD j 0=sA t (i0+j) - sA t i0:=by
  intro j hj
  have:=congrArg (fun l=>l[i0+j]?) hc1
  rw [List.getElem?_take,if_pos (by omega),hsA (i0+j) (by omega),List.getElem?_append_right (by simp;omega)] at this
  simp only [List.length_take] at this
  rw [show i0+j - min i0 L.length=j by omega,List.getElem?_map,List.getElem?_eq_getElem (by omega:j<U.length)] at this
  simp at this
  rw [List.getD_eq_getElem?_getD,List.getElem?_eq_getElem (by omega:j<U.length)]
  simp
  omega
 unfold spQ
 rw [hUl]
 refine List.map_congr_left fun j hj=>?_
 have hj:j<i1 - i0:=by simpa using hj
 rw [hUj j hj]
 by_cases q:j+1<i1 - i0
 ·rw [if_pos q,hUj (j+1) q,show i0+(j+1)=i0+j+1 by omega]
 ·rw [if_neg q,show i0+j+1=i1 by omega]
end
section
theorem cluT_eq {t:List UInt8} {i:Nat} (h:i<(splT t).length):cluT t i=(t.take (sA t (i+1))).drop (sA t i):=by
 simp only [cluT,Int.toNat_natCast,sA_get h]
theorem take_clu {t:List UInt8} {i:Nat} (h:i<(splT t).length):t.take (sA t i)++cluT t i=t.take (sA t (i+1)):=by
 have hl:=sA_lt h
 rw [cluT_eq h]
 have:t.take (sA t i)=(t.take (sA t (i+1))).take (sA t i):=by rw [List.take_take,Nat.min_eq_left (by omega)]
 rw [this,List.take_append_drop]
def cpJ (ps:List Par) (z:Int×List UInt8) (p:Dpl):Int×List UInt8:=
 (p.1,z.2++((if 0≤z.1 then List.replicate (p.1 - z.1).toNat 10 else [])++(match ps[p.1.toNat]? with | some q=>cluT q.t p.2.i | none=>[])))
def cpR (ps:List Par) (z:Int×List UInt8) (l:List Dpl):Int×List UInt8:=l.foldl (cpJ ps) z
theorem cpS_run (ps:List Par) (fr up:Int):∀ (l:List Dpl) (n la:Int) (acc:List UInt8),l.foldl (cpS ps fr up) ⟨n,la,acc⟩=⟨n+l.length,(cpR ps (la,acc) ((l.take (up - n).toNat).drop (fr - n).toNat)).1,(cpR ps (la,acc) ((l.take (up - n).toNat).drop (fr - n).toNat)).2⟩
 | [],n,la,acc=>by simp [cpR]
 | p :: l,n,la,acc=>by
  rw [List.foldl_cons]
  by_cases c1:fr≤n∧n<up
  ·obtain ⟨u,eu⟩:∃ u:Nat,(up - n).toNat=u+1:=⟨(up - n).toNat - 1,by omega⟩
   have e2:(up - (n+1)).toNat=u:=by omega
   have e3:(fr - n).toNat=0:=by omega
   have e4:(fr - (n+1)).toNat=0:=by omega
   have hs:cpS ps fr up ⟨n,la,acc⟩ p=⟨n+1,(cpJ ps (la,acc) p).1,(cpJ ps (la,acc) p).2⟩:=by simp only [cpS,if_pos c1,cpJ];rfl
   rw [hs,cpS_run ps fr up l,e2,e3,e4,eu]
   simp only [List.drop_zero,List.take_succ_cons,cpR,List.foldl_cons,List.length_cons]
   congr 1
   push_cast;omega
  ·have hs:cpS ps fr up ⟨n,la,acc⟩ p=⟨n+1,la,acc⟩:=by simp only [cpS,if_neg c1]
   rw [hs,cpS_run ps fr up l]
   have e:(l.take (up - (n+1)).toNat).drop (fr - (n+1)).toNat=((p :: l).take (up - n).toNat).drop (fr - n).toNat:=by
    by_cases c2:n<up
    ·obtain ⟨u,eu⟩:∃ u:Nat,(up - n).toNat=u+1:=⟨(up - n).toNat - 1,by omega⟩
     obtain ⟨f,ef⟩:∃ f:Nat,(fr - n).toNat=f+1:=⟨(fr - n).toNat - 1,by omega⟩
     rw [eu,ef,show (up - (n+1)).toNat=u by omega,show (fr - (n+1)).toNat=f by omega]
     simp
    ·rw [show (up - n).toNat=0 by omega,show (up - (n+1)).toNat=0 by omega]
     simp
   rw [e,List.length_cons]
   congr 1
   push_cast;omega
theorem copyN_eq (cs:List Cor) (w:Int) (ps:List Par) (fr up:Int):copyN cs w ps fr up=(cpR ps (-1,[]) (((docL cs w ps).take up.toNat).drop fr.toNat)).2:=by
 unfold copyN cpF
 rw [cpS_run]
 simp
theorem cpR_acc (ps:List Par):∀ (l:List Dpl) (la:Int) (acc:List UInt8),cpR ps (la,acc) l=((cpR ps (la,[]) l).1,acc++(cpR ps (la,[]) l).2)
 | [],la,acc=>by simp [cpR]
 | p :: l,la,acc=>by
  have e:∀ acc,cpR ps (la,acc) (p :: l)=cpR ps (cpJ ps (la,acc) p) l:=fun _=>rfl
  rw [e,e]
  simp only [cpJ,List.nil_append]
  rw [cpR_acc ps l p.1 (acc++_),cpR_acc ps l p.1 (_++_)]
  simp only [List.append_assoc]
theorem cpR_app (ps:List Par) (z:Int×List UInt8) (l m:List Dpl):cpR ps z (l++m)=cpR ps (cpR ps z l) m:=List.foldl_append ..
theorem cpR_sep (ps:List Par) (p:Dpl) (l:List Dpl) (la:Int) (h:0≤la) (acc:List UInt8):cpR ps (la,acc) (p :: l)=((cpR ps (-1,[]) (p :: l)).1,acc++List.replicate (p.1 - la).toNat 10++(cpR ps (-1,[]) (p :: l)).2):=by
 have e:∀ z,cpR ps z (p :: l)=cpR ps (cpJ ps z p) l:=fun _=>rfl
 rw [e,e]
 simp only [cpJ,if_pos h]
 rw [cpR_acc ps l p.1 (acc++_),cpR_acc ps l p.1 (_++_)]
 simp
theorem cpR_last (ps:List Par) (z:Int×List UInt8) (l:List Dpl) (p:Dpl):(cpR ps z (l++[p])).1=p.1:=by
 rw [cpR_app];rfl
theorem para_run {ps:List Par} {k:Nat} {q:Par} (hq:ps[k]?=some q) (f:Nat→Dpl) (hf:∀ i,(f i).1=k∧(f i).2.i=i) (la:Int) (acc:List UInt8):∀ m,m+1≤(splT q.t).length →
  cpR ps (la,acc) ((List.range (m+1)).map f)=((k:Int),acc++((if 0≤la then List.replicate ((k:Int) - la).toNat 10 else [])++q.t.take (sA q.t (m+1)))):=by
 intro m
 have hkk:((k:Nat):Int).toNat=k:=by omega
 induction m with
 | zero=>
  intro h
  have:=take_clu (t:=q.t) (i:=0) (by omega)
  rw [sA_0] at this
  simp only [List.take_zero,List.nil_append] at this
  simp only [Nat.zero_add,List.range_one,List.map_cons,List.map_nil,cpR,List.foldl_cons,List.foldl_nil,cpJ,(hf 0).1,(hf 0).2,hkk,hq]
  rw [←this]
  try rfl
 | succ m ih=>
  intro h
  rw [List.range_succ,List.map_append,cpR_app,ih (by omega)]
  have:=take_clu (t:=q.t) (i:=m+1) (by omega)
  simp only [List.map_cons,List.map_nil,cpR,List.foldl_cons,List.foldl_nil,cpJ,(hf (m+1)).1,(hf (m+1)).2,hkk,hq,Int.sub_self,Int.toNat_zero,List.replicate_zero,ite_self,List.nil_append,←this,List.append_assoc]
def wS (ps:List Par):Nat→Int×List UInt8
 | 0=>(-1,[])
 | k+1=>match ps[k]? with
  | some p=>if p.t=[] then wS ps k else ((k:Int),(wS ps k).2++((if 0≤(wS ps k).1 then List.replicate ((k:Int) - (wS ps k).1).toNat 10 else [])++p.t))
  | none=>wS ps k
theorem splT_ne {t:List UInt8} (h:t≠[]):0<(splT t).length:=by
 have hl:(splT t).length=(stT t t.length).1.length:=by simp [splT]
 have h0:=stT_first t (i:=t.length) (by cases t with | nil=>simp at h | cons a l=>simp)
 rw [hl]
 exact (List.getElem?_eq_some_iff.1 h0).1
theorem copy_all {cs:List Cor} {w:Int} {ps:List Par} (hp:ParsOk ps):∀ k,k≤ps.length→cpR ps (-1,[]) (allK cs w ps k)=wS ps k:=by
 intro k
 induction k with
 | zero=>intro _;simp [allK,cpR,wS]
 | succ k ih=>
  intro h
  have hk:k<ps.length:=by omega
  rw [allK_succ,cpR_app,ih (by omega),wS,List.getElem?_eq_getElem hk]
  have hq:ps[k]?=some ps[k]:=List.getElem?_eq_getElem hk
  obtain ⟨q,eq⟩:∃ q,ps[k]=q:=⟨_,rfl⟩
  rw [eq] at hq
  have hqo:=hp.2 q (by rw [←eq];simp)
  obtain ⟨X,eX⟩:=placesN_get (cs:=cs) (t:=q.t) (w:=w) hqo.2.1
  have eP:paraK cs w ps k=(List.range (splT q.t).length).map fun (i:Nat)=>((k:Int),(⟨i,(fontsN cs q.t).getD i 0,(linesN cs q.t q.s w).getD i 0+lineK cs w ps k,X.getD i 0,(widthsN cs q.t q.s).getD i 0⟩:Plc)):=by
   unfold paraK
   rw [hq]
   simp only [parV,eX,plcL,List.map_map]
   rfl
  rw [eP,eq]
  dsimp only
  by_cases ht:q.t=[]
  ·rw [if_pos ht,ht]
   simp [splT,stT,cpR]
  ·rw [if_neg ht]
   have hn:=splT_ne ht
   obtain ⟨m,em⟩:∃ m,(splT q.t).length=m+1:=⟨(splT q.t).length - 1,by omega⟩
   have:=para_run hq (fun (i:Nat)=>((k:Int),(⟨i,(fontsN cs q.t).getD i 0,(linesN cs q.t q.s w).getD i 0+lineK cs w ps k,X.getD i 0,(widthsN cs q.t q.s).getD i 0⟩:Plc))) (fun i=>⟨rfl,rfl⟩) (wS ps k).1 (wS ps k).2 m (by omega)
   rw [em]
   rw [←em,sA_end,List.take_length,em] at this
   exact this
noncomputable def wantN (ps:List Par):List UInt8:=(wS ps ps.length).2
theorem copy_0 {cs:List Cor} {w:Int} {ps:List Par} (hp:ParsOk ps) (fr up:Int) (h1:fr≤0) (h2:(docL cs w ps).length≤up):copyN cs w ps fr up=wantN ps:=by
 rw [copyN_eq,show fr.toNat=0 by omega,List.drop_zero,List.take_of_length_le (by omega)]
 unfold docL wantN
 rw [copy_all hp _ (Nat.le_refl _)]
noncomputable def betN (L:List Dpl) (m:Nat):List UInt8:=if h:0<m∧m<L.length then List.replicate (L[m].1 - L[m - 1].1).toNat 10 else []
theorem docL_nn {cs:List Cor} {w:Int} {ps:List Par} (hp:ParsOk ps) {x:Dpl} (h:x∈docL cs w ps):0≤x.1∧x.1<ps.length:=by
 obtain ⟨k,hk,h2⟩:=List.mem_flatMap.1 h
 have h1:=(paraK_mem hp h2).1
 have hk:k<ps.length:=by simpa using hk
 omega
theorem copy_parts {cs:List Cor} {w:Int} {ps:List Par} (hp:ParsOk ps) (m:Nat) (hm:m≤(docL cs w ps).length):copyN cs w ps 0 m++betN (docL cs w ps) m++copyN cs w ps m (docL cs w ps).length=wantN ps:=by
 have hw:=copy_0 (cs:=cs) (w:=w) hp 0 (docL cs w ps).length (Int.le_refl _) (Int.le_refl _)
 rw [←hw,copyN_eq,copyN_eq,copyN_eq]
 have nn:=@docL_nn cs w ps hp
 obtain ⟨L,eL⟩:∃ L,docL cs w ps=L:=⟨_,rfl⟩
 rw [eL] at hm nn ⊢
 simp only [Int.toNat_natCast,Int.toNat_zero,List.drop_zero,List.take_length]
 have e:cpR ps (-1,[]) L=cpR ps (cpR ps (-1,[]) (L.take m)) (L.drop m):=by rw [←cpR_app,List.take_append_drop]
 by_cases h:0<m∧m<L.length
 ·have hb:betN L m=List.replicate (L[m].1 - L[m - 1].1).toNat 10:=dif_pos h
  have ed:L.drop m=L[m] :: L.drop (m+1):=List.drop_eq_getElem_cons h.2
  have et:L.take m=L.take (m - 1)++[L[m - 1]]:=by
   have h2:L.take (m - 1+1)=L.take (m - 1)++[L[m - 1]]:=by rw [List.take_add_one,List.getElem?_eq_getElem (by omega:m - 1<L.length)];rfl
   rwa [show m - 1+1=m by omega] at h2
  have hl:(cpR ps (-1,[]) (L.take m)).1=L[m - 1].1:=by rw [et];exact cpR_last _ _ _ _
  obtain ⟨z1,z2⟩:∃ a b,cpR ps (-1,[]) (L.take m)=(a,b):=⟨_,_,rfl⟩
  obtain ⟨b,hz⟩:=z2
  rw [hz] at hl e
  dsimp only at hl
  have hz1:0≤z1:=by rw [hl];exact (nn (by simp)).1
  rw [hb,e,hz,ed,cpR_sep ps _ _ z1 hz1,hl]
 ·have hb:betN L m=[]:=dif_neg h
  rw [hb]
  rcases Nat.eq_zero_or_pos m with h0 | h0
  ·subst h0;simp [cpR]
  ·have:m=L.length:=by omega
   subst this
   simp [cpR]
end
section
def fS (ps:List Par):Nat→Int×Int
 | 0=>(ps.length,-1)
 | k+1=>match ps[k]? with
  | some p=>if p.t=[] then fS ps k else (min (fS ps k).1 k,k)
  | none=>fS ps k
def jS (ps:List Par) (f:Nat):Nat→List UInt8
 | 0=>[]
 | d+1=>jS ps f d++(if 0<d then [10] else [])++(match ps[f+d]? with | some p=>p.t | none=>[])
theorem fS_last (ps:List Par) (k:Nat):(fS ps k).2=(wS ps k).1:=by
 induction k with
 | zero=>rfl
 | succ k ih=>
  simp only [fS,wS]
  cases h:ps[k]? with
  | none=>exact ih
  | some p=>
   by_cases ht:p.t=[]
   ·simp only [if_pos ht];exact ih
   ·simp only [if_neg ht]
theorem wS_b (ps:List Par) (k:Nat):-1≤(wS ps k).1∧(wS ps k).1<k:=by
 induction k with
 | zero=>simp [wS]
 | succ k ih=>
  simp only [wS]
  split
  ·split
   ·omega
   ·dsimp only;omega
  ·omega
theorem fS_first (ps:List Par) (k:Nat) (hk:k≤ps.length):((fS ps k).1=ps.length∧wS ps k=(-1,[]))∨∃ f:Nat,∃ h:f<ps.length,(fS ps k).1=f∧f<k∧wS ps f=(-1,[])∧ps[f].t≠[]:=by
 induction k with
 | zero=>left;exact ⟨rfl,rfl⟩
 | succ k ih=>
  have hlt:k<ps.length:=by omega
  have hg:ps[k]?=some ps[k]:=List.getElem?_eq_getElem hlt
  simp only [fS,wS,hg]
  by_cases ht:ps[k].t=[]
  ·rw [if_pos ht,if_pos ht]
   rcases ih (by omega) with ⟨a,b⟩ | ⟨f,h,a,b,c⟩
   ·exact .inl ⟨a,b⟩
   ·exact .inr ⟨f,h,a,by omega,c⟩
  ·rw [if_neg ht,if_neg ht]
   right
   rcases ih (by omega) with ⟨a,b⟩ | ⟨f,h,a,b,c⟩
   ·exact ⟨k,hlt,by dsimp only;omega,by omega,b,ht⟩
   ·exact ⟨f,h,by dsimp only;omega,by omega,c⟩
theorem jS_w {ps:List Par} {f:Nat} (hf:f<ps.length) (h0:wS ps f=(-1,[])) (ht:ps[f].t≠[]):∀ d,f+d+1≤ps.length→0≤(wS ps (f+d+1)).1∧jS ps f (d+1)=(wS ps (f+d+1)).2++List.replicate ((f+d:Nat) - (wS ps (f+d+1)).1).toNat 10:=by
 intro d
 induction d with
 | zero=>
  intro _
  have hg:ps[f]?=some ps[f]:=List.getElem?_eq_getElem hf
  simp [wS,jS,hg,ht,h0]
 | succ d ih=>
  intro hd
  obtain ⟨i1,i2⟩:=ih (by omega)
  have hlt:f+d+1<ps.length:=by omega
  have hg:ps[f+d+1]?=some ps[f+d+1]:=List.getElem?_eq_getElem hlt
  have hb:=wS_b ps (f+d+1)
  have e1:jS ps f (d+1+1)=jS ps f (d+1)++[10]++ps[f+d+1].t:=by
   rw [jS,if_pos (by omega),show f+(d+1)=f+d+1 by omega,hg]
  have e2:wS ps (f+(d+1)+1)=if ps[f+d+1].t=[] then wS ps (f+d+1) else (((f+d+1:Nat):Int),(wS ps (f+d+1)).2++((if 0≤(wS ps (f+d+1)).1 then List.replicate (((f+d+1:Nat):Int) - (wS ps (f+d+1)).1).toNat 10 else [])++ps[f+d+1].t)):=by
   rw [show f+(d+1)+1=(f+d+1)+1 by omega,wS,hg]
  rw [e1,e2,i2]
  obtain ⟨m,em⟩:∃ m:Nat,(((f+d:Nat):Int) - (wS ps (f+d+1)).1).toNat=m:=⟨_,rfl⟩
  have em1:(((f+d+1:Nat):Int) - (wS ps (f+d+1)).1).toNat=m+1:=by omega
  rw [em]
  by_cases h:ps[f+d+1].t=[]
  ·rw [if_pos h,h]
   have em2:(((f+(d+1):Nat):Int) - (wS ps (f+d+1)).1).toNat=m+1:=by omega
   rw [em2,List.replicate_succ']
   exact ⟨i1,by simp⟩
  ·rw [if_neg h,em1,if_pos i1,List.replicate_succ']
   refine ⟨by dsimp only;omega,?_⟩
   dsimp only
   have em2:(((f+(d+1):Nat):Int) - ((f+d+1:Nat):Int)).toNat=0:=by omega
   rw [em2]
   simp
theorem wS_stay {ps:List Par} {la:Nat}:∀ k,(wS ps k).1=la→wS ps k=wS ps (la+1):=by
 intro k
 induction k with
 | zero=>intro h;simp [wS] at h
 | succ k ih=>
  intro h
  by_cases hk:k=la
  ·rw [hk]
  ·rw [wS] at h ⊢
   split at h
   ·rename_i p hp
    split at h
    ·rename_i ht
     rw [if_pos ht]
     exact ih h
    ·dsimp only at h;omega
   ·exact ih h
theorem jS_want {ps:List Par} {f:Nat} (hf:f<ps.length) (h0:wS ps f=(-1,[])) (ht:ps[f].t≠[]):∃ la:Nat,(wS ps ps.length).1=la∧f≤la∧la<ps.length∧jS ps f (la - f+1)=wantN ps:=by
 obtain ⟨d,hd⟩:∃ d,ps.length=f+d+1:=⟨ps.length - (f+1),by omega⟩
 obtain ⟨i1,_⟩:=jS_w hf h0 ht d (by omega)
 have hb:=wS_b ps ps.length
 rw [←hd] at i1
 obtain ⟨la,el⟩:∃ la:Nat,(wS ps ps.length).1=la:=⟨(wS ps ps.length).1.toNat,by omega⟩
 have hmono:∀ k,f+1≤k→(f:Int)≤(wS ps k).1:=by
  intro k hk
  obtain ⟨e,rfl⟩:∃ e,k=f+1+e:=⟨k - (f+1),by omega⟩
  clear hk
  induction e with
  | zero=>
   have hg:ps[f]?=some ps[f]:=List.getElem?_eq_getElem hf
   simp [wS,hg,ht]
  | succ e ih=>
   rw [show f+1+(e+1)=(f+1+e)+1 by omega,wS]
   split
   ·split
    ·exact ih
    ·dsimp only;omega
   ·exact ih
 have hfl:=hmono ps.length (by omega)
 have hst:=wS_stay ps.length el
 obtain ⟨_,j2⟩:=jS_w hf h0 ht (la - f) (by omega)
 rw [show f+(la - f)+1=la+1 by omega,←hst,el] at j2
 refine ⟨la,el,by omega,by omega,?_⟩
 rw [j2]
 have:(((f+(la - f):Nat):Int) - (la:Int)).toNat=0:=by omega
 rw [this]
 simp [wantN]
end
end Go.Abs.A30
namespace Go.Abs.A30
open Go Go.Abs Go.Proofs
set_option maxRecDepth 100000
set_option maxHeartbeats 4000000
set_option linter.unusedVariables false
def xc5c:AC:=by
 apply fun (y:AC) (_:@Eq AC (anS 32 [] [] (anF Tryz.prog 5 mu1 [] 0 0 [])) y)=>y
 conv=>lhs;reduce;dsimp
def xc5b:AC:=(fun (z0:AC)=>by
 apply fun (y:AC) (_:@Eq AC (anS 22 [⟨32,[],[],some z0⟩] [] (anF Tryz.prog 5 mu1 [] 0 0 [])) y)=>y
 conv=>lhs;reduce;dsimp) xc5c
def ac5:AC:=(fun (z0:AC)=>by
 apply fun (y:AC) (_:@Eq AC (anD [⟨22,[],[],some z0⟩] (anF Tryz.prog 5 mu1 [] 0 0 [])) y)=>y
 conv=>lhs;reduce;dsimp) xc5b
theorem fn5:factOf Tryz.prog 5=some (ac5.strip,[.tmp 4],138):=by kernel_rfl
theorem ok5:ac5.okAll=true:=by kernel_rfl
end Go.Abs.A30
namespace Go.Abs.A30
open Go Go.Abs Go.Proofs
set_option maxRecDepth 100000
set_option linter.unusedVariables false
set_option linter.unusedSimpArgs false
attribute [local simp ↓] awp_skip awp_seq awp_cond awp_block awp_exit awp_ret awp_reg awp_draw awp_ghost awp_loop awp_rfun awpR_nil awpR_cons awpX_nil awpX_0 awpX_1 awpX_2 awpI_eq awpI_t awpI_f awpStep_eq
attribute [local simp] condL_true condL_false condL_dec evDel evV evN evS evA initFr Ghost.app Fr.var Fr.blk Fr.ff FF.val Abs.look Fr.app Fr.erase Fr.noSlot AV.noSlot AV.noSlotL Blk.noSlot Fr.spoken AV.fz AV.fzL Blk.fz binV binI shI binS unV fillA FF.parts FF.vals headO intO boundO lenV scalarEq leavesEq AV.aggc AV.cells FF.read FF.rows AV.one PV.one chunk freshB newS pickV retK evRs evRl evR resOf mkTup mkAgg allP cloOf okP_nil okX_p okX okP addN Del.noSlot Del.owners Rnd reify_p normM insM Fr.back Fr.backV Fr.setPs normV insV
attribute [local simp] renF Fr.trim Blk.trim AV.rn AV.rnL Blk.rn AV.among AV.amongL Blk.among okF retM fixS BIG initFF
attribute [local simp] FF.reify FF.reifyL PV.flat
section
attribute [local simp ↓] oneD2 oneI oneC onePa onePi oneSp onePl
attribute [local simp] ba_size
theorem jS_len {ps:List Par} (hp:ParsOk ps) (f:Nat):∀ d,(jS ps f d).length≤13*d
 | 0=>by simp [jS]
 | d+1=>by
  have:=jS_len hp f d
  have h3:(if 0<d then [(10:UInt8)] else []).length≤1:=by split<;>simp
  simp only [jS,List.length_append]
  cases hq:ps[f+d]? with
  | none=>simp only [List.length_nil];omega
  | some p=>
   have:=(hp.2 p (List.mem_of_getElem? hq)).1
   dsimp only
   omega
theorem x5c (cs:List Cor) (w:Int) (ps:List Par) (L:List Dpl) (hll:L.length≤36) (cp:Int→Int→List UInt8) (X A B C:List UInt8) (hX:X.length≤1000) (hABC:A++B++C=X)
  (q17:∀ fr up,Best Tryz.prog 17 [.agg [.int .i64 w,.sl 3 (cs.map pinRow),.sl 4 (ps.map parRow)],.sl 9 (cs.map corRow),.int .i64 fr,.int .i64 up] (.p (.str (ba (cp fr up)))))
  (hall0:∀ fr up:Int,fr≤0→(L.length:Int)≤up→cp fr up=X) :
  awp Tryz.prog xc5c (retK [RO.tmp 4] (.p (.bool true))) ⟨[(5,.p (.bool true)),(6,.ptr (6,0) 3 0 0),(7,.p (.sl 9 (cs.map corRow))),(8,.p (.sl 6 (L.map dplRow))),(9,.p (.str (ba X))),(16,.p (.str (ba A))),(17,.p (.str (ba C))),(18,.p (.str (ba B)))],
   [((6,0),.box [.p (.int .i64 w),.p (.sl 3 (cs.map pinRow)),.p (.sl 4 (ps.map parRow))])]⟩:=by
 have wl:R ((L.length:Int)+1):=⟨by omega,by omega⟩
 have h1:=q17 0 L.length
 have h2:=q17 (-1) (L.length+1)
 rw [hall0 0 L.length (by omega) (by omega)] at h1
 rw [hall0 (-1) (L.length+1) (by omega) (by omega)] at h2
 have hlen:=congrArg List.length hABC
 simp only [List.length_append] at hlen
 have l1:A.length+B.length≤9223372036854775807:=by omega
 have l2:A.length+B.length+C.length≤9223372036854775807:=by omega
 rw [List.append_assoc] at hABC
 simp -dsimp [xc5c]
 refine call_p h1 (by simp) (by simp) ?_
 simp -dsimp [ba_app,l1,l2,hABC,wr wl]
 refine call_p h2 (by simp) (by simp) ?_
 simp -dsimp
theorem x5b (cs:List Cor) (w:Int) (ps:List Par) (hps:ParsOk ps) (L:List Dpl) (hll:L.length≤36) (cp:Int→Int→List UInt8) (at_:Nat) (hat:at_<256) (X:List UInt8) (hX:X.length≤1000)
  (q17:∀ fr up,Best Tryz.prog 17 [.agg [.int .i64 w,.sl 3 (cs.map pinRow),.sl 4 (ps.map parRow)],.sl 9 (cs.map corRow),.int .i64 fr,.int .i64 up] (.p (.str (ba (cp fr up)))))
  (hpart:∀ m:Nat,m≤L.length→cp 0 m++betN L m++cp m L.length=X) (hall0:∀ fr up:Int,fr≤0→(L.length:Int)≤up→cp fr up=X) (hnn:∀ x∈L,0≤x.1∧x.1<ps.length) (hpw:L.Pairwise fun p q=>p.1≤q.1∧(p.1<q.1→p.2.l<q.2.l)) :
  awp Tryz.prog xc5b (retK [RO.tmp 4] (.p (.bool true))) ⟨[(1,.p (.int .u8 at_)),(5,.p (.bool true)),(6,.ptr (6,0) 3 0 0),(7,.p (.sl 9 (cs.map corRow))),(8,.p (.sl 6 (L.map dplRow))),(9,.p (.str (ba X)))],
   [((6,0),.box [.p (.int .i64 w),.p (.sl 3 (cs.map pinRow)),.p (.sl 4 (ps.map parRow))])]⟩:=by
 have h3:=hps.1
 have wa:R (at_:Int):=⟨by omega,by omega⟩
 have wl:R ((L.length:Int)+1):=⟨by omega,by omega⟩
 have hrem:(at_:Int).tmod ((L.length:Int)+1)=((at_ % (L.length+1):Nat):Int):=rfl
 have hne:¬(L.length:Int)+1=0:=by omega
 obtain ⟨m,em⟩:∃ m,at_ % (L.length+1)=m:=⟨_,rfl⟩
 have hm:m≤L.length:=by have:=Nat.mod_lt at_ (by omega:0<L.length+1);omega
 rw [em] at hrem
 have wm:R (m:Int):=⟨by omega,by omega⟩
 have hp:=hpart m hm
 have ha:=q17 0 m
 have hb:=q17 m L.length
 by_cases c1:0<m
 ·by_cases c2:m<L.length
  ·obtain ⟨⟨n0,p0⟩,e0⟩:∃ p,L[m - 1]=p:=⟨_,rfl⟩
   obtain ⟨⟨n1,p1⟩,e1⟩:∃ p,L[m]=p:=⟨_,rfl⟩
   have hle:n0≤n1:=by
    have:=(List.pairwise_iff_getElem.1 hpw (m - 1) m (by omega) c2 (by omega)).1
    rw [e0,e1] at this
    exact this
   have hn0:=hnn (n0,p0) (by rw [←e0];simp)
   have hn1:=hnn (n1,p1) (by rw [←e1];simp)
   dsimp only at hn0 hn1
   have hbet:betN L m=List.replicate (n1 - n0).toNat 10:=by
    unfold betN
    rw [dif_pos ⟨c1,c2⟩,e0,e1]
   rw [hbet] at hp
   obtain ⟨q,eq⟩:∃ q,m - 1=q:=⟨_,rfl⟩
   have eq2:(m:Int) - 1=q:=by omega
   have wq:R (q:Int):=⟨by omega,by omega⟩
   have hql:q<L.length:=by omega
   simp only [eq] at e0
   obtain ⟨d,ed⟩:∃ d:Nat,n1=n0+d:=⟨(n1 - n0).toNat,by omega⟩
   rw [show (n1 - n0).toNat=d by omega] at hp
   have rest:=x5c cs w ps L hll cp X (cp 0 m) (List.replicate d 10) (cp m L.length) hX hp q17 hall0
   simp -dsimp [xc5b,wr wa,wr wl,hrem,hne,wr wm]
   refine call_p ha (by simp) (by simp) ?_
   simp -dsimp
   refine call_p hb (by simp) (by simp) ?_
   simp -dsimp [c1,c2,eq2,wr wq,hql,e0,dplRow]
   refine loopC d (fun i=>⟨[(5,.p (.bool true)),(6,.ptr (6,0) 3 0 0),(7,.p (.sl 9 (cs.map corRow))),(8,.p (.sl 6 (L.map dplRow))),(9,.p (.str (ba X))),(15,.p (.int .i64 m)),(16,.p (.str (ba (cp 0 m)))),(17,.p (.str (ba (cp m L.length)))),(18,.p (.str (ba (List.replicate i 10)))),(19,.p (.int .i64 (n0+i)))],
    [((6,0),.box [.p (.int .i64 w),.p (.sl 3 (cs.map pinRow)),.p (.sl 4 (ps.map parRow))])]⟩) (fun _=>True) (fun i hi _=>?_) trivial (by simp [ba])
   by_cases hid:i<d
   ·have b10:(⟨#[10]⟩:ByteArray)=ba [10]:=rfl
    obtain ⟨Y,eY⟩:∃ Y:List UInt8,List.replicate i 10=Y:=⟨_,rfl⟩
    have hYl:Y.length=i:=by rw [←eY];simp
    have hYs:List.replicate (i+1) (10:UInt8)=Y++[10]:=by rw [List.replicate_succ',eY]
    rw [eY,hYs]
    have l1:Y.length+1≤9223372036854775807:=by omega
    have c3:n0+(i:Int)<n1:=by omega
    have wi:R (n0+(i:Int)+1):=⟨by omega,by omega⟩
    simp -dsimp [c2,e1,dplRow,c3,b10,ba_app,l1,wr wi,hid]
    omega
   ·have:i=d:=by omega
    subst this
    have c3:¬n0+(i:Int)<n1:=by omega
    simp -dsimp [c2,e1,dplRow,c3,↓ awpC_of xc5c]
    exact awpC_in rest
  ·have hbet:betN L m=[]:=dif_neg (fun q=>c2 q.2)
   rw [hbet] at hp
   have rest:=x5c cs w ps L hll cp X (cp 0 m) [] (cp m L.length) hX hp q17 hall0
   have hba:ba []=⟨#[]⟩:=rfl
   rw [hba] at rest
   simp -dsimp [xc5b,wr wa,wr wl,hrem,hne,wr wm]
   refine call_p ha (by simp) (by simp) ?_
   simp -dsimp
   refine call_p hb (by simp) (by simp) ?_
   simp -dsimp [c1,c2,↓ awpC_of xc5c]
   exact awpC_in rest
 ·have hbet:betN L m=[]:=dif_neg (fun q=>c1 q.1)
  rw [hbet] at hp
  have rest:=x5c cs w ps L hll cp X (cp 0 m) [] (cp m L.length) hX hp q17 hall0
  have hba:ba []=⟨#[]⟩:=rfl
  rw [hba] at rest
  simp -dsimp [xc5b,wr wa,wr wl,hrem,hne,wr wm]
  refine call_p ha (by simp) (by simp) ?_
  simp -dsimp
  refine call_p hb (by simp) (by simp) ?_
  simp -dsimp [c1,↓ awpC_of xc5c]
  exact awpC_in rest
theorem law5 (F:List (List (List Int))) (D:List (List Int)) (hF:∀ x∈F,x.length≤9223372036854775807∧∀ y∈x,∀ n∈y,R n) (hD:∀ x∈D,x.length≤9223372036854775807∧∀ n∈x,R n) (at_:Nat) (hat:at_<256) :
  Best Tryz.prog 5 [.agg [.sl 1 (F.map lllRow),.sl 1 (D.map llRow)],.int .u8 at_] (.p (.bool true)):=by
 obtain ⟨cs,w,ps,⟨hc,hco,hw1,hw2,hps⟩,q10⟩:=b10 F D hF hD
 have hcs:CorsOk2 cs:=⟨by omega,fun c h=>(hco c h).fine⟩
 have q15:=b15 cs hcs w ⟨by omega,by omega⟩ cs ps hps
 have q17:=b17 cs hcs w ⟨by omega,by omega⟩ cs ps hps
 have hl:=allK_len (cs:=cs) (w:=w) hps ps.length
 have h3:=hps.1
 have hll:(docL cs w ps).length≤36:=by unfold docL;omega
 have hpart:=fun m hm=>@copy_parts cs w ps hps m hm
 have hall0:=fun fr up h1 h2=>@copy_0 cs w ps hps fr up h1 h2
 have hnn:=@docL_nn cs w ps hps
 have hpw:=docL_pw (cs:=cs) (w:=w) hps
 simp only [docRow] at q10 q15 q17
 obtain ⟨L,eL⟩:∃ L,docL cs w ps=L:=⟨_,rfl⟩
 obtain ⟨cp,ecp⟩:∃ cp,copyN cs w ps=cp:=⟨_,rfl⟩
 simp only [eL,ecp] at q15 q17 hll hpart hall0 hnn hpw
 refine best mixed fn5 ok5 (by simp) ?_
 simp -dsimp [ac5]
 refine call_p b9 (by simp) (by simp) ?_
 simp -dsimp
 refine call_p q10 (by simp) (by simp) ?_
 simp -dsimp
 refine call_p q15 (by simp) (by simp) ?_
 simp -dsimp
 refine loopC ps.length (fun k=>⟨[(1,.p (.int .u8 at_)),(5,.p (.bool true)),(6,.ptr (6,0) 3 0 0),(7,.p (.sl 9 (cs.map corRow))),(8,.p (.sl 6 (L.map dplRow))),(9,.p (.str ⟨#[]⟩)),(10,.p (.int .i64 (fS ps k).1)),(11,.p (.int .i64 (fS ps k).2)),(33,.p (.sl 4 (ps.map parRow))),(34,.p (.int .i64 ps.length)),(35,.p (.int .i64 k))],
  [((6,0),.box [.p (.int .i64 w),.p (.sl 3 (cs.map pinRow)),.p (.sl 4 (ps.map parRow))])]⟩) (fun _=>True) (fun k hk _=>?_) trivial (by simp [fS])
 by_cases h:k<ps.length
 ·obtain ⟨⟨t,s⟩,ex⟩:∃ x,ps[k]=x:=⟨_,rfl⟩
  have wk:R ((k:Int)+1):=⟨by omega,by omega⟩
  have hs:fS ps (k+1)=if t=[] then fS ps k else (min (fS ps k).1 k,k):=by
   simp only [fS,List.getElem?_eq_getElem h,ex]
  by_cases ht:t=[]
  ·rw [if_pos ht] at hs
   have e0:¬0<t.length:=by simp [ht]
   simp -dsimp [h,ex,parRow,ht,wr wk,hs]
  ·rw [if_neg ht] at hs
   have e0:0<t.length:=by cases t with | nil=>simp at ht | cons a l=>simp
   simp -dsimp [h,ex,parRow,e0,ht,wr wk,hs]
 ·have hkl:k=ps.length:=by omega
  subst hkl
  have hfirst:=fS_first ps ps.length (Nat.le_refl _)
  have hlast:=fS_last ps ps.length
  obtain ⟨⟨fi,la⟩,efs⟩:∃ x,fS ps ps.length=x:=⟨_,rfl⟩
  rw [efs] at hfirst hlast ⊢
  dsimp only at hfirst hlast ⊢
  have hXl:(wantN ps).length≤1000:=by
   rcases hfirst with ⟨_,hw0⟩ | ⟨f,hf,_,_,hw0,htf⟩
   ·simp [wantN,hw0]
   ·obtain ⟨l,_,h1,h2,h3⟩:=jS_want hf hw0 htf
    have:=jS_len hps f (l - f+1)
    rw [h3] at this
    omega
  have rest:=x5b cs w ps hps L hll cp at_ hat (wantN ps) hXl q17 hpart hall0 (fun x hx=>hnn hx) hpw
  simp -dsimp [h]
  rcases hfirst with ⟨e1,hw0⟩ | ⟨f,hf,e1,_,hw0,htf⟩
  ·have e2:la=-1:=by rw [hlast,hw0]
   have eX:wantN ps=[]:=by simp [wantN,hw0]
   rw [eX] at rest
   have hba:ba []=⟨#[]⟩:=rfl
   rw [hba] at rest
   subst e1 e2
   refine loopC 0 (fun _=>⟨[(1,.p (.int .u8 at_)),(5,.p (.bool true)),(6,.ptr (6,0) 3 0 0),(7,.p (.sl 9 (cs.map corRow))),(8,.p (.sl 6 (L.map dplRow))),(9,.p (.str ⟨#[]⟩)),(10,.p (.int .i64 ps.length)),(11,.p (.int .i64 (-1))),(14,.p (.int .i64 ps.length))],
    [((6,0),.box [.p (.int .i64 w),.p (.sl 3 (cs.map pinRow)),.p (.sl 4 (ps.map parRow))])]⟩) (fun _=>True) (fun d hd _=>?_) trivial (by simp)
   have n1:¬(ps.length:Int)≤-1:=by omega
   simp -dsimp [n1,↓ awpC_of xc5b]
   exact awpC_in rest
  ·obtain ⟨l,el,hfl,hll2,hj⟩:=jS_want hf hw0 htf
   have e2:la=l:=by rw [hlast,el]
   subst e1 e2
   have hba:ba []=⟨#[]⟩:=rfl
   refine loopC (l - f+1) (fun d=>⟨[(1,.p (.int .u8 at_)),(5,.p (.bool true)),(6,.ptr (6,0) 3 0 0),(7,.p (.sl 9 (cs.map corRow))),(8,.p (.sl 6 (L.map dplRow))),(9,.p (.str (ba (jS ps f d)))),(10,.p (.int .i64 f)),(11,.p (.int .i64 l)),(14,.p (.int .i64 ((f+d:Nat):Int)))],
    [((6,0),.box [.p (.int .i64 w),.p (.sl 3 (cs.map pinRow)),.p (.sl 4 (ps.map parRow))])]⟩) (fun _=>True) (fun d hd _=>?_) trivial (by simp [jS,ba])
   by_cases hdl:f+d≤l
   ·have hk:f+d<ps.length:=by omega
    obtain ⟨⟨t,s⟩,ex⟩:∃ x,ps[f+d]=x:=⟨_,rfl⟩
    have ht12:=(hps.2 ⟨t,s⟩ (by rw [←ex];simp)).1
    dsimp only at ht12
    have hjs:jS ps f (d+1)=jS ps f d++(if 0<d then [10] else [])++t:=by
     simp only [jS,List.getElem?_eq_getElem hk,ex]
    have hjl:=jS_len hps f d
    obtain ⟨J,eJ⟩:∃ J,jS ps f d=J:=⟨_,rfl⟩
    rw [eJ] at hjs hjl ⊢
    rw [hjs]
    obtain ⟨m,em⟩:∃ m,f+d=m:=⟨_,rfl⟩
    have wm:R ((m:Int)+1):=⟨by omega,by omega⟩
    have em2:f+(d+1)=m+1:=by omega
    have c1:(m:Int)≤l:=by omega
    simp only [em] at hk ex
    rw [em,em2]
    have b10:(⟨#[10]⟩:ByteArray)=ba [10]:=rfl
    have l1:J.length+1≤9223372036854775807:=by omega
    have l2:J.length+1+t.length≤9223372036854775807:=by omega
    have l3:J.length+t.length≤9223372036854775807:=by omega
    by_cases hd0:0<d
    ·have c2:(f:Int)<m:=by omega
     simp -dsimp [c1,c2,hd0,b10,ba_app,l1,l2,hk,ex,parRow,wr wm]
     omega
    ·have c2:¬(f:Int)<m:=by omega
     simp -dsimp [c1,c2,hd0,ba_app,l3,hk,ex,parRow,wr wm]
     omega
   ·have edl:d=l - f+1:=by omega
    subst edl
    rw [hj,show f+(l - f+1)=l+1 by omega]
    have c1:¬(l:Int)+1≤l:=by omega
    simp -dsimp [c1,↓ awpC_of xc5b]
    exact awpC_in rest
end
end Go.Abs.A30
namespace Go.Proofs.YtlkbeomimbohlaaGreat
open Go Go.Abs Go.ChangeShapes Go.WideShapes Go.RowKit Go.Proofs Go.Abs.A30
set_option maxRecDepth 100000
set_option linter.unusedVariables false
theorem pageCopies_lifted (os:Os) (started:os.Started) (H:Type) (enc:TypeId×Value→H) :
  ReturnsInHanded {} Tryz.checked os 5 .any (ChangeSpec.pre6 enc Tryz.prog Tryz.f5 Rows.pageCopiesSpec [] false)
   (Rows.pageCopiesSpec.post enc Tryz.prog Tryz.f5 false true false false):=by
 refine returnsInHanded_of_change (C:=Tryz.checked) own started (by kernel_rfl) Tryz.func5
  (ChangeSpec.witness6_at (enc:=enc) (C:=Tryz.checked) (os:=os) false (restWorld os) #[.agg #[.slice none 0 0,.slice none 0 0],.int .u8 0] 8 rfl (by kernel_rfl) (by kernel_rfl) (by kernel_rfl) (by kernel_rfl) (by kernel_rfl)) ?_
 intro W base args ds gs before hval hW _ _
 have hW':=hW
 obtain ⟨p,q,hA,hV,-,-,-⟩:=hW'
 have hA:DataW.TrodAll enc Tryz.prog W 0 (fun _=>true) true Tryz.f5.params.toList args.toList ds p:=hA
 rw [Tryz.params5] at hA
 have hval:∀ (j:Nat) t v,Tryz.f5.params[j]?=some t→args[j]?=some v→Value.okWide Tryz.prog W .any base t v:=hval
 rw [Tryz.params5] at hval
 obtain ⟨v0,v1,d0,d1,p0,p1,rfl,rfl,rfl,h0,h1⟩:=trodAll_two hA
 obtain ⟨a0,o0,r0⟩:=Rd.argT Tryz.underlying25 rd_case (hval 0 25 v0 rfl rfl) h0
 obtain ⟨a1,o1,r1⟩:=Rd.argI Tryz.underlying5 rd_u8 (hval 1 5 v1 rfl rfl) h1
 exact law_step rfl rfl hW rfl (by decide +kernel) (law5 a0.1 a0.2 o0.1 o0.2 a1 o1) (Ps.cons r0 (Ps.one r1))
theorem pageCopies_holds:Rows.PageCopiesSaid:=
 OpenClaim.holds_of_wide 5 Tryz.f5 rfl rfl rfl rfl rfl rfl rfl ⟨rfl,rfl,rfl,rfl,rfl⟩ rfl rfl rfl rfl rfl (by kernel_rfl) Tryz.func5 (by kernel_rfl)
  (of_decide_eq_true (by kernel_rfl)) (by unfold Func.isWrapper;rw [if_neg (of_decide_eq_false (by kernel_rfl))];exact ⟨rfl,rfl⟩)
  (fun os started H enc _=>pageCopies_lifted os started H enc)
end Go.Proofs.YtlkbeomimbohlaaGreat
