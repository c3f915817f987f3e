/- A part of the proof: an abstract reading of the model, contracts of functions. -/
import Derived.Test.YtinblgdfhmllnaaGreatC23
import Derived.Test.YtinblgdfhmllnaaGreatProg
set_option linter.unusedVariables false
set_option linter.unusedSimpArgs false
namespace Go.Abs.A29
open Go Go.Abs Go.Proofs
set_option maxRecDepth 100000
set_option linter.unusedVariables false
set_option linter.unusedSimpArgs false
attribute [local simp ↓] awp_skip awp_seq awp_cond awp_block awp_exit awp_ret awp_reg awp_draw awp_ghost awp_loop awp_rfun awpR_nil awpR_cons awpX_nil awpX_0 awpX_1 awpX_2 awpI_eq awpI_t awpI_f awpStep_eq
attribute [local simp] condL_true condL_false condL_dec evDel evV evN evS evA initFr Ghost.app Fr.var Fr.blk Fr.ff FF.val Abs.look Fr.app Fr.erase Fr.noSlot AV.noSlot AV.noSlotL Blk.noSlot Fr.spoken AV.fz AV.fzL Blk.fz binV binI shI binS unV fillA FF.parts FF.vals headO intO boundO lenV scalarEq leavesEq AV.aggc AV.cells FF.read FF.rows AV.one PV.one chunk freshB newS pickV retK evRs evRl evR resOf mkTup mkAgg allP cloOf okP_nil okX_p okX okP addN Del.noSlot Del.owners Rnd reify_p normM insM Fr.back Fr.backV Fr.setPs normV insV
attribute [local simp] renF Fr.trim Blk.trim AV.rn AV.rnL Blk.rn AV.among AV.amongL Blk.among okF retM fixS BIG initFF
attribute [local simp] FF.reify FF.reifyL PV.flat
attribute [local simp] ym yn yl yk yb yc yf yj yh qp qe qi qo qg qa qk qz qm ql qt qf qj qn qb qc qs qr qq qd
section
set_option maxHeartbeats 1000000
attribute [local simp] w1
theorem sumW_first (c:Cor) (s:Stg) (b x:Int) (l:List Int):sumW c s b (x :: l)=sumW c s (-1) (x :: l)+(if 0≤b then betwN c b x s.size else 0):=by
 have n1:¬(0:Int)≤-1:=by omega
 simp only [sumW,n1,if_false]
 omega
theorem takeLast {l:List Int} (hn:∀ x∈l,0≤x) {j:Nat} (h:j≤l.length):(0≤(l.take j).getLastD (-1)↔0<j)∧(0<j→l[j - 1]?=some ((l.take j).getLastD (-1))):=by
 rcases Nat.eq_zero_or_pos j with rfl | h0
 ·simp
 ·obtain ⟨i,rfl⟩:∃ i,j=i+1:=⟨j - 1,by omega⟩
  have hi:i<l.length:=by omega
  have e:(l.take (i+1)).getLastD (-1)=l[i]:=by
   have:l.take (i+1)=l.take i++[l[i]]:=by rw [List.take_add_one,List.getElem?_eq_getElem hi];rfl
   rw [this,List.getLastD_eq_getLast?,List.getLast?_concat];rfl
  rw [e,Nat.add_sub_cancel,List.getElem?_eq_getElem hi]
  have:=hn l[i] (by simp)
  exact ⟨⟨fun _=>h0,fun _=>this⟩,fun _=>rfl⟩
theorem b16 (cs:List Cor) (hcs:CorsOk2 cs) (t:List UInt8) (hl:t.length≤1000000) (s:Stg) (hs:s.at_.length≤1000) :
  Best Tryz.prog 16 [.sl 9 (cs.map corRow),.str (ba t),.agg (stgRow s)] (.p (.sl 1 ((widthsN cs t s).map intRow))):=by
 refine best mixed fn16 ok16 (by simp [stgRow]) ?_
 unfold widthsN
 have q41:=b41 s hs
 simp -dsimp [ac16,stgRow,↓ awpC_of xc16b]
 refine call_p q41 (by simp [stgRow]) (by simp) ?_
 by_cases h1:fitN s=true
 rotate_left
 ·simp -dsimp [h1,resOf,↓ awpC_of xc16b]
 obtain ⟨f1,f2,f3⟩:=fitN_b h1
 simp -dsimp [h1,↓ awpC_of xc16b]
 refine call_p (b33 t hl) (by simp) (by simp) ?_
 simp -dsimp [↓ awpC_of xc16b]
 refine call_p (b14 cs hcs.one t hl) (by simp) (by simp) ?_
 have hsl:=splT_len t
 have hm:∀ x∈splT t,x.1<x.2∧x.2≤t.length∧x.2 - x.1≤6:=fun x hx=>splT_mem hx
 have hfl:(fontsN cs t).length=(splT t).length:=by simp [fontsN]
 have hfg:∀ j (hj:j<(splT t).length),(fontsN cs t)[j]'(by omega)=fontN cs t ((splT t)[j]):=fun j hj=>by simp [fontsN]
 have hV:∀ i,wdN cs t s i=wdN cs t s i:=fun _=>rfl
 conv at hV=>intro i;rhs;unfold wdN befN
 obtain ⟨T,eT⟩:∃ T,splT t=T:=⟨_,rfl⟩
 obtain ⟨Fs,eF⟩:∃ Fs,fontsN cs t=Fs:=⟨_,rfl⟩
 simp only [eT,eF] at hm hfl hfg hV hsl ⊢
 obtain ⟨W,eW⟩:∃ W:Nat→List Int,W=fun k=>(List.range k).map (wdN cs t s):=⟨_,rfl⟩
 have hW0:W 0=[]:=by rw [eW];rfl
 have hWl:∀ k,(W k).length=k:=fun k=>by rw [eW];simp
 have hWs:∀ k,(W (k+1)).map intRow=(W k).map intRow++[[.int .i64 (wdN cs t s k)]]:=fun k=>by rw [eW];simp [List.range_succ,intRow]
 have hWe:(List.range T.length).map (wdN cs t s)=W T.length:=by rw [eW]
 rw [hWe]
 simp -dsimp [↓ awpC_of xc16b]
 refine loopC T.length (fun k=>⟨[(0,.p (.sl 9 (cs.map corRow))),(1,.p (.str (ba t))),(5,.ptr (5,0) 3 0 0),(7,.p (.sl 2 (T.map spRow))),(8,.p (.sl 1 (Fs.map intRow))),(9,.ref (52,0) 1 0 k),(10,.p (.int .i64 k))],
  [((5,0),.box [.p (.int .i64 s.size),.p (.sl 1 (s.at_.map intRow)),.p (.int .i64 s.feat)]),((52,0),.sl 3 1 ((W k).map intRow))]⟩) (fun _=>True) (fun k hk _=>?_) trivial (by simp [hW0])
 by_cases h:k<T.length
 rotate_left
 ·have:k=T.length:=by omega
  subst this
  have hl:=hWl T.length
  have ht:List.take T.length ((W T.length).map intRow)=(W T.length).map intRow:=List.take_of_length_le (by simp [hl])
  simp -dsimp [h,h1,resOf,ht,hl,↓ awpC_of xc16b]
 have wk:R ((k:Int)+1):=⟨by omega,by omega⟩
 have m1:k+1≤maxLen:=by unfold maxLen;omega
 have e1:(k+1)*8≤140737488355328:=by omega
 have hl1:=hWl k
 have hs1:=hWs k
 have eV:=hV k
 obtain ⟨L,eL⟩:∃ L,W k=L:=⟨_,rfl⟩
 obtain ⟨V,exx⟩:∃ x,wdN cs t s k=x:=⟨_,rfl⟩
 rw [exx] at hs1 eV
 rw [eL] at hs1 hl1
 have ht:List.take (k+1) (L.map intRow++[[.int .i64 V]])=L.map intRow++[[.int .i64 V]]:=List.take_of_length_le (by simp;omega)
 rw [eL,hs1]
 obtain ⟨⟨a,b⟩,ex⟩:∃ x,T[k]=x:=⟨_,rfl⟩
 obtain ⟨hab,hb,h6⟩:=hm (a,b) (by rw [←ex];simp)
 dsimp only at hab hb h6
 have exd:T.getD k (0,0)=(a,b):=by simp [h,ex]
 obtain ⟨fo,ef⟩:∃ fo,fontN cs t (a,b)=fo:=⟨_,rfl⟩
 have hfi:=hfg k h
 rw [ex,ef] at hfi
 have hFi:k<Fs.length:=by omega
 rw [exd,ef] at eV
 by_cases h2:fo<0
 ·have wd:R (s.size.tdiv 2):=R_tdiv (d:=2) (⟨by omega,by omega⟩:R s.size) (by omega)
  simp -dsimp [h,hFi,hfi,ex,spRow,intRow,h2,wr wd,↓ awpC_of xc16b]
  refine call_p (b34 t a b hab hb hl) (by simp [spRow]) (by simp) ?_
  by_cases h3:clsT t (baseT t a b)=1
  ·rw [if_pos h3] at eV
   subst eV
   simp -dsimp [h3,h,m1,e1,hl1,ht,wr wk,List.range,List.range.loop,-List.all_eq_true,↓ awpC_of xc16b]
  ·rw [if_neg h3,if_pos h2] at eV
   subst eV
   simp -dsimp [h3,h,m1,e1,hl1,ht,wr wk,List.range,List.range.loop,-List.all_eq_true,↓ awpC_of xc16b]
 have h3:¬clsT t (baseT t a b)=1:=fun e=>by
  have:fontN cs t (a,b)=-1:=by simp [fontN,e]
  omega
 obtain ⟨m,hm1,hm2⟩:=fontN_lt (cs:=cs) (t:=t) (x:=(a,b)) (by rw [ef];exact h2)
 rw [ef] at hm1
 subst hm1
 obtain ⟨c,ec⟩:∃ c,cs[m]=c:=⟨_,rfl⟩
 have hcm:c∈cs:=by rw [←ec];simp
 have hgc:cs.getD (m:Int).toNat cor0=c:=by simp [hm2,ec]
 rw [if_neg h3,if_neg h2,hgc] at eV
 dsimp only at eV
 have hco:=hcs.2 c hcm
 have hp:=hco.prb
 have hpl:=hco.pr
 have hch:c.ch.length≤1000:=hco.ch
 have hax:c.ax.length≤1000:=hco.ax
 have hC:(codesT t a b).length≤6:=by have:=codesT_len (t:=t) (a:=a) (b:=b);omega
 have hCn:∀ x∈codesT t a b,0≤x:=codesT_nn
 have q35:=b35 t a b hab hb hl
 obtain ⟨C,eC⟩:∃ C,codesT t a b=C:=⟨_,rfl⟩
 rw [eC] at eV hC hCn q35
 simp -dsimp [h,hFi,hfi,ex,spRow,intRow,h2,↓ awpC_of xc16b]
 refine awpC_in ?_
 simp -dsimp [xc16b,hFi,hfi,intRow,hm2,ec,corRow,↓ awpC_of xc16c]
 refine call_p (b11 c hax s hs) (by simp [corRow,stgRow]) (by simp) ?_
 simp -dsimp [stgRow,h,ex,spRow,↓ awpC_of xc16c]
 refine call_p q35 (by simp [spRow]) (by simp) ?_
 simp -dsimp [stgRow,h,ex,spRow,↓ awpC_of xc16c]
 have kz:k+1≤1000001:=by omega
 refine loopC C.length (fun j=>⟨[(0,.p (.sl 9 (cs.map corRow))),(1,.p (.str (ba t))),(5,.ptr (5,0) 3 0 0),(7,.p (.sl 2 (T.map spRow))),(8,.p (.sl 1 (Fs.map intRow))),(9,.ref (52,0) 1 0 k),(10,.p (.int .i64 k)),(12,.ptr (12,0) 9 0 0),(13,.ptr (13,0) 3 0 0),(14,.p (.sl 1 (C.map intRow))),(15,.p (.int .i64 (sumW c s (-1) (C.take j)))),(16,.p (.int .i64 j))],
  [((5,0),.box [.p (.int .i64 s.size),.p (.sl 1 (s.at_.map intRow)),.p (.int .i64 s.feat)]),((12,0),.box ((corRow c).map .p)),((13,0),.box ((stgRow (s.own c.ax.length)).map .p)),((52,0),.sl 3 1 (L.map intRow))]⟩) (fun _=>True) (fun j hj _=>?_) trivial (by simp [sumW,stgRow,corRow])
 by_cases h4:j<C.length
 ·obtain ⟨x,ex4⟩:∃ x,C[j]=x:=⟨_,rfl⟩
  have hx:C[j]?=some x:=by simp [h4,ex4]
  have hsn:=sumW_snoc c s x (C.take j) (-1)
  have htk:C.take (j+1)=C.take j++[x]:=by rw [List.take_add_one,hx];rfl
  rw [←htk] at hsn
  have hb4:=sumW_b hp s (C.take j) (-1)
  have hl2:(C.take j).length≤6:=by simp;omega
  have wj:R ((j:Int)+1):=⟨by omega,by omega⟩
  have hw:(widthN c x (s.own c.ax.length)).1=cwN c s x:=rfl
  have hcb:=cwN_b (c:=c) (s:=s) (x:=x)
  have q42:=b42 c hch x (s.own c.ax.length) (Cor.fine.w hco x (s.own c.ax.length) (by simp [Stg.own,setN];omega))
  obtain ⟨g1,g2⟩:=takeLast hCn (j:=j) (by omega)
  have hbb:=betwN_b hp (a:=(C.take j).getLastD (-1)) (b:=x) (n:=s.size)
  obtain ⟨l,el⟩:∃ l,(C.take j).getLastD (-1)=l:=⟨_,rfl⟩
  obtain ⟨v,ev⟩:∃ v,sumW c s (-1) (C.take j)=v:=⟨_,rfl⟩
  obtain ⟨z,ez⟩:∃ z,cwN c s x=z:=⟨_,rfl⟩
  obtain ⟨w,ew⟩:∃ w,betwN c l x s.size=w:=⟨_,rfl⟩
  obtain ⟨v',ev'⟩:∃ v',sumW c s (-1) (C.take (j+1))=v':=⟨_,rfl⟩
  rw [el,ev,ez,ew,ev'] at hsn
  rw [ev] at hb4
  rw [ez] at hcb hw
  rw [el,ew] at hbb
  rw [el] at g1 g2
  rw [ev,ev']
  have w1':R (v+z):=⟨by omega,by omega⟩
  have w2':R (v+z+w):=⟨by omega,by omega⟩
  simp -dsimp [h4,ex4,intRow,stgRow,corRow,↓ awpC_of xc16c]
  refine call_p q42 (by simp [stgRow,corRow]) (by simp) ?_
  rw [hw]
  rcases Nat.eq_zero_or_pos j with h0 | h0
  ·rw [if_neg (fun e=>by have:=g1.1 e;omega)] at hsn
   subst h0
   simp -dsimp [h4,wr w1',hsn,stgRow,corRow,↓ awpC_of xc16c]
  ·rw [if_pos (g1.2 h0)] at hsn
   have g3:=g2 h0
   obtain ⟨i,rfl⟩:∃ i,j=i+1:=⟨j - 1,by omega⟩
   have hi:i<C.length:=by omega
   rw [Nat.add_sub_cancel,List.getElem?_eq_getElem hi] at g3
   have g4:C[i]=l:=Option.some.inj g3
   have wi:R (i:Int):=⟨by omega,by omega⟩
   have i0:0<(i:Int)+1:=by omega
   have wj2:R ((i:Int)+1+1):=⟨by omega,by omega⟩
   have i1:0≤(i:Int)+1:=by omega
   simp -dsimp [h4,i0,i1,ex4,hi,g4,wr w1',wr wi,hsn,intRow,stgRow,corRow,↓ awpC_of xc16c]
   refine call_p (b43 c (by omega) hp l x s.size) (by simp [corRow]) (by simp) ?_
   rw [ew]
   simp -dsimp [h4,wr w2',wr wj2,hsn,stgRow,corRow,↓ awpC_of xc16c]
 have:j=C.length:=by omega
 subst this
 rw [List.take_length]
 simp -dsimp [h4,corRow,stgRow,↓ awpC_of xc16c]
 refine awpC_in ?_
 have hbC:=sumW_b hp s C (-1)
 obtain ⟨v,ev⟩:∃ v,sumW c s (-1) C=v:=⟨_,rfl⟩
 rw [ev] at hbC ⊢
 rcases Nat.eq_zero_or_pos k with h0 | h0
 ·rw [if_neg (fun e=>by omega),ev] at eV
  have heq:max v 0=V:=eV.symm
  subst h0
  simp -dsimp [xc16c,↓ awpC_of xc16d]
  refine awpC_in ?_
  simp -dsimp [xc16d,heq,h,m1,e1,hl1,ht,wr wk,List.range,List.range.loop,-List.all_eq_true]
 obtain ⟨p,rfl⟩:∃ p,k=p+1:=⟨k - 1,by omega⟩
 have hpT:p<T.length:=by omega
 have hFp:p<Fs.length:=by omega
 obtain ⟨⟨a',b'⟩,ex'⟩:∃ x,T[p]=x:=⟨_,rfl⟩
 obtain ⟨hab',hb',h6'⟩:=hm (a',b') (by rw [←ex'];simp)
 dsimp only at hab' hb' h6'
 have hfp:=hfg p hpT
 rw [ex'] at hfp
 have exd':T.getD p (0,0)=(a',b'):=by simp [hpT,ex']
 rw [Nat.add_sub_cancel,exd'] at eV
 obtain ⟨fp,efp⟩:∃ fp,fontN cs t (a',b')=fp:=⟨_,rfl⟩
 rw [efp] at hfp eV
 have wp:R (p:Int):=⟨by omega,by omega⟩
 have wk2:R ((p:Int)+1+1):=⟨by omega,by omega⟩
 have p0:0<(p:Int)+1:=by omega
 have p1:0≤(p:Int)+1:=by omega
 by_cases h5:fp=m
 rotate_left
 ·rw [if_neg (fun e=>h5 e.2),ev] at eV
  have heq:max v 0=V:=eV.symm
  simp -dsimp [xc16c,p0,p1,hFp,hfp,hFi,hfi,h5,intRow,wr wp,↓ awpC_of xc16d]
  refine awpC_in ?_
  simp -dsimp [xc16d,heq,h,m1,e1,hl1,ht,wr wk2,List.range,List.range.loop,-List.all_eq_true]
 rw [if_pos ⟨h0,h5⟩] at eV
 by_cases h7:C=[]
 ·subst h7
  have hv:v=0:=ev.symm
  have heq:max v 0=V:=by rw [hv,eV];rfl
  simp -dsimp [xc16c,p0,p1,hFp,hfp,hFi,hfi,h5,intRow,wr wp,↓ awpC_of xc16d]
  refine awpC_in ?_
  simp -dsimp [xc16d,heq,h,m1,e1,hl1,ht,wr wk2,List.range,List.range.loop,-List.all_eq_true]
 obtain ⟨x,C',rfl⟩:=List.exists_cons_of_ne_nil h7
 have c0:0<((x :: C').length:Int):=by rw [List.length_cons];omega
 have q35':=b35 t a' b' hab' hb' hl
 have hDl:=codesT_len (t:=t) (a:=a') (b:=b')
 have hDn:∀ x∈codesT t a' b',0≤x:=codesT_nn
 obtain ⟨D,eD⟩:∃ D,codesT t a' b'=D:=⟨_,rfl⟩
 rw [eD] at eV q35' hDl hDn
 simp -dsimp [xc16c,p0,p1,hFp,hfp,hFi,hfi,h5,c0,hpT,ex',spRow,intRow,wr wp,↓ awpC_of xc16d]
 refine call_p q35' (by simp [spRow]) (by simp) ?_
 by_cases h8:D=[]
 ·subst h8
  rw [sumW_first,if_neg (by simp),ev] at eV
  have heq:max v 0=V:=by rw [eV];simp
  simp -dsimp [↓ awpC_of xc16d]
  refine awpC_in ?_
  simp -dsimp [xc16d,heq,h,m1,e1,hl1,ht,wr wk2,List.range,List.range.loop,-List.all_eq_true]
 have d0:0<D.length:=List.length_pos_iff.2 h8
 have d1:0<(D.length:Int):=by omega
 obtain ⟨y,ey⟩:∃ y,D.getLastD (-1)=y:=⟨_,rfl⟩
 have ey':D[D.length - 1]=y:=by rw [←ey,List.getLastD_eq_getLast?,List.getLast?_eq_getElem?,List.getElem?_eq_getElem (by omega)];rfl
 have y0:0≤y:=by rw [←ey'];exact hDn _ (by simp)
 have wl:R ((D.length:Int) - 1):=⟨by omega,by omega⟩
 have ln:(0:Int)≤(D.length:Int) - 1:=by omega
 have lt:((D.length:Int) - 1).toNat=D.length - 1:=by omega
 have lt2:D.length - 1<D.length:=by omega
 have l1:1≤(D.length:Int):=by omega
 rw [ey,sumW_first,if_pos y0,ev] at eV
 have hbb:=betwN_b hp (a:=y) (b:=x) (n:=s.size)
 have q43:=b43 c (by omega) hp y x s.size
 obtain ⟨w,ew⟩:∃ w,betwN c y x s.size=w:=⟨_,rfl⟩
 rw [ew] at eV hbb q43
 have heq:max (v+w) 0=V:=eV.symm
 have w2':R (v+w):=⟨by omega,by omega⟩
 simp -dsimp [d0,↓ awpC_of xc16d]
 simp -dsimp [d0,d1,wr wl,ln,l1,lt,lt2,ey',intRow,corRow,↓ awpC_of xc16d]
 refine call_p q43 (by simp [corRow]) (by simp) ?_
 simp -dsimp [wr w2',↓ awpC_of xc16d]
 refine awpC_in ?_
 simp -dsimp [xc16d,heq,h,m1,e1,hl1,ht,wr wk2,List.range,List.range.loop,-List.all_eq_true]
end
section
def ac86:AC:=by
 apply fun (y:AC) (_:@Eq AC (qk [0] (qs (qr [(qp 2 (.mov (qz 0)))]) (qk [0] (qs (qs (qr [(ym 6 0),(qi 7 (.s2b 5 (.v 6)) [0]),(yh 8 7 [1]),(qp 9 (.mov (qz 0)))]) (qk [7,8,9] (.block 0 (.loop (qk [7,8,9] (qs (qr [(qp 10 (qb .lss 9 8))]) (qk [7,8,9,10] (qs (qq (.v 10) .skip (.exit 0)) (qk [7,8,9] (qs (.block 1 (qs (qr [(qp 11 (qj 1 7 9)),(yk 12 11 [0]),(yn 4 12 [1,0,1])]) (qk [4,7,8,9] (qs (qr [(ym 13 4),(qi 14 (.conv .i64 (.v 13)) [0]),(qi 15 (.call 125 [.v 14]) [1]),(yn 5 15 [2,2,0,1,2])]) (qk [5,7,8,9] (qs (qr [(ym 16 5),(yc 17 .eql 16 (qz 1) [0]),(yn 18 17 [1]),(qg 19 (qm 5) 18 false [2]),(qg 20 (qc .eql 19 (qz 2)) 18 false [3,2]),(qi 21 (.pick (.v 18) (.c (.bool true)) (.v 20)) [2,4])]) (qk [5,7,8,9,21] (qq (.v 21) (qs (qr [(ym 22 5),(yn 2 22 [0,0])]) (qk [2] .ret)) .skip)))))))) (qk [7,8,9] (qr [(qp 23 (qc .add 9 (qz 1))),(yn 9 23 [0])])))))))))))) (qk [] (qs (qr [(qp 2 (.mov (qz 1)))]) (qk [2] .ret))))))) y)=>y
 dsimp
theorem fn86:factOf Tryz.prog 86=some (ac86.strip,[.tmp 2],24):=by kernel_rfl
theorem ok86:ac86.okAll=true:=by kernel_rfl
def ac47:AC:=by
 apply fun (y:AC) (_:@Eq AC (qk [0] (qs (qr [(qp 2 (.mov (.c (.bool false))))]) (qk [0] (qs (qr [(ym 3 0),(qi 4 (.call 86 [.v 3]) [0]),(yc 5 .eql 4 (qz 2) [1]),(yn 2 5 [2,1,0,1,2])]) (qk [2] .ret))))) y)=>y
 dsimp
theorem fn47:factOf Tryz.prog 47=some (ac47.strip,[.tmp 2],6):=by kernel_rfl
theorem ok47:ac47.okAll=true:=by kernel_rfl
def ac127:AC:=by
 apply fun (y:AC) (_:@Eq AC (qk [0] (qs (qr [(qp 2 (.mov (.c (.bool false))))]) (qk [0] (qs (qr [(ym 3 0),(yc 4 .eql 3 (qz 0) [0]),(yn 2 4 [1,0,1])]) (qk [2] .ret))))) y)=>y
 dsimp
theorem fn127:factOf Tryz.prog 127=some (ac127.strip,[.tmp 2],5):=by kernel_rfl
theorem ok127:ac127.okAll=true:=by kernel_rfl
def ac126:AC:=by
 apply fun (y:AC) (_:@Eq AC (qk [0,1] (qs (qr [(qp 2 (.box (.v 0))),(qp 3 (.box (.v 1))),(qp 4 (.mov (.c .nfn)))]) (qk [2,3] (qs (qr [(qp 5 (.mkfn (.func 162) [] [.v 2,.v 3])),(yn 4 5 [0,0])]) (qk [4] .ret))))) y)=>y
 dsimp
theorem fn126:factOf Tryz.prog 126=some (ac126.strip,[.tmp 4],6):=by kernel_rfl
theorem ok126:ac126.okAll=true:=by kernel_rfl
def ac162:AY:=(.ghost (.keep [0,1,2])
 (.seq (.reg [⟨some 4,.mov (.c (.int .i64 0)),none,[]⟩])
 (.ghost (.keep [0,1,2,4]) (.block 0 (.loop (.ghost (.keep [0,1,2,4]) (.seq (.seq (.reg [⟨some 7,.mov (.v 4),none,[]⟩,
  ⟨some 8,.load false 1 (.v 1),none,[]⟩,
  ⟨some 9,.len false (.v 8),none,[1]⟩,
  ⟨some 10,.bin .lss (.v 7) (.v 9),none,[0,2]⟩])
 (.ghost (.keep [0,1,2,4,10]) (.cond (.v 10)
 .skip
 (.exit 0))))
 (.ghost (.keep [0,1,2,4]) (.block 1 (.seq (.draw [⟨⟨some 11,.load false 1 (.v 2),none,[]⟩,[12,13,14,15,17,18],[],[],[],2⟩,
  ⟨⟨some 12,.load false 1 (.v 1),none,[]⟩,[11,13,17,18],[],[],[0],2⟩,
  ⟨⟨some 13,.mov (.v 4),none,[]⟩,[11,12,17,18],[],[],[0,1],2⟩,
  ⟨⟨some 14,.iaddr 1 (.v 12) (.v 13),none,[1,2]⟩,[11,17,18],[],[],[0],2⟩,
  ⟨⟨some 15,.load false 1 (.v 14),none,[3]⟩,[11,17,18],[],[],[0],2⟩,
  ⟨⟨some 16,.callv (.v 11) [.v 15],none,[0,4]⟩,[17,18],[],[16],[],1⟩,
  ⟨⟨some 17,.mov (.v 4),none,[]⟩,[5,11,12,13,14,15,16],[16],[],[0,1,2,3,4,5],2⟩,
  ⟨⟨some 18,.bin .add (.v 17) (.c (.int .i64 1)),none,[6]⟩,[5,11,12,13,14,15,16],[16],[],[0,1,2,3,4,5],2⟩,
  ⟨⟨some 5,.mov (.v 16),none,[5,5,0,1,2,3,4,5]⟩,[17,18],[],[],[6,7],2⟩,
  ⟨⟨some 6,.mov (.v 18),none,[7,8,0,1,2,3,4,5,6,7,8]⟩,[],[],[],[],2⟩])
 (.ghost (.keep [0,1,2,4,5,6]) (.seq (.block 2 (.loop (.ghost (.keep [0,1,2,4,5,6]) (.seq (.seq (.draw [⟨⟨some 19,.mov (.v 6),none,[]⟩,[20,21],[],[],[],2⟩,
  ⟨⟨some 20,.load false 1 (.v 1),none,[]⟩,[19],[],[],[0],2⟩,
  ⟨⟨some 21,.len false (.v 20),none,[1]⟩,[19],[],[],[0],2⟩,
  ⟨⟨some 22,.bin .lss (.v 19) (.v 21),none,[0,2]⟩,[],[],[],[],2⟩,
  ⟨⟨some 23,.mov (.v 22),none,[3]⟩,[],[],[],[],2⟩,
  ⟨⟨some 24,.load false 1 (.v 2),some (23,true),[4]⟩,[25,26,27,28,30],[],[],[],2⟩,
  ⟨⟨some 25,.load false 1 (.v 1),some (23,true),[4]⟩,[24,26,30],[],[],[5],2⟩,
  ⟨⟨some 26,.mov (.v 6),some (23,true),[4]⟩,[24,25,30],[],[],[5,6],2⟩,
  ⟨⟨some 27,.iaddr 1 (.v 25) (.v 26),some (23,true),[6,7,4]⟩,[24,30],[],[],[5],2⟩,
  ⟨⟨some 28,.load false 1 (.v 27),some (23,true),[8,4]⟩,[24,30],[],[],[5],2⟩,
  ⟨⟨some 29,.callv (.v 24) [.v 28],some (23,true),[5,9,4,4]⟩,[30],[],[29],[],1⟩,
  ⟨⟨some 30,.mov (.v 5),some (23,true),[4]⟩,[24,25,26,27,28,29],[29],[],[5,6,7,8,9,10],2⟩,
  ⟨⟨some 31,.eqb false (.v 29) (.v 30),some (23,true),[10,11,4]⟩,[],[],[],[],2⟩,
  ⟨⟨some 32,.pick (.v 23) (.v 31) (.c (.bool false)),none,[4,12]⟩,[],[],[],[],2⟩])
 (.ghost (.keep [0,1,2,4,5,6,32]) (.cond (.v 32)
 .skip
 (.exit 2))))
 (.ghost (.keep [0,1,2,4,5,6]) (.block 3 (.reg [⟨some 33,.mov (.v 6),none,[]⟩,
  ⟨some 34,.bin .add (.v 33) (.c (.int .i64 1)),none,[0]⟩,
  ⟨some 6,.mov (.v 34),none,[1,0,1]⟩])))))))
 (.ghost (.keep [0,1,2,4,5,6]) (.seq (.seq (.yield false [⟨⟨some 35,.mov (.v 0),none,[]⟩,[36,37,38,39],[],[],[],2⟩,
  ⟨⟨some 36,.mov (.v 4),none,[]⟩,[35,37,39],[],[],[0],2⟩,
  ⟨⟨some 37,.mov (.v 6),none,[]⟩,[35,36,39],[],[],[0,1],2⟩,
  ⟨⟨some 38,.build [.int .i64 0,.int .i64 0] [(0,1,.v 36),(1,1,.v 37)],none,[1,2]⟩,[35,39],[],[],[0],2⟩,
  ⟨⟨some 39,.mov (.v 5),none,[]⟩,[35,36,37,38],[],[],[0,1,2,3],2⟩]
  ⟨some 40,.callv (.v 35) [.v 38,.v 39],none,[0,3,4]⟩ [⟨some 41,.un .not (.v 40),none,[5]⟩])
 (.ghost (.keep [0,1,2,6,41]) (.cond (.v 41)
 .ret
 .skip)))
 (.ghost (.keep [0,1,2,6]) (.reg [⟨some 42,.mov (.v 6),none,[]⟩,
  ⟨some 4,.mov (.v 42),none,[0,0]⟩]))))))))))))))))
theorem fn162:factOf Tryz.prog 162=some (ac162.strip,[],43):=by kernel_rfl
theorem ok162:ac162.okAll=true:=by kernel_rfl
def ac130:AC:=by
 apply fun (y:AC) (_:@Eq AC (qk [0,1,2] (qs (qr [(qp 4 (.mov (.c (.bool false))))]) (qk [0,1,2] (qs (qd [(qe (yl 5 1) [6,9] [] 2),(qe (ym 6 0) [5,9] [0] 2),(qe (yj 7 1 5 6 [0,1]) [9] [] 2),(qe (yk 8 7 [2]) [9] [] 2),(qe (yl 9 2) [5,6,7,8] [0,1,2,3] 2),(qe (yb 10 .geq 8 9 [3,4]) [] [] 2),(qe (yn 4 10 [5,0,1,2,3,4,5]) [] [] 2)]) (qk [4] .ret))))) y)=>y
 dsimp
theorem fn130:factOf Tryz.prog 130=some (ac130.strip,[.tmp 4],11):=by kernel_rfl
theorem ok130:ac130.okAll=true:=by kernel_rfl
def ac129:AC:=by
 apply fun (y:AC) (_:@Eq AC (qk [0] (qs (qr [(qp 2 (.mov (.c .nsl)))]) (qk [0] (qs (qs (qr [(ym 3 0),(qi 4 (.nilsl false (.v 3)) [0])]) (qk [0,4] (qq (.v 4) (qs (qr [(qp 2 (.mov (.c .nsl)))]) (qk [2] .ret)) .skip))) (qk [0] (qs (qr [(qp 5 (.bslice 3 1 0 [] [])),(ym 6 0),(qi 7 (.app 3 1 8 (.v 5) (.v 6)) [0,1]),(yn 2 7 [2,2,0,1,2])]) (qk [2] .ret))))))) y)=>y
 dsimp
theorem fn129:factOf Tryz.prog 129=some (ac129.strip,[.tmp 2],8):=by kernel_rfl
theorem ok129:ac129.okAll=true:=by kernel_rfl
def ac93:AC:=by
 apply fun (y:AC) (_:@Eq AC (qk [0] (qs (qr [(qp 1 (.box (.v 0))),(qp 2 (.mov (.c .nfn)))]) (qk [1] (qs (qr [(qp 3 (.mkfn (.func 128) [] [.v 1])),(yn 2 3 [0,0])]) (qk [2] .ret))))) y)=>y
 dsimp
theorem fn93:factOf Tryz.prog 93=some (ac93.strip,[.tmp 2],4):=by kernel_rfl
theorem ok93:ac93.okAll=true:=by kernel_rfl
def ac48:AC:=by
 apply fun (y:AC) (_:@Eq AC (qk [0] (qs (qr [(qp 2 (.mov (.c .nfn)))]) (qk [0] (qs (qr [(ym 3 0),(qi 4 (.call 94 [.v 3]) [0]),(qi 5 (.call 93 [.v 4]) [1,1]),(yn 2 5 [2,2,0,1,2])]) (qk [2] .ret))))) y)=>y
 dsimp
theorem fn48:factOf Tryz.prog 48=some (ac48.strip,[.tmp 2],6):=by kernel_rfl
theorem ok48:ac48.okAll=true:=by kernel_rfl
def ac128:AY:=(.ghost (.keep [0,1])
 (.seq (.reg [⟨some 5,.load false 1 (.v 1),none,[]⟩,
  ⟨some 6,.len false (.v 5),none,[0]⟩,
  ⟨some 7,.mov (.c (.int .i64 0)),none,[]⟩])
 (.ghost (.keep [0,5,6,7]) (.block 0 (.loop (.ghost (.keep [0,5,6,7]) (.seq (.reg [⟨some 8,.bin .lss (.v 7) (.v 6),none,[]⟩])
 (.ghost (.keep [0,5,6,7,8]) (.seq (.cond (.v 8)
 .skip
 (.exit 0))
 (.ghost (.keep [0,5,6,7]) (.seq (.block 1 (.seq (.reg [⟨some 9,.iaddr 1 (.v 5) (.v 7),none,[]⟩,
  ⟨some 10,.load false 1 (.v 9),none,[0]⟩,
  ⟨some 4,.mov (.v 10),none,[1,0,1]⟩])
 (.ghost (.keep [0,4,5,6,7]) (.seq (.yield false [⟨⟨some 11,.mov (.v 0),none,[]⟩,[12],[],[],[],2⟩,
  ⟨⟨some 12,.mov (.v 4),none,[]⟩,[11],[],[],[0],2⟩]
  ⟨some 13,.callv (.v 11) [.v 12],none,[0,1]⟩ [⟨some 14,.un .not (.v 13),none,[2]⟩])
 (.ghost (.keep [0,5,6,7,14]) (.cond (.v 14)
 .ret
 .skip))))))
 (.ghost (.keep [0,5,6,7]) (.reg [⟨some 15,.bin .add (.v 7) (.c (.int .i64 1)),none,[]⟩,
  ⟨some 7,.mov (.v 15),none,[0]⟩])))))))))))))
theorem fn128:factOf Tryz.prog 128=some (ac128.strip,[],16):=by kernel_rfl
theorem ok128:ac128.okAll=true:=by kernel_rfl
end
section
attribute [local simp ↓] awpY_skip awpY_seq awpY_cond awpY_block awpY_loop awpY_exit awpY_ret awpY_reg awpY_draw awpY_ghost awpY_yt awpY_yf stepY_eq awpY_scope awpY_label
attribute [local simp] coreY Fr.pure AV.pur
set_option maxHeartbeats 400000
attribute [local simp] evC
attribute [local simp ↓] oneN oneI oneSp
attribute [local simp] ba_size wb ba_at w1
def strongB (b:UInt8):Bool:=decide (strongN b.toNat=1) || decide (strongN b.toNat=2)
def baseN (t:List UInt8):Int:=match t.find? strongB with | some b=>strongN b.toNat | none=>1
theorem oneB (z:List UInt8):((z.map byteRow).all fun r=>r.all PV.one)=true:=by
 rw [List.all_eq_true];intro r hr;obtain ⟨x,_,rfl⟩:=List.mem_map.1 hr;rfl
attribute [local simp ↓] oneB
theorem b86 (t:List UInt8) (hl:t.length≤1000000):Best Tryz.prog 86 [.str (ba t)] (.p (.int .i64 (baseN t))):=by
 refine best mixed fn86 ok86 (by simp) ?_
 have hd:(ba t).data.toList=t:=by simp [ba]
 have h0:t.length≤9223372036854775807:=by omega
 simp -dsimp [ac86,hd,h0]
 refine loopC t.length (fun k=>⟨[(7,.p (.sl 1 (t.map byteRow))),(8,.p (.int .i64 t.length)),(9,.p (.int .i64 k))],[]⟩) (fun k=>∀ y∈t.take k,strongB y=false) (fun k hk hall=>?_) (by simp) (by simp)
 by_cases h:k<t.length
 ·obtain ⟨x,ex⟩:∃ x,t[k]=x:=⟨_,rfl⟩
  have hx:t[k]?=some x:=by simp [h,ex]
  have wk:R ((k:Int)+1):=⟨by omega,by omega⟩
  have wx:R (x.toNat:Int):=⟨by omega,by have:=x.toNat_lt;omega⟩
  have hit:strongB x=true→baseN t=strongN x.toNat:=fun h2=>by
   unfold baseN
   have:t.find? strongB=some x:=by
    rw [List.find?_eq_some_iff_getElem]
    refine ⟨h2,k,h,ex,fun j hj=>?_⟩
    have:=hall (t[j]'(by omega)) (List.mem_take_iff_getElem.2 ⟨j,by omega,rfl⟩)
    simp only [this,Bool.not_false]
   rw [this]
  have go:strongB x=false→∀ y∈t.take (k+1),strongB y=false:=fun h2=>take_succ_all (p:=fun y=>strongB y=false) hx hall h2
  simp -dsimp [h,ex,byteRow,wr wx]
  refine call_p (b125 x.toNat) (by simp) (by simp) ?_
  by_cases h1:strongN x.toNat=1
  ·have:=hit (by simp [strongB,h1])
   simp -dsimp [h1,this]
  by_cases h2:strongN x.toNat=2
  ·have:=hit (by simp [strongB,h2])
   simp -dsimp [h1,h2,this]
  have:=go (by simp [strongB,h1,h2])
  simp -dsimp [h,h1,h2,wr wk]
  first | done | exact this | exact ⟨h,this⟩
 ·have:k=t.length:=by omega
  subst this
  rw [List.take_length] at hall
  have:baseN t=1:=by
   unfold baseN
   rw [List.find?_eq_none.2 (fun y hy=>by simp only [hall y hy,Bool.false_eq_true,not_false_eq_true])]
  simp -dsimp [h,this]
theorem b47 (t:List UInt8) (hl:t.length≤1000000):Best Tryz.prog 47 [.str (ba t)] (.p (.bool (decide (baseN t=2)))):=by
 refine best mixed fn47 ok47 (by simp) ?_
 simp -dsimp [ac47]
 refine call_p (b86 t hl) (by simp) (by simp) ?_
 simp -dsimp
theorem b127 (n:Int):Best Tryz.prog 127 [.int .i64 n] (.p (.bool (decide (n=0)))):=by
 refine best mixed fn127 ok127 (by simp) ?_
 simp -dsimp [ac127]
theorem b130 (l:List Int) (v:Int) (i:Nat) (hi:i<l.length):Best Tryz.prog 130 [.int .i64 i,.ro [.sl 1 (l.map intRow)],.ro [.int .i64 v]] (.p (.bool (decide (v≤l.getD i 0)))):=by
 refine best mixed fn130 ok130 (by simp) ?_
 obtain ⟨x,ex⟩:∃ x,l[i]=x:=⟨_,rfl⟩
 have:l.getD i 0=x:=by simp [hi,ex]
 simp -dsimp [ac130,hi,ex,intRow,this]
theorem b126 (l:List Int) (f:FuncId) (ca:List PV):Best Tryz.prog 126 [.sl 1 (l.map intRow),.clo (.func f) [] ca] (.p (.clo (.func 162) [] [.ro [.sl 1 (l.map intRow)],.ro [.clo (.func f) [] ca]])):=by
 refine best mixed fn126 ok126 (by simp) ?_
 simp -dsimp [ac126]
theorem b93 (l:List Int):Best Tryz.prog 93 [.sl 1 (l.map intRow)] (.p (.clo (.func 128) [] [.ro [.sl 1 (l.map intRow)]])):=by
 refine best mixed fn93 ok93 (by simp) ?_
 simp -dsimp [ac93]
theorem g128 (l:List Int) (hl:l.length≤1000000):Gens Tryz.prog 128 [] [.ro [.sl 1 (l.map intRow)]] (l.map intRow):=by
 refine gens mixed fn128 ok128 (by simp) fun y=>?_
 simp -dsimp [ac128]
 refine loopYP l.length (fun k=>⟨[(0,.p (.clo (.yield y) [] [])),(5,.p (.sl 1 (l.map intRow))),(6,.p (.int .i64 l.length)),(7,.p (.int .i64 k))],[]⟩) (fun k=>k) (fun k hk=>?_) rfl (by simp)
 by_cases h:k<l.length
 ·have wk:R ((k:Int)+1):=⟨by omega,by omega⟩
  obtain ⟨x,ex⟩:∃ x,l[k]=x:=⟨_,rfl⟩
  simp -dsimp [h,ex,intRow,wr wk]
 ·have:k=l.length:=by omega
  subst this
  simp -dsimp [h]
def runE (q:Int→Bool) (l:List Int) (key:Bool) (i:Nat):Nat:=i+((l.drop i).takeWhile fun x=>q x == key).length
theorem runE_le {q:Int→Bool} {l:List Int} {key:Bool} {i:Nat} (h:i≤l.length):i≤runE q l key i∧runE q l key i≤l.length:=by
 have:=(List.takeWhile_prefix (fun x=>q x == key) (l:=l.drop i)).length_le
 rw [List.length_drop] at this
 unfold runE
 omega
theorem runE_in {q:Int→Bool} {l:List Int} {key:Bool} {i j:Nat} (h1:i≤j) (h2:j<runE q l key i) (hj:j<l.length):q (l.getD j 0)=key:=by
 obtain ⟨d,rfl⟩:∃ d,j=i+d:=⟨j - i,by omega⟩
 have hd:d<((l.drop i).takeWhile fun x=>q x == key).length:=by unfold runE at h2;omega
 have h3:=List.all_takeWhile (l:=l.drop i) (p:=fun x=>q x == key)
 rw [List.all_eq_true] at h3
 have h4:=h3 _ (List.getElem_mem hd)
 rw [(List.takeWhile_prefix (fun x=>q x == key) (l:=l.drop i)).getElem hd,List.getElem_drop] at h4
 simp only [beq_iff_eq] at h4
 simp [hj,h4]
theorem runE_out {q:Int→Bool} {l:List Int} {key:Bool} {i:Nat} (h:runE q l key i<l.length):q (l.getD (runE q l key i) 0)≠key:=by
 have h5:((l.drop i).takeWhile fun x=>q x == key).length<(l.drop i).length:=by
  unfold runE at h;rw [List.length_drop];omega
 intro e
 have h6:∀ (m:List Int),(hm:(m.takeWhile fun x=>q x == key).length<m.length)→(q (m[(m.takeWhile fun x=>q x == key).length]) == key)=false:=by
  intro m
  induction m with
  | nil=>intro hm;simp at hm
  | cons x m ih=>
   intro hm
   by_cases hx:(q x == key)=true
   ·simp only [List.takeWhile_cons,hx,if_true,List.length_cons] at hm ⊢
    have:=ih (by omega)
    simpa using this
   ·simp only [List.takeWhile_cons,hx,if_false,List.length_nil,List.getElem_cons_zero]
    simpa using hx
 have h7:=h6 _ h5
 rw [List.getElem_drop] at h7
 have h8:(i+((l.drop i).takeWhile fun x=>q x == key).length)<l.length:=h
 have h9:l.getD (runE q l key i) 0=l[i+((l.drop i).takeWhile fun x=>q x == key).length]:=by
  simp only [runE,List.getD_eq_getElem?_getD,List.getElem?_eq_getElem h8,Option.getD_some]
 rw [h9] at e
 simp [e] at h7
def pcsF (q:Int→Bool) (l:List Int):Nat→Nat→List (Nat×Nat×Bool)
 | 0,_=>[]
 | n+1,i=>if i<l.length then (i,runE q l (q (l.getD i 0)) (i+1),q (l.getD i 0)) :: pcsF q l n (runE q l (q (l.getD i 0)) (i+1)) else []
def pcs (q:Int→Bool) (l:List Int):List (Nat×Nat×Bool):=pcsF q l l.length 0
def pnx (q:Int→Bool) (l:List Int) (i:Nat):Nat:=if i<l.length then runE q l (q (l.getD i 0)) (i+1) else l.length
def pst (q:Int→Bool) (l:List Int):Nat→Nat→Nat
 | 0,i=>i
 | k+1,i=>pst q l k (pnx q l i)
theorem pst_succ (q:Int→Bool) (l:List Int):∀ k i,pst q l (k+1) i=pnx q l (pst q l k i)
 | 0,i=>rfl
 | k+1,i=>pst_succ q l k (pnx q l i)
theorem pnx_le (q:Int→Bool) (l:List Int) {i:Nat}:pnx q l i≤l.length∧(i<l.length→i<pnx q l i):=by
 unfold pnx
 split
 ·rename_i h
  have:=runE_le (q:=q) (l:=l) (key:=q (l.getD i 0)) (i:=i+1) (by omega)
  exact ⟨this.2,fun _=>by omega⟩
 ·exact ⟨Nat.le_refl _,fun h=>absurd h (by assumption)⟩
theorem pst_le (q:Int→Bool) (l:List Int):∀ k i,i≤l.length→pst q l k i≤l.length
 | 0,i,h=>h
 | k+1,i,h=>pst_le q l k _ (pnx_le q l).1
theorem pcsF_get (q:Int→Bool) (l:List Int):∀ (n i:Nat),l.length - i≤n→i≤l.length→∀ k,(pst q l k i<l.length→(pcsF q l n i)[k]?=some (pst q l k i,pst q l (k+1) i,q (l.getD (pst q l k i) 0)))∧(k<(pcsF q l n i).length↔pst q l k i<l.length)
 | 0,i,h,hi,k=>by
  have e:i=l.length:=by omega
  subst e
  have hk:∀ k,pst q l k l.length=l.length:=fun k=>by
   induction k with
   | zero=>rfl
   | succ k ih=>simp only [pst,pnx,Nat.lt_irrefl,if_false];exact ih
  rw [hk]
  simp [pcsF]
 | n+1,i,h,hi,k=>by
  by_cases hlt:i<l.length
  ·have e1:pnx q l i=runE q l (q (l.getD i 0)) (i+1):=by simp only [pnx,hlt,if_true]
   have e2:pcsF q l (n+1) i=(i,pnx q l i,q (l.getD i 0)) :: pcsF q l n (pnx q l i):=by rw [e1];simp only [pcsF,hlt,if_true]
   have h3:=pnx_le q l (i:=i)
   rw [e2]
   cases k with
   | zero=>exact ⟨fun _=>rfl,by simp [pst,hlt]⟩
   | succ k=>
    have:=pcsF_get q l n (pnx q l i) (by have:=h3.2 hlt;omega) h3.1 k
    refine ⟨fun h4=>?_,?_⟩
    ·have:=this.1 h4
     rw [List.getElem?_cons_succ,this]
     rfl
    ·rw [List.length_cons,Nat.add_lt_add_iff_right]
     exact this.2
  ·have e:i=l.length:=by omega
   subst e
   have hk:∀ k,pst q l k l.length=l.length:=fun k=>by
    induction k with
    | zero=>rfl
    | succ k ih=>simp only [pst,pnx,Nat.lt_irrefl,if_false];exact ih
   rw [hk]
   simp [pcsF]
def pcRow (x:Nat×Nat×Bool):List PV:=[.agg [.int .i64 x.1,.int .i64 x.2.1],.bool x.2.2]
theorem allP_mapP:∀ (l:List PV),allP (l.map AV.p)=some l
 | []=>rfl
 | x :: l=>by simp [allP,allP_mapP l]
theorem g162 (l:List Int) (f:FuncId) (ca:List PV) (q:Int→Bool) (hf:∀ x∈l,Best Tryz.prog f (.int .i64 x :: ca) (.p (.bool (q x)))) (hl:l.length≤1000000):Gens Tryz.prog 162 [] [.ro [.sl 1 (l.map intRow)],.ro [.clo (.func f) [] ca]] ((pcs q l).map pcRow):=by
 refine gens mixed fn162 ok162 (by simp) fun y=>?_
 have hP:=pcsF_get q l l.length 0 (by omega) (by omega)
 have hpc:pcsF q l l.length 0=pcs q l:=rfl
 simp only [hpc] at hP
 simp -dsimp [ac162]
 refine loopYP (pcs q l).length (fun k=>⟨[(0,.p (.clo (.yield y) [] [])),(1,.p (.ro [.sl 1 (l.map intRow)])),(2,.p (.ro [.clo (.func f) [] ca])),(4,.p (.int .i64 (pst q l k 0)))],[]⟩) (fun k=>k) (fun k hk=>?_) rfl (by simp [pst])
 have hle:=pst_le q l k 0 (by omega)
 obtain ⟨g1,g2⟩:=hP k
 have hsu:=pst_succ q l k 0
 obtain ⟨i,ei⟩:∃ i,pst q l k 0=i:=⟨_,rfl⟩
 rw [ei] at g1 g2 hle hsu ⊢
 by_cases h:i<l.length
 ·have hk2:=g2.2 h
  have hg:=g1 h
  obtain ⟨x,ex⟩:∃ x,l[i]=x:=⟨_,rfl⟩
  have exd:l.getD i 0=x:=by simp [h,ex]
  have hx:x∈l:=by rw [←ex];simp
  have wi:R ((i:Int)+1):=⟨by omega,by omega⟩
  simp -dsimp [h,ex,intRow,wr wi]
  refine call_p (hf x hx) (by simp [allP_mapP]) (by simp) ?_
  obtain ⟨key,ek⟩:∃ key,q x=key:=⟨_,rfl⟩
  rw [exd,ek] at hg
  have hpn:pst q l (k+1) 0=runE q l key (i+1):=by
   rw [hsu];simp only [pnx,h,if_true,exd,ek]
  have hin:=fun j (h1:i+1≤j) h2 h3=>runE_in (q:=q) (l:=l) (key:=key) (i:=i+1) (j:=j) h1 h2 h3
  have hout:=runE_out (q:=q) (l:=l) (key:=key) (i:=i+1)
  have hel:=runE_le (q:=q) (l:=l) (key:=key) (i:=i+1) (by omega)
  rw [hpn] at hg ⊢
  obtain ⟨e,ee⟩:∃ e,runE q l key (i+1)=e:=⟨_,rfl⟩
  rw [ee] at hin hout hel hg ⊢
  rw [ek]
  simp -dsimp [h,ex,intRow,wr wi]
  refine loopYP (e - (i+1)) (fun m=>⟨[(0,.p (.clo (.yield y) [] [])),(1,.p (.ro [.sl 1 (l.map intRow)])),(2,.p (.ro [.clo (.func f) [] ca])),(4,.p (.int .i64 i)),(5,.p (.bool key)),(6,.p (.int .i64 ((i+1+m:Nat):Int)))],[]⟩) (fun _=>k) (fun m hm=>?_) rfl (by simp)
  obtain ⟨j,ej⟩:∃ j,i+1+m=j:=⟨_,rfl⟩
  have ej2:i+1+(m+1)=j+1:=by omega
  rw [ej,ej2]
  have hje:j≤e:=by omega
  by_cases hj:j<l.length
  ·obtain ⟨z,ez⟩:∃ z,l[j]=z:=⟨_,rfl⟩
   have ezd:l.getD j 0=z:=by simp [hj,ez]
   have hz:z∈l:=by rw [←ez];simp
   have wj:R ((j:Int)+1):=⟨by omega,by omega⟩
   have qz:=hf z hz
   obtain ⟨b,eb⟩:∃ b,q z=b:=⟨_,rfl⟩
   rw [eb] at qz
   simp -dsimp [hj,ez,intRow]
   refine call_p qz (by simp [allP_mapP]) (by simp) ?_
   rcases Nat.lt_or_ge j e with h3 | h3
   ·have hb:b=key:=by rw [←eb,←ezd];exact hin j (by omega) h3 hj
    subst hb
    have hme:m<e - (i+1):=by omega
    simp -dsimp [wr wj,hme]
   ·have hje2:j=e:=by omega
    subst hje2
    have hb:¬b=key:=by rw [←eb,←ezd];exact hout hj
    have hgm:pcRow ((pcs q l)[k]'hk2)=[.agg [.int .i64 i,.int .i64 j],.bool key]:=by rw [List.getElem?_eq_getElem hk2] at hg;rw [Option.some.inj hg];rfl
    cases b<;>cases key<;>first | exact absurd rfl hb | skip
    all_goals simp -dsimp [hgm,hk2,-List.getElem?_map]
  ·have hje2:j=e:=by omega
   subst hje2
   have hgm:pcRow ((pcs q l)[k]'hk2)=[.agg [.int .i64 i,.int .i64 j],.bool key]:=by rw [List.getElem?_eq_getElem hk2] at hg;rw [Option.some.inj hg];rfl
   simp -dsimp [hj,hgm,hk2,-List.getElem?_map]
 ·have:¬k<(pcs q l).length:=fun e=>h (g2.1 e)
  have:k=(pcs q l).length:=by omega
  subst this
  simp -dsimp [h]
end
section
def ac85:AC:=by
 apply fun (y:AC) (_:@Eq AC (let e0:=[0,3,5,6,7,12,13,14];let e1:=[0,3,12,13,14];(qk [0] (qs (qr [(qp 2 (.mov (.c .nsl)))]) (qk [0] (qs (qr [(ym 8 0),(qi 9 (.len true (.v 8)) [0]),(qi 10 (.mksl 3 1 8 [.int .i64 0] (.v 9) (.v 9)) [1,1]),(yn 3 10 [2,0,1,2])]) (qk [0,3] (qs (qs (qr [(ym 11 0),(qi 12 (.call 25 [.v 11]) [0]),(yh 13 12 [1]),(qp 14 (.mov (qz 0)))]) (qk e1 (.block 0 (.loop (qk e1 (qs (qr [(qp 15 (qb .lss 14 13))]) (qk [0,3,12,13,14,15] (qs (qq (.v 15) .skip (.exit 0)) (qk e1 (qs (.block 1 (qs (qr [(qp 16 (qj 2 12 14)),(qi 17 (qt 2 16) [0]),(qp 5 (.alloc [.int .i64 0,.int .i64 0])),(qo (.store 2 (.v 5) (.v 17)) [2,1,0,1,2])]) (qk [0,3,5,12,13,14] (qs (qr [(ym 18 0),(ym 19 0),(qp 20 (qt 2 5)),(qi 21 (.call 67 [.v 19,.v 20]) [1,2]),(qi 22 (.idxS (.v 18) (.v 21)) [0,3]),(qi 23 (.conv .i64 (.v 22)) [4]),(qi 24 (.call 125 [.v 23]) [5,3]),(yn 6 24 [6,6,0,1,2,3,4,5,6])]) (qk [0,3,5,6,12,13,14] (qs (qr [(qp 25 (qf 0 5)),(yk 26 25 [0]),(yn 7 26 [1,0,1])]) (qk e0 (.block 2 (.loop (qk e0 (qs (qs (qr [(ym 27 7),(qp 28 (qf 1 5)),(yk 29 28 [1]),(yb 30 .lss 27 29 [0,2])]) (qk [0,3,5,6,7,12,13,14,30] (qq (.v 30) .skip (.exit 2)))) (qk e0 (qs (.block 3 (qr [(ym 33 3),(ym 34 7),(ym 35 6),(yj 36 1 33 34 [0,1,0,1,2]),(qo (.store 1 (.v 36) (.v 35)) [3,2,0,1,2])])) (qk e0 (qr [(ym 31 7),(yc 32 .add 31 (qz 1) [0]),(yn 7 32 [1,0,1])]))))))))))))))) (qk e1 (qr [(qp 37 (qc .add 14 (qz 1))),(yn 14 37 [0])])))))))))))) (qk [3] (qs (qr [(ym 38 3),(yn 2 38 [0,0])]) (qk [2] .ret)))))))))) y)=>y
 dsimp
theorem fn85:factOf Tryz.prog 85=some (ac85.strip,[.tmp 2],39):=by kernel_rfl
theorem ok85:ac85.okAll=true:=by kernel_rfl
end
section
attribute [local simp] ba_size wb ba_at w1
set_option maxHeartbeats 400000
attribute [local simp] evC
attribute [local simp ↓] oneN oneI oneSp oneB
def zerosI (n:Nat):List Int:=List.replicate n 0
theorem zerosI_rows (n:Nat):List.replicate n [PV.int .i64 0]=(zerosI n).map intRow:=by simp [zerosI,intRow]
theorem zerosI_len (n:Nat):(zerosI n).length=n:=by simp [zerosI]
def setR (L:List Int) (a b:Nat) (v:Int):List Int:=(List.range L.length).map fun i=>if a≤i∧i<b then v else L.getD i 0
@[simp] theorem setR_len {L:List Int} {a b:Nat} {v:Int}:(setR L a b v).length=L.length:=by simp [setR]
theorem setR_self (L:List Int) (a:Nat) (v:Int):setR L a a v=L:=by
 apply List.ext_getElem (by simp)
 intro i h1 h2
 have:¬(a≤i∧i<a):=by omega
 simp [setR,this,h2]
theorem setR_succ (L:List Int) {a j:Nat} (v:Int) (h:a≤j):setR L a (j+1) v=(setR L a j v).set j v:=by
 apply List.ext_getElem (by simp)
 intro i h1 h2
 have hi:i<L.length:=by simpa using h1
 rw [List.getElem_set]
 simp only [setR,List.getElem_map,List.getElem_range]
 by_cases e:j=i
 ·subst e
  rw [if_pos (by omega),if_pos rfl]
 ·rw [if_neg e]
  by_cases e2:a≤i∧i<j
  ·rw [if_pos (by omega),if_pos e2]
  ·rw [if_neg (by omega),if_neg e2]
theorem map_set_row (L:List Int) (j:Nat) (v:Int):(L.map intRow).set j [.int .i64 v]=(L.set j v).map intRow:=by
 rw [List.map_set];rfl
def kinK (t:List UInt8):Nat→List Int
 | 0=>zerosI t.length
 | k+1=>setR (kinK t k) ((splT t).getD k (0,0)).1 ((splT t).getD k (0,0)).2 (strongN (cT t (baseT t ((splT t).getD k (0,0)).1 ((splT t).getD k (0,0)).2)))
theorem kinK_len (t:List UInt8):∀ k,(kinK t k).length=t.length
 | 0=>zerosI_len _
 | k+1=>by rw [kinK,setR_len,kinK_len t k]
def kinT (t:List UInt8):List Int:=kinK t (splT t).length
theorem b85 (t:List UInt8) (hl:t.length≤1000000):Best Tryz.prog 85 [.str (ba t)] (.p (.sl 1 ((kinT t).map intRow))):=by
 refine best mixed fn85 ok85 (by simp) ?_
 have m0:(t.length:Int)≤281474976710656:=by omega
 have f0:(t.length:Int)≤9223372036854775807:=by omega
 have e0:8*(t.length:Int)≤281474976710656:=by omega
 have hsl:=splT_len t
 have hm:∀ x∈splT t,x.1<x.2∧x.2≤t.length∧x.2 - x.1≤6:=fun x hx=>splT_mem hx
 have hkl:=kinK_len t
 have hks:∀ k,kinK t (k+1)=setR (kinK t k) ((splT t).getD k (0,0)).1 ((splT t).getD k (0,0)).2 (strongN (cT t (baseT t ((splT t).getD k (0,0)).1 ((splT t).getD k (0,0)).2))):=fun k=>rfl
 unfold kinT
 have q25:=b25 t hl
 obtain ⟨T,eT⟩:∃ T,splT t=T:=⟨_,rfl⟩
 simp only [eT] at hm hsl hks q25 ⊢
 simp -dsimp [ac85,m0,e0,f0]
 refine call_p q25 (by simp) (by simp) ?_
 rw [zerosI_rows]
 simp -dsimp
 refine loopC T.length (fun k=>⟨[(0,.p (.str (ba t))),(3,.ref (10,0) 1 0 t.length),(12,.p (.sl 2 (T.map spRow))),(13,.p (.int .i64 T.length)),(14,.p (.int .i64 k))],[((10,0),.sl 3 1 ((kinK t k).map intRow))]⟩) (fun _=>True) (fun k hk _=>?_) trivial (by simp [kinK])
 by_cases h:k<T.length
 ·obtain ⟨⟨a,b⟩,ex⟩:∃ x,T[k]=x:=⟨_,rfl⟩
  obtain ⟨hab,hb,h6⟩:=hm (a,b) (by rw [←ex];simp)
  dsimp only at hab hb h6
  have exd:T.getD k (0,0)=(a,b):=by simp [h,ex]
  have hkk:=hks k
  rw [exd] at hkk
  dsimp only at hkk
  obtain ⟨L,eL⟩:∃ L,kinK t k=L:=⟨_,rfl⟩
  have hLl:L.length=t.length:=eL ▸ hkl k
  have hbt:=baseT_le (t:=t) hab
  obtain ⟨m,em⟩:∃ m,baseT t a b=m:=⟨_,rfl⟩
  rw [em] at hkk hbt
  have hmt:m<t.length:=by omega
  obtain ⟨v,ev⟩:∃ v,strongN (cT t m)=v:=⟨_,rfl⟩
  rw [eL,ev] at hkk
  rw [eL,hkk]
  have wk:R ((k:Int)+1):=⟨by omega,by omega⟩
  have q67:=b67 t a b hab hb hl
  rw [em] at q67
  have q125:=b125 (cT t m)
  rw [ev] at q125
  have hget:=ba_get hmt
  simp -dsimp [h,ex,spRow]
  refine call_p q67 (by simp [spRow]) (by simp) ?_
  simp -dsimp [hmt,hget]
  refine call_p q125 (by simp [cT]) (by simp) ?_
  simp -dsimp
  refine loopC (b - a) (fun n=>⟨[(0,.p (.str (ba t))),(3,.ref (10,0) 1 0 t.length),(5,.ptr (5,0) 2 0 0),(6,.p (.int .i64 v)),(7,.p (.int .i64 ((a+n:Nat):Int))),(12,.p (.sl 2 (T.map spRow))),(13,.p (.int .i64 T.length)),(14,.p (.int .i64 k))],[((5,0),.box [.p (.int .i64 a),.p (.int .i64 b)]),((10,0),.sl 3 1 ((setR L a (a+n) v).map intRow))]⟩) (fun _=>True) (fun n hn _=>?_) trivial (by simp [setR_self])
  obtain ⟨j,ej⟩:∃ j,a+n=j:=⟨_,rfl⟩
  have ej2:a+(n+1)=j+1:=by omega
  rw [ej,ej2]
  by_cases hj:j<b
  ·have hs:=setR_succ L (a:=a) (j:=j) v (by omega)
   have hml:=map_set_row (setR L a j v) j v
   rw [←hs] at hml
   have hl3:(setR L a j v).length=t.length:=by simp [hLl]
   obtain ⟨M,eM⟩:∃ M,setR L a j v=M:=⟨_,rfl⟩
   rw [eM] at hml hl3 ⊢
   have hjM:j<M.length:=by omega
   have hjt:j<t.length:=by omega
   have wj:R ((j:Int)+1):=⟨by omega,by omega⟩
   have hn2:n<b - a:=by omega
   have htl:(intRow M[j]).tail=[]:=rfl
   simp -dsimp [hj,hjM,hjt,hl3,htl,hml,wr wj,hn2,-List.all_eq_true,-List.map_set]
  ·have hjb:j=b:=by omega
   subst hjb
   simp -dsimp [h,wr wk]
 ·have:k=T.length:=by omega
  subst this
  have hl2:=hkl T.length
  have ht:List.take t.length ((kinK t T.length).map intRow)=(kinK t T.length).map intRow:=List.take_of_length_le (by simp [hl2])
  simp -dsimp [h,resOf,ht,hl2]
end
section
def ac90:AC:=by
 apply fun (y:AC) (_:@Eq AC (qk [0,1,2] (qs (qr [(qp 4 (.mov (qz 0)))]) (qk [0,1,2] (qs (qd [(qa (yl 5 1) [6,7,8,9,10,11] [11] [] [] 0),(qe (yl 6 1) [5,7,8,9,10] [0] 2),(qe (yl 7 2) [5,6,8] [0,1] 2),(qe (ym 8 0) [5,6,7] [0,1,2] 2),(qe (yj 9 2 7 8 [2,3]) [5,6] [0,1] 2),(qe (qi 10 (qt 2 9) [4]) [5,6] [0,1] 2),(qa (qi 11 (.call 67 [.v 6,.v 10]) [1,5]) [5] [] [11] [0] 1),(qe (qi 12 (.idxS (.v 5) (.v 11)) [0,6]) [] [] 2),(qe (qi 13 (.conv .i64 (.v 12)) [7]) [] [] 2),(qe (yn 4 13 [8,6,0,1,2,3,4,5,6,7,8]) [] [] 2)]) (qk [4] .ret))))) y)=>y
 dsimp
theorem fn90:factOf Tryz.prog 90=some (ac90.strip,[.tmp 4],14):=by kernel_rfl
theorem ok90:ac90.okAll=true:=by kernel_rfl
def ac88:AC:=by
 apply fun (y:AC) (_:@Eq AC (qk [0] (qs (qr [(qp 2 (.mov (qz 0)))]) (qk [0] (qs (qr [(ym 3 0),(qi 4 (.mm false (.v 3) (qz 10000)) [0]),(qi 5 (.mm true (qz 0) (.v 4)) [1]),(yn 2 5 [2,0,1,2])]) (qk [2] .ret))))) y)=>y
 dsimp
theorem fn88:factOf Tryz.prog 88=some (ac88.strip,[.tmp 2],6):=by kernel_rfl
theorem ok88:ac88.okAll=true:=by kernel_rfl
end
section
def ac46:AC:=by
 apply fun (y:AC) (_:@Eq AC (let e0:=[1,2,3,4,12,13,14];let e1:=[2,2,0,1,2];let e2:=[19,20,21,22,23];let e3:=[21,22];let e4:=[0,1];let e5:=[23,24,25,26,27,28];let e6:=[0,1,2,3,4];(qk [0] (qs (qr [(qp 1 (.box (.v 0))),(qp 2 (.mov (.c .nsl)))]) (.ghost (.own 2 38 3 1) (qk [1,2] (qs (qr [(yl 9 1),(qi 10 (.call 25 [.v 9]) [0]),(qp 3 (.alloc [.nsl])),(qo (.store 1 (.v 3) (.v 10)) [2,1,1,0,1,2])]) (qk [1,2,3] (qs (qr [(qp 11 (.mkfn (.func 90) [] [.v 1,.v 3])),(yn 4 11 [0,0])]) (qk [1,2,3,4] (qs (qs (qr [(yl 12 3),(yh 13 12 [0]),(qp 14 (.mov (qz 0)))]) (qk e0 (.block 0 (.loop (qk e0 (qs (qr [(qp 15 (qb .lss 14 13))]) (qk [1,2,3,4,12,13,14,15] (qs (qq (.v 15) .skip (.exit 0)) (qk e0 (qs (.block 1 (qs (qr [(ym 16 14),(qp 17 (qj 2 12 14)),(qi 18 (qt 2 17) [1]),(qp 6 (.alloc [.int .i64 0,.int .i64 0])),(yn 5 16 [0,0,1,2,3]),(qo (.store 2 (.v 6) (.v 18)) [3,2,4,0,1,2,3,4])]) (qk [1,2,3,4,5,6,12,13,14] (qs (qd [(qe (ym 19 4) [20,23,24,25,26,27,28] [] 2),(qe (ym 20 5) [19,23,24,25,26,27,28] [0] 2),(qa (qi 21 (.callv (.v 19) [.v 20]) e4) e5 [] [21] [] 1),(qa (qi 22 (.call 66 [.v 21]) [2,2]) e5 [] [22] [] 1),(qa (yl 23 1) [19,20,21,22,24,25,26] e3 [] [0,1,2,3] 0),(qa (qp 24 (qf 1 6)) e2 e3 [] e6 2),(qa (yk 25 24 [5]) e2 e3 [] e6 0),(qa (yc 26 .sub 25 (qz 1) [6]) e2 e3 [] e6 2),(qa (qi 27 (.idxS (.v 23) (.v 26)) [4,7]) [19,20,21,22] e3 [] [0,1,2,3] 2),(qa (qi 28 (.conv .i64 (.v 27)) [8]) [19,20,21,22] e3 [] [0,1,2,3] 2),(qa (qi 29 (.call 66 [.v 28]) [9,3]) [] [] [29] [] 1),(qe (yn 7 22 [3,10,0,1,2,3]) [] [] 2),(qe (yn 8 29 [10,11,0,1,2,3,4,5,6,7,8,9,10,11]) [] [] 2)]) (qk [1,2,3,4,5,7,8,12,13,14] (.block 2 (qs (qr [(ym 34 7),(yc 35 .eql 34 (qz 1) [0]),(yn 33 35 [1])]) (qk [1,2,3,4,5,7,8,12,13,14,33] (qq (.v 33) (qr [(ym 36 2),(qp 37 (.bslice 3 1 1 [.int .i64 0] [(0,1,.c (.int .i64 2))])),(qi 38 (.app 3 1 8 (.v 36) (.v 37)) e4),(yn 2 38 e1)]) (qs (qr [(ym 40 5),(yl 41 3),(yh 42 41 [1]),(yc 43 .sub 42 (qz 1) [2]),(yb 44 .eql 40 43 [0,3]),(yn 45 44 [4]),(qg 46 (qm 4) 45 false [5]),(qg 47 (qm 5) 45 false [5]),(qg 48 (qc .add 47 (qz 1)) 45 false [7,5]),(qg 49 (.callv (.v 46) [.v 48]) 45 false [6,8,5,5]),(qg 50 (.call 66 [.v 49]) 45 false [9,9,5]),(qg 51 (.call 91 [.v 50]) 45 false [10,10,5]),(qi 52 (.pick (.v 45) (.c (.bool true)) (.v 51)) [5,11]),(yn 39 52 [12,11])]) (qk [1,2,3,4,5,7,8,12,13,14,39] (qq (.v 39) (qr [(ym 53 2),(qp 54 (.bslice 3 1 1 [.int .i64 0] [(0,1,.c (.int .i64 0))])),(qi 55 (.app 3 1 8 (.v 53) (.v 54)) e4),(yn 2 55 e1)]) (qs (qr [(ym 57 7),(yc 58 .eql 57 (qz 2) [0]),(yn 59 58 [1]),(qg 60 (qm 8) 59 false [2]),(qg 61 (qc .eql 60 (qz 14)) 59 false [3,2]),(qi 62 (.pick (.v 59) (.c (.bool true)) (.v 61)) [2,4]),(yn 56 62 [5,2])]) (qk [1,2,3,4,5,8,12,13,14,56] (qq (.v 56) (qr [(ym 63 2),(qp 64 (.bslice 3 1 1 [.int .i64 0] [(0,1,.c (.int .i64 1))])),(qi 65 (.app 3 1 8 (.v 63) (.v 64)) e4),(yn 2 65 e1)]) (qs (qr [(ym 67 8),(yc 68 .eql 67 (qz 13) [0]),(yn 66 68 [1])]) (qk [1,2,3,4,5,12,13,14,66] (qq (.v 66) (qr [(ym 69 2),(qp 70 (.bslice 3 1 1 [.int .i64 0] [(0,1,.c (.int .i64 0))])),(qi 71 (.app 3 1 8 (.v 69) (.v 70)) e4),(yn 2 71 e1)]) (qs (qr [(ym 73 4),(ym 74 5),(qi 75 (.callv (.v 73) [.v 74]) e4),(yc 76 .eql 75 (qz 45) [2]),(yn 77 76 [3,2]),(qg 78 (qm 4) 77 false [4]),(qg 79 (qm 5) 77 false [4]),(qg 80 (.callv (.v 78) [.v 79]) 77 false [5,6,4,4]),(qg 81 (.call 92 [.v 80]) 77 false [7,7,4]),(qg 82 (qc .eql 81 (qz 3)) 77 false [8,4]),(qg 83 (qm 82) 77 false [9,8,4]),(qg 84 (qm 4) 83 true [10]),(qg 85 (qm 5) 83 true [10]),(qg 86 (qc .add 85 (qz 1)) 83 true [12,10]),(qg 87 (.callv (.v 84) [.v 86]) 83 true [11,13,10,10]),(qg 88 (.call 92 [.v 87]) 83 true [14,14,10]),(qg 89 (qc .eql 88 (qz 3)) 83 true [15,10]),(qg 90 (.pick (.v 83) (.v 89) (.c (.bool false))) 77 false [10,16,4]),(qi 91 (.pick (.v 77) (.c (.bool true)) (.v 90)) [4,17]),(yn 72 91 [18,15])]) (qk [1,2,3,4,12,13,14,72] (qq (.v 72) (qr [(ym 92 2),(qp 93 (.bslice 3 1 1 [.int .i64 0] [(0,1,.c (.int .i64 1))])),(qi 94 (.app 3 1 8 (.v 92) (.v 93)) e4),(yn 2 94 e1)]) (qr [(ym 30 2),(qp 31 (.bslice 3 1 1 [.int .i64 0] [(0,1,.c (.int .i64 0))])),(qi 32 (.app 3 1 8 (.v 30) (.v 31)) e4),(yn 2 32 e1)])))))))))))))))))))))) (qk e0 (.ghost (.canV 2 (38,0)) (qr [(qp 95 (qc .add 14 (qz 1))),(yn 14 95 [0])]))))))))))))) (qk [2] (qs (qr [(ym 96 2),(yn 2 96 [0,0])]) (qk [2] .ret))))))))))))) y)=>y
 dsimp
theorem fn46:factOf Tryz.prog 46=some (ac46.strip,[.tmp 2],97):=by kernel_rfl
theorem ok46:ac46.okAll=true:=by kernel_rfl
end
section
attribute [local simp] ba_size wb ba_at w1
set_option maxHeartbeats 400000
attribute [local simp] evC
attribute [local simp ↓] oneN oneI oneSp oneB
def bcT (t:List UInt8) (i:Nat):Int:=cT t (baseT t ((splT t).getD i (0,0)).1 ((splT t).getD i (0,0)).2)
theorem b90 (t:List UInt8) (hl:t.length≤1000000) (i:Nat) (hi:i<(splT t).length):Best Tryz.prog 90 [.int .i64 i,.ro [.str (ba t)],.ro [.sl 2 ((splT t).map spRow)]] (.p (.int .i64 (bcT t i))):=by
 refine best mixed fn90 ok90 (by simp) ?_
 have hm:∀ x∈splT t,x.1<x.2∧x.2≤t.length∧x.2 - x.1≤6:=fun x hx=>splT_mem hx
 have hb0:bcT t i=cT t (baseT t ((splT t).getD i (0,0)).1 ((splT t).getD i (0,0)).2):=rfl
 obtain ⟨T,eT⟩:∃ T,splT t=T:=⟨_,rfl⟩
 simp only [eT] at hm hi hb0 ⊢
 obtain ⟨⟨a,b⟩,ex⟩:∃ x,T[i]=x:=⟨_,rfl⟩
 obtain ⟨hab,hb,h6⟩:=hm (a,b) (by rw [←ex];simp)
 dsimp only at hab hb h6
 have exd:T.getD i (0,0)=(a,b):=by simp [hi,ex]
 rw [exd] at hb0
 dsimp only at hb0
 have hbt:=baseT_le (t:=t) hab
 have q67:=b67 t a b hab hb hl
 obtain ⟨m,em⟩:∃ m,baseT t a b=m:=⟨_,rfl⟩
 rw [em] at hb0 hbt q67
 have hmt:m<t.length:=by omega
 have hget:=ba_get hmt
 simp -dsimp [ac90,hi,ex,spRow]
 refine call_p q67 (by simp [spRow]) (by simp) ?_
 simp -dsimp [hmt,hget,hb0,cT]
theorem b88 (n:Int):Best Tryz.prog 88 [.int .i64 n] (.p (.int .i64 (max 0 (min n 10000)))):=by
 refine best mixed fn88 ok88 (by simp) ?_
 simp -dsimp [ac88]
def mayV (t:List UInt8) (i:Nat):Int:=
 if clsN (bcT t i)=1 then 2
 else if i+1=(splT t).length∨stuckN (clsN (bcT t (i+1)))=true then 0
 else if clsN (bcT t i)=2∨clsN (cT t (((splT t).getD i (0,0)).2 - 1))=14 then 1
 else if clsN (cT t (((splT t).getD i (0,0)).2 - 1))=13 then 0
 else if bcT t i=45∨(scrN (bcT t i)=3∧scrN (bcT t (i+1))=3) then 1
 else 0
def mayL (t:List UInt8):List Int:=(List.range (splT t).length).map (mayV t)
theorem b46 (t:List UInt8) (hl:t.length≤1000000):Best Tryz.prog 46 [.str (ba t)] (.p (.sl 1 ((mayL t).map intRow))):=by
 refine best mixed fn46 ok46 (by simp) ?_
 have hm:∀ x∈splT t,x.1<x.2∧x.2≤t.length∧x.2 - x.1≤6:=fun x hx=>splT_mem hx
 have hsl:=splT_len t
 have hV:∀ i,mayV t i=mayV t i:=fun _=>rfl
 conv at hV=>intro i;rhs;unfold mayV
 have q90:=b90 t hl
 have q25:=b25 t hl
 unfold mayL
 obtain ⟨T,eT⟩:∃ T,splT t=T:=⟨_,rfl⟩
 simp only [eT] at hm hsl hV q90 q25 ⊢
 obtain ⟨W,eW⟩:∃ W:Nat→List Int,W=fun k=>(List.range k).map (mayV t):=⟨_,rfl⟩
 have hW0:W 0=[]:=by rw [eW];rfl
 have hWl:∀ k,(W k).length=k:=fun k=>by rw [eW];simp
 have hWs:∀ k,(W (k+1)).map intRow=(W k).map intRow++[[.int .i64 (mayV t k)]]:=fun k=>by rw [eW];simp [List.range_succ,intRow]
 have hWe:(List.range T.length).map (mayV t)=W T.length:=by rw [eW]
 rw [hWe]
 simp -dsimp [ac46]
 refine call_p q25 (by simp) (by simp) ?_
 simp -dsimp
 refine loopC T.length (fun k=>⟨[(1,.ptr (1,0) 1 0 0),(2,.ref (38,0) 1 0 k),(3,.ptr (3,0) 1 0 0),(4,.clo (.func 90) [] [.ptr (1,0) 1 0 0,.ptr (3,0) 1 0 0]),(12,.p (.sl 2 (T.map spRow))),(13,.p (.int .i64 T.length)),(14,.p (.int .i64 k))],
  [((1,0),.box [.p (.str (ba t))]),((3,0),.box [.p (.sl 2 (T.map spRow))]),((38,0),.sl 3 1 ((W k).map intRow))]⟩) (fun _=>True) (fun k hk _=>?_) trivial (by simp [hW0])
 by_cases h:k<T.length
 ·have wk:R ((k:Int)+1):=⟨by omega,by omega⟩
  have wk1:R ((T.length:Int) - 1):=⟨by omega,by omega⟩
  have m1:k+1≤maxLen:=by unfold maxLen;omega
  have e1:(k+1)*8≤140737488355328:=by omega
  have hl1:=hWl k
  have hs1:=hWs k
  have eV:=hV k
  obtain ⟨L,eL⟩:∃ L,W k=L:=⟨_,rfl⟩
  obtain ⟨V,exx⟩:∃ x,mayV t k=x:=⟨_,rfl⟩
  rw [exx] at hs1 eV
  rw [eL] at hs1 hl1
  have ht:∀ V:Int,List.take (k+1) (L.map intRow++[[.int .i64 V]])=L.map intRow++[[.int .i64 V]]:=fun V=>List.take_of_length_le (by simp;omega)
  rw [eL,hs1]
  obtain ⟨⟨a,b⟩,ex⟩:∃ x,T[k]=x:=⟨_,rfl⟩
  obtain ⟨hab,hb,h6⟩:=hm (a,b) (by rw [←ex];simp)
  dsimp only at hab hb h6
  have exd:T.getD k (0,0)=(a,b):=by simp [h,ex]
  rw [exd] at eV
  dsimp only at eV
  obtain ⟨p,rfl⟩:∃ p,b=p+1:=⟨b - 1,by omega⟩
  rw [Nat.add_sub_cancel] at eV
  have hp:p<t.length:=by omega
  have wp:R (p:Int):=⟨by omega,by omega⟩
  have p0:(0:Int)≤(p:Int)+1:=by omega
  have hget:=ba_get hp
  have q1:=q90 k h
  have q2:=fun h2=>q90 (k+1) h2
  obtain ⟨c,ec⟩:∃ c,bcT t k=c:=⟨_,rfl⟩
  obtain ⟨c',ec'⟩:∃ c',bcT t (k+1)=c':=⟨_,rfl⟩
  obtain ⟨d,ed⟩:∃ d,clsN (cT t p)=d:=⟨_,rfl⟩
  have q3:=b66 c
  have q4:=b66 (cT t p)
  obtain ⟨e,ee⟩:∃ e,clsN c=e:=⟨_,rfl⟩
  rw [ec] at q1
  rw [ec'] at q2
  rw [ed] at q4
  rw [ee] at q3
  rw [ec,ec',ed,ee] at eV
  simp -dsimp [h,ex,spRow]
  refine call_f q1 (by simp) (by simp) (by simp) ?_
  simp -dsimp
  refine call_p q3 (by simp) (by simp) ?_
  simp -dsimp [wr wp,hp,hget]
  refine call_p q4 (by simp [cT]) (by simp) ?_
  by_cases h1:e=1
  ·rw [if_pos h1] at eV
   subst eV
   simp -dsimp [h1,h,m1,e1,hl1,ht,wr wk,List.range,List.range.loop,-List.all_eq_true]
  rw [if_neg h1] at eV
  by_cases h2:k+1=T.length
  ·have h2':(k:Int)=(T.length:Int) - 1:=by omega
   have wT:R (T.length:Int):=⟨by omega,by omega⟩
   rw [if_pos (.inl h2)] at eV
   subst eV
   simp -dsimp [h1,h2',wr wT,h,m1,e1,hl1,ht,wr wk,wr wk1,List.range,List.range.loop,-List.all_eq_true]
  have hk1:k+1<T.length:=by omega
  have n2:¬(k:Int)=(T.length:Int) - 1:=by omega
  have q2':=q2 hk1
  have hc1:((k+1:Nat):Int)=(k:Int)+1:=by omega
  rw [hc1] at q2'
  have q5:=b66 c'
  obtain ⟨e',ee'⟩:∃ e',clsN c'=e':=⟨_,rfl⟩
  rw [ee'] at q5 eV
  have q6:=b91 e'
  have q7:=b92 c
  have q8:=b92 c'
  obtain ⟨st,est⟩:∃ st,stuckN e'=st:=⟨_,rfl⟩
  obtain ⟨sc,esc⟩:∃ sc,scrN c=sc:=⟨_,rfl⟩
  obtain ⟨sc',esc'⟩:∃ sc',scrN c'=sc':=⟨_,rfl⟩
  rw [est] at q6 eV
  rw [esc] at q7 eV
  rw [esc'] at q8 eV
  simp -dsimp [h1,n2,wr wk,wr wk1]
  refine call_f q2' (by simp) (by simp) (by simp) ?_
  simp -dsimp
  refine call_p q5 (by simp) (by simp) ?_
  simp -dsimp
  refine call_p q6 (by simp) (by simp) ?_
  cases st with
  | true=>
   rw [if_pos (.inr rfl)] at eV
   subst eV
   simp -dsimp [h1,h,m1,e1,hl1,ht,wr wk,wr wk1,List.range,List.range.loop,-List.all_eq_true]
  | false=>
  rw [if_neg (fun q=>q.elim h2 (by simp))] at eV
  by_cases h4:e=2
  ·rw [if_pos (.inl h4)] at eV
   subst eV
   simp -dsimp [h4,h,m1,e1,hl1,ht,wr wk,wr wk1,List.range,List.range.loop,-List.all_eq_true]
  by_cases h5:d=14
  ·rw [if_pos (.inr h5)] at eV
   subst eV
   simp -dsimp [h4,h5,h,m1,e1,hl1,ht,wr wk,wr wk1,List.range,List.range.loop,-List.all_eq_true]
  rw [if_neg (fun q=>q.elim h4 h5)] at eV
  by_cases h6:d=13
  ·rw [if_pos h6] at eV
   subst eV
   simp -dsimp [h4,h5,h6,h,m1,e1,hl1,ht,wr wk,wr wk1,List.range,List.range.loop,-List.all_eq_true]
  rw [if_neg h6] at eV
  simp -dsimp [h4,h5,h6]
  refine call_f q1 (by simp) (by simp) (by simp) ?_
  by_cases h7:c=45
  ·rw [if_pos (.inl h7)] at eV
   subst eV
   simp -dsimp [h7,h,m1,e1,hl1,ht,wr wk,wr wk1,List.range,List.range.loop,-List.all_eq_true]
  simp -dsimp [h7]
  refine call_f q1 (by simp) (by simp) (by simp) ?_
  simp -dsimp
  refine call_p q7 (by simp) (by simp) ?_
  by_cases h8:sc=3
  rotate_left
  ·rw [if_neg (fun q=>q.elim h7 (fun q=>h8 q.1))] at eV
   subst eV
   simp -dsimp [h8,h,m1,e1,hl1,ht,wr wk,wr wk1,List.range,List.range.loop,-List.all_eq_true]
  simp -dsimp [h8,wr wk]
  refine call_f q2' (by simp) (by simp) (by simp) ?_
  simp -dsimp
  refine call_p q8 (by simp) (by simp) ?_
  by_cases h9:sc'=3
  ·rw [if_pos (.inr ⟨h8,h9⟩)] at eV
   subst eV
   simp -dsimp [h9,h,m1,e1,hl1,ht,wr wk,wr wk1,List.range,List.range.loop,-List.all_eq_true]
  ·rw [if_neg (fun q=>q.elim h7 (fun q=>h9 q.2))] at eV
   subst eV
   simp -dsimp [h9,h,m1,e1,hl1,ht,wr wk,wr wk1,List.range,List.range.loop,-List.all_eq_true]
 ·have:k=T.length:=by omega
  subst this
  have hl:=hWl T.length
  have ht:List.take T.length ((W T.length).map intRow)=(W T.length).map intRow:=List.take_of_length_le (by simp [hl])
  simp -dsimp [h,resOf,ht,hl]
end
section
def ac89:AC:=by
 apply fun (y:AC) (_:@Eq AC (let e0:=[0,1,2,3,4,5,6,9,10,11,12,13];let e1:=[0,1,2,3,4,5,6,9,10,11];let e2:=[0,1];let e3:=[0,0];(qk [0,1,2,3,4,5,6] (qs (qr [(qp 8 (.mov (qz 0)))]) (qk [0,1,2,3,4,5,6] (.scope (qs (qr [(ym 14 0),(yn 9 14 e3),(qi 10 (.mov (qz (-1))) [1,0,1]),(qi 11 (.mov (qz 0)) [2,0,1,2])]) (qk e1 (qs (.label 0) (qk e1 (qs (qs (qr [(ym 15 0),(yn 12 15 e3),(qi 13 (.mov (qz 0)) [1,0,1])]) (qk e0 (.block 0 (.loop (qk e0 (qs (qs (qr [(ym 16 12),(yl 17 1),(yb 18 .lss 16 17 e2)]) (qk [0,1,2,3,4,5,6,9,10,11,12,13,18] (qq (.v 18) .skip (.exit 0)))) (qk e0 (qs (.block 1 (qs (qs (qd [(qa (ym 21 13) [22,23,24,25,26,27] [27] [] [] 2),(qe (yl 22 2) [21,23,24,25,26] [0] 2),(qe (yl 23 3) [21,22,24] e2 2),(qe (ym 24 12) [21,22,23] [0,1,2] 2),(qe (yj 25 1 23 24 [2,3]) [21,22] e2 2),(qe (yk 26 25 [4]) [21,22] e2 2),(qa (qi 27 (.callv (.v 22) [.v 26]) [1,5]) [21] [] [27] [0] 1),(qe (yb 28 .add 21 27 [0,6]) [] [] 2),(qe (yn 13 28 [7,6,0,1,2,3,4,5,6,7]) [] [] 2)]) (qk e0 (qs (qr [(yl 29 4),(ym 30 12),(yj 31 1 29 30 e2),(yk 32 31 [2]),(qi 33 (.un .not (.v 32)) [3])]) (qk [0,1,2,3,4,5,6,9,10,11,12,13,33] (qq (.v 33) (qr [(ym 34 11),(ym 35 13),(yb 36 .add 34 35 e2),(yn 11 36 [2,0,1,2]),(qi 13 (.mov (qz 0)) [3,0,1,2,3])]) .skip))))) (qk e0 (qs (qs (qr [(ym 37 11),(yl 38 2),(yl 39 5),(qi 40 (.callv (.v 38) [.v 39]) [1,2]),(yb 41 .gtr 37 40 [0,3]),(yn 42 41 [4,3]),(qg 43 (qm 12) 42 true [5]),(qg 44 (qm 0) 42 true [5]),(qg 45 (qb .gtr 43 44) 42 true [6,7,5]),(qi 46 (.pick (.v 42) (.v 45) (.c (.bool false))) [5,8])]) (qk [0,1,2,3,4,5,6,9,10,11,12,13,46] (qq (.v 46) (.exit 0) .skip))) (qk [0,1,2,3,4,5,6,10,11,12,13] (qs (qr [(ym 47 12),(yn 9 47 e3)]) (qk e0 (qs (.block 2 (qs (qr [(ym 49 11),(yl 50 2),(yl 51 5),(qi 52 (.callv (.v 50) [.v 51]) [1,2]),(yb 53 .gtr 49 52 [0,3]),(yn 48 53 [4,3])]) (qk [0,1,2,3,4,5,6,9,10,11,12,13,48] (qq (.v 48) (.exit 0) (qs (qr [(yl 55 6),(ym 56 12),(yj 57 1 55 56 e2),(yk 58 57 [2]),(yc 59 .eql 58 (qz 2) [3]),(yn 54 59 [4])]) (qk [0,1,2,3,4,5,6,9,10,11,12,13,54] (qq (.v 54) (qs (qr [(ym 60 12),(yn 8 60 e3)]) (qk [8] .ret)) .skip))))))) (qk e0 (qs (qr [(yl 61 6),(ym 62 12),(yj 63 1 61 62 e2),(yk 64 63 [2]),(yc 65 .eql 64 (qz 1) [3])]) (qk [0,1,2,3,4,5,6,9,10,11,12,13,65] (qq (.v 65) (qr [(ym 66 12),(yn 10 66 e3)]) .skip)))))))))))) (qk e0 (qr [(ym 19 12),(yc 20 .add 19 (qz 1) [0]),(yn 12 20 [1,0,1])])))))))))) (qk [1,9,10] (qs (qs (qr [(ym 67 9),(yl 68 1),(yc 69 .sub 68 (qz 1) [1]),(yb 70 .lss 67 69 [0,2]),(yn 71 70 [3]),(qg 72 (qm 10) 71 true [4]),(qg 73 (qc .geq 72 (qz 0)) 71 true [5,4]),(qi 74 (.pick (.v 71) (.v 73) (.c (.bool false))) [4,6])]) (qk [9,10,74] (qq (.v 74) (qs (qr [(ym 75 10),(yn 8 75 e3)]) (qk [8] .ret)) .skip))) (qk [9] (qs (qr [(ym 76 9),(yn 8 76 e3)]) (qk [8] .ret))))))))))))))) y)=>y
 dsimp
theorem fn89:factOf Tryz.prog 89=some (ac89.strip,[.tmp 8],77):=by kernel_rfl
theorem ok89:ac89.okAll=true:=by kernel_rfl
end
end Go.Abs.A29
