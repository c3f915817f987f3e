/- A part of the proof: an abstract reading of the model, contracts of functions. -/
import Derived.Test.YtlkbeomimbohlaaGreatL3x3
set_option linter.unusedVariables false
set_option linter.unusedSimpArgs false
namespace Go.Abs.A30
open Go Go.Abs Go.Proofs
set_option maxRecDepth 100000
set_option linter.unusedVariables false
set_option linter.unusedSimpArgs false
attribute [local simp ↓] awp_skip awp_seq awp_cond awp_block awp_exit awp_ret awp_reg awp_draw awp_ghost awp_loop awp_rfun awpR_nil awpR_cons awpX_nil awpX_0 awpX_1 awpX_2 awpI_eq awpI_t awpI_f awpStep_eq
attribute [local simp] condL_true condL_false condL_dec evDel evV evN evS evA initFr Ghost.app Fr.var Fr.blk Fr.ff FF.val Abs.look Fr.app Fr.erase Fr.noSlot AV.noSlot AV.noSlotL Blk.noSlot Fr.spoken AV.fz AV.fzL Blk.fz binV binI shI binS unV fillA FF.parts FF.vals headO intO boundO lenV scalarEq leavesEq AV.aggc AV.cells FF.read FF.rows AV.one PV.one chunk freshB newS pickV retK evRs evRl evR resOf mkTup mkAgg allP cloOf okP_nil okX_p okX okP addN Del.noSlot Del.owners Rnd reify_p normM insM Fr.back Fr.backV Fr.setPs normV insV
attribute [local simp] renF Fr.trim Blk.trim AV.rn AV.rnL Blk.rn AV.among AV.amongL Blk.among okF retM fixS BIG initFF
attribute [local simp] FF.reify FF.reifyL PV.flat
section
set_option maxHeartbeats 400000
theorem fitN_b {s:Stg} (h:fitN s=true):4≤s.size∧s.size≤32∧CL s.at_:=by
 simp [fitN] at h;exact ⟨h.1.1,h.1.2,h.2⟩
theorem b48 (cs:List Cor) (hcs:CorsOk2 cs) (t:List UInt8) (hl:t.length≤1000000) (s:Stg) (hs:s.at_.length≤1000) :
  Bt 48 [.sl 9 (cs.map corRow),.str (ba t),.agg (stgRow s)] (.p (.sl 1 ((widthsN cs t s).map intRow))):=by
 refine best mixed fn48 ok48 (by simp [stgRow]) ?_;unfold widthsN;have q37:=b47 s hs;simp -dsimp [ac48,stgRow];refine call_p q37 (by simp [stgRow]) (by simp) ?_
 by_cases h1:fitN s=true
 rotate_left
 ·simp -dsimp [h1,resOf]
 obtain ⟨f1,f2,f3⟩:=fitN_b h1;simp -dsimp [h1];refine cP (b23 t hl) ?_;simp -dsimp;refine cP (b21 cs hcs.one t hl) ?_;have q38:=fun i hi=>b91 cs hcs t hl s hs ⟨by omega,by omega⟩ i hi
 have hsl:=splT_len t;obtain ⟨T,eT⟩:=gn (splT t);simp only [eT] at q38 hsl ⊢;have hlen:(fontsN cs t).length=T.length:=by simp [fontsN,eT]
 obtain ⟨Fs,eF⟩:=gn (fontsN cs t);rw [eF] at q38;simp -dsimp [eF];obtain ⟨W,eW⟩:∃ W:Nat→List Int,W=fun k=>(List.range k).map (wdN cs t s):=⟨_,rfl⟩
 have hW0:W 0=[]:=by rw [eW];rfl
 have hWl:∀ k,(W k).length=k:=fun k=>by rw [eW];simp
 have hWs:∀ k,(W (k+1)).map intRow=(W k).map intRow++[[.int .i64 (wdN cs t s k)]]:=fun k=>by rw [eW];simp [List.range_succ,intRow]
 have hWe:(List.range T.length).map (wdN cs t s)=W T.length:=by rw [eW]
 rw [hWe];refine loopC T.length (fun k=>⟨[(6,.ref (30,0) 1 0 k),(9,.clo (.func 91) [] [.ptr (4,0) 1 0 0,.ptr (7,0) 1 0 0,.ptr (8,0) 1 0 0,.ptr (5,0) 3 0 0,.ptr (3,0) 1 0 0]),(21,.p (.int .i64 T.length)),(22,.p (.int .i64 k))],
  [((3,0),.box [.p (.sl 9 (cs.map corRow))]),((4,0),.box [.p (.str (ba t))]),((5,0),.box [.p (.int .i64 s.size),.p (.sl 1 (s.at_.map intRow)),.p (.int .i64 s.feat)]),((7,0),.box [.p (.sl 2 (T.map spRow))]),((8,0),.box [.p (.sl 1 (Fs.map intRow))]),((30,0),.sl 3 1 ((W k).map intRow))]⟩) (fun _=>True) (fun k hk _=>?_) trivial (by simp [hW0])
 by_cases h:k<T.length
 ·have wk:R ((k:Int)+1):=rO (by omega);have m1:k+1≤maxLen:=by unfold maxLen;omega
  have e1:(k+1)*8≤140737488355328:=by omega
  have q:=q38 k h;have hl1:=hWl k;have hs1:=hWs k;obtain ⟨L,eL⟩:=gn (W k);obtain ⟨x,exx⟩:=gn (wdN cs t s k);rw [exx] at hs1 q;rw [eL] at hs1 hl1;have ht:List.take (k+1) (L.map intRow++[[.int .i64 x]])=L.map intRow++[[.int .i64 x]]:=List.take_of_length_le (by simp;omega)
  rw [eL,hs1];simp -dsimp [h];refine call_f q (by simp [stgRow]) (by simp) (by simp) ?_;simp -dsimp [h,m1,e1,hl1,ht,wr wk,List.range,List.range.loop,-List.all_eq_true]
 ·have:k=T.length:=by omega
  subst this;have hl:=hWl T.length;have ht:List.take T.length ((W T.length).map intRow)=(W T.length).map intRow:=List.take_of_length_le (by simp [hl]);simp -dsimp [h,h1,resOf,ht,hl]
end
section
set_option maxHeartbeats 4000000
attribute [local simp] ba_size wb ba_at w1 w6
attribute [local simp ↓] oneN oneI oneSp
def nxtN {α:Type} (q:α→Bool) (l:List α) (j:Nat):Int:=match (l.drop j).findIdx? q with
 | some i=>((j+i:Nat):Int)
 | none=>-1
theorem nxt0 {α:Type} {q:α→Bool} {l:List α}:nxtN q l 0=idxS q l:=by
 unfold nxtN idxS;rw [List.drop_zero];cases l.findIdx? q<;>simp
theorem nxt_end {α:Type} {q:α→Bool} {l:List α}:nxtN q l l.length=-1:=by simp [nxtN]
theorem nxt_step {α:Type} {q:α→Bool} {l:List α} {j:Nat} (h:j<l.length):nxtN q l j=if q l[j] then (j:Int) else nxtN q l (j+1):=by
 unfold nxtN;rw [List.drop_eq_getElem_cons h,List.findIdx?_cons];cases hq:q l[j]
 ·simp only [Bool.false_eq_true,if_false];cases (l.drop (j+1)).findIdx? q with
  | none=>rfl
  | some i=>simp;omega
 ·simp
theorem b34 (cs:List Cor) (hcs:CorsOk cs) (t:List UInt8) (hl:t.length≤1000000):Bt 34 [.sl 9 (cs.map corRow),.str (ba t)] (.p (.sl 1 ((fontsN cs t).map intRow))):=by
 refine best mixed fn34 ok34 (by simp) ?_;have hsl:=splT_len t;obtain ⟨T,eT⟩:=gn (splT t);have hm:∀ x∈T,x.1<x.2∧x.2≤t.length∧x.2 - x.1≤6:=fun x hx=>splT_mem (eT ▸ hx)
 have q33:=b33 t hl;have hcl:=hcs.1;unfold fontsN;rw [eT] at q33 hsl ⊢;simp -dsimp [ac34,↓ awpC_of xc34b];refine cP q33 ?_;simp -dsimp [↓ awpC_of xc34b];refine loopC T.length (fun k=>⟨[(0,.p (.sl 9 (cs.map corRow))),(1,.p (.str (ba t))),(5,.p (.sl 2 (T.map spRow))),(6,.ref (54,0) 1 0 k),(7,.p (.int .i64 k))],[((54,0),.sl 3 1 (((T.take k).map (fontN cs t)).map intRow))]⟩) (fun _=>True) (fun k hk _=>?_) trivial (by simp)
 by_cases h:k<T.length
 ·obtain ⟨⟨a,b⟩,ex⟩:=gn T[k];obtain ⟨hab,hb,h6⟩:=hm (a,b) (by rw [←ex];simp);dsimp only at hab hb h6;have wk:R ((k:Int)+1):=rO (by omega)
  have m1:k+1≤maxLen:=by unfold maxLen;omega
  have e1:(k+1)*8≤140737488355328:=by omega
  have hcl2:(codesT t a b).length≤1000:=by have:=visT_len (t:=t) (a:=a) (b:=b);simp [codesT];omega
  have hs:((T.take (k+1)).map (fontN cs t)).map intRow=((T.take k).map (fontN cs t)).map intRow++[[.int .i64 (fontN cs t (a,b))]]:=by
   rw [List.take_add_one,List.getElem?_eq_getElem h,ex];simp [intRow]
  obtain ⟨L,eL⟩:=gn ((T.take k).map (fontN cs t));rw [eL] at hs;have hLl:L.length=k:=by rw [←eL];simp;omega
  obtain ⟨fo,ef⟩:=gn (fontN cs t (a,b));rw [ef] at hs;have ht:List.take (k+1) (L.map intRow++[[.int .i64 fo]])=L.map intRow++[[.int .i64 fo]]:=List.take_of_length_le (by simp;omega)
  rw [eL,hs];simp -dsimp [h,ex,spRow,↓ awpC_of xc34b];refine call_p (b75 t a b hab hb hl) (by simp [spRow]) (by simp) ?_;simp -dsimp [h,ex,spRow,↓ awpC_of xc34b];refine call_p (b76 t a b hab hb hl) (by simp [spRow]) (by simp) ?_;have wl:R ((cs.length:Int) - 1):=rO (by omega)
  by_cases h1:clsT t (baseT t a b)=1
  ·have hfo:fo=-1:=by rw [←ef];simp [fontN,h1]
   subst hfo;simp -dsimp [h1,↓ awpC_of xc34b];refine awpC_in ?_;simp -dsimp [xc34b,wr wl,↓ awpC_of xc34c];refine loopC 0 (fun m=>⟨[(0,.p (.sl 9 (cs.map corRow))),(1,.p (.str (ba t))),(5,.p (.sl 2 (T.map spRow))),(6,.ref (54,0) 1 0 k),(7,.p (.int .i64 k)),(8,.p (.int .i64 (-1))),(9,.p (.bool true)),(10,.p (.sl 1 ((codesT t a b).map intRow))),(11,.p (.int .i64 ((cs.length:Int) - 1)))],[((54,0),.sl 3 1 (L.map intRow))]⟩) (fun _=>True) (fun m hm' _=>?_) trivial (by simp);obtain ⟨z,ez⟩:=gn ((cs.length:Int) - 1);rw [ez]
   by_cases h0:(0:Int)≤z
   ·simp -dsimp [h0,↓ awpC_of xc34c];refine awpC_in ?_;simp -dsimp [xc34c,m1,e1,hLl,ht,wr wk,h,List.range,List.range.loop,-List.all_eq_true]
   ·simp -dsimp [h0,↓ awpC_of xc34c];refine awpC_in ?_;simp -dsimp [xc34c,m1,e1,hLl,ht,wr wk,h,List.range,List.range.loop,-List.all_eq_true]
  ·have hfo:idxS (allN (codesT t a b)) cs=fo:=by rw [←ef];simp [fontN,h1]
   obtain ⟨Q,eQ⟩:=gn (allN (codesT t a b));rw [eQ] at hfo;simp -dsimp [h1,↓ awpC_of xc34b];refine awpC_in ?_;simp -dsimp [xc34b,wr wl,↓ awpC_of xc34c];refine loopC cs.length (fun m=>⟨[(0,.p (.sl 9 (cs.map corRow))),(1,.p (.str (ba t))),(5,.p (.sl 2 (T.map spRow))),(6,.ref (54,0) 1 0 k),(7,.p (.int .i64 k)),(8,.p (.int .i64 (nxtN Q cs (cs.length - m)))),(9,.p (.bool false)),(10,.p (.sl 1 ((codesT t a b).map intRow))),(11,.p (.int .i64 ((cs.length:Int) - 1 - m)))],[((54,0),.sl 3 1 (L.map intRow))]⟩) (fun _=>True) (fun m hm' _=>?_) trivial (by simp [nxt_end])
   by_cases hlt:m<cs.length
   ·obtain ⟨j,ej⟩:∃ j:Nat,(cs.length:Int) - 1 - m=j:=⟨cs.length - 1 - m,by omega⟩;have hj:j<cs.length:=by omega
    obtain ⟨c,ec⟩:=gn cs[j];have e2:cs.length - m=j+1:=by omega
    have e3:cs.length - (m+1)=j:=by omega
    have e4:(cs.length:Int) - 1 - ((m+1:Nat):Int)=(j:Int) - 1:=by omega
    have wj:R ((j:Int) - 1):=rO (by omega);have h0:(0:Int)≤j:=by omega
    have hst:=nxt_step (q:=Q) hj;rw [ec] at hst;have q36:=b77 c (hcs.2 c (by rw [←ec];simp)) (codesT t a b) hcl2
    rw [eQ] at q36;rw [ej,e2,e3,e4];simp -dsimp [h0,hj,ec,corRow];refine call_p q36 (by simp [corRow]) (by simp) ?_;rw [hst];cases hq:Q c with
    | false=>simp -dsimp [wr wj,hlt]
    | true=>simp -dsimp [wr wj,hlt]
   ·have:m=cs.length:=by omega
    subst this;obtain ⟨z,ez⟩:=gn ((cs.length:Int) - 1 - cs.length);have h0:¬(0:Int)≤z:=by omega
    rw [Nat.sub_self,nxt0,hfo,ez];simp -dsimp [h0,↓ awpC_of xc34c];refine awpC_in ?_;simp -dsimp [xc34c,m1,e1,hLl,ht,wr wk,h,List.range,List.range.loop,-List.all_eq_true]
 ·have:k=T.length:=by omega
  subst this;rw [List.take_length];obtain ⟨L,eL⟩:=gn (T.map (fontN cs t));have hLl:L.length=T.length:=by rw [←eL];simp
  have ht4:List.take T.length (L.map intRow)=L.map intRow:=List.take_of_length_le (by simp;omega);rw [eL];simp -dsimp [h,resOf,hLl,ht4];rw [←eL,List.map_map]
end
section
set_option maxHeartbeats 1000000
attribute [local simp] w1
theorem sumW_first (c:Cor) (s:Stg) (b x:Int) (l:List Int):sumW c s b (x :: l)=sumW c s (-1) (x :: l)+(if 0≤b then betwN c b x s.size else 0):=by
 have n1:¬(0:Int)≤-1:=by omega
 simp only [sumW,n1,if_false];omega
theorem takeLast {l:List Int} (hn:∀ x∈l,0≤x) {j:Nat} (h:j≤l.length):(0≤(l.take j).getLastD (-1)↔0<j)∧(0<j→l[j - 1]?=some ((l.take j).getLastD (-1))):=by
 rcases Nat.eq_zero_or_pos j with rfl | h0
 ·simp
 ·obtain ⟨i,rfl⟩:∃ i,j=i+1:=⟨j - 1,by omega⟩;have hi:i<l.length:=by omega
  have e:(l.take (i+1)).getLastD (-1)=l[i]:=by
   have:l.take (i+1)=l.take i++[l[i]]:=by rw [List.take_add_one,List.getElem?_eq_getElem hi];rfl
   rw [this,List.getLastD_eq_getLast?,List.getLast?_concat];rfl
  rw [e,Nat.add_sub_cancel,List.getElem?_eq_getElem hi];have:=hn l[i] (by simp);exact ⟨⟨fun _=>h0,fun _=>this⟩,fun _=>rfl⟩
theorem b130 (cs:List Cor) (hcs:CorsOk2 cs) (t:List UInt8) (hl:t.length≤1000000) (s:Stg) (hs:s.at_.length≤1000) :
  Bt 130 [.sl 9 (cs.map corRow),.str (ba t),.agg (stgRow s)] (.p (.sl 1 ((widthsN cs t s).map intRow))):=by
 refine best mixed fn130 ok130 (by simp [stgRow]) ?_;unfold widthsN;have q41:=b20 s hs;simp -dsimp [ac130,stgRow,↓ awpC_of xc130b];refine call_p q41 (by simp [stgRow]) (by simp) ?_
 by_cases h1:fitN s=true
 rotate_left
 ·simp -dsimp [h1,resOf,↓ awpC_of xc130b]
 obtain ⟨f1,f2,f3⟩:=fitN_b h1;simp -dsimp [h1,↓ awpC_of xc130b];refine cP (b33 t hl) ?_;simp -dsimp [↓ awpC_of xc130b];refine cP (b34 cs hcs.one t hl) ?_;have hsl:=splT_len t;have hm:∀ x∈splT t,x.1<x.2∧x.2≤t.length∧x.2 - x.1≤6:=fun x hx=>splT_mem hx
 have hfl:(fontsN cs t).length=(splT t).length:=by simp [fontsN]
 have hfg:∀ j (hj:j<(splT t).length),(fontsN cs t)[j]'(by omega)=fontN cs t ((splT t)[j]):=fun j hj=>by simp [fontsN]
 have hV:∀ i,wdN cs t s i=wdN cs t s i:=fun _=>rfl
 conv at hV=>intro i;rhs;unfold wdN befN
 obtain ⟨T,eT⟩:=gn (splT t);obtain ⟨Fs,eF⟩:=gn (fontsN cs t);simp only [eT,eF] at hm hfl hfg hV hsl ⊢;obtain ⟨W,eW⟩:∃ W:Nat→List Int,W=fun k=>(List.range k).map (wdN cs t s):=⟨_,rfl⟩
 have hW0:W 0=[]:=by rw [eW];rfl
 have hWl:∀ k,(W k).length=k:=fun k=>by rw [eW];simp
 have hWs:∀ k,(W (k+1)).map intRow=(W k).map intRow++[[.int .i64 (wdN cs t s k)]]:=fun k=>by rw [eW];simp [List.range_succ,intRow]
 have hWe:(List.range T.length).map (wdN cs t s)=W T.length:=by rw [eW]
 rw [hWe];simp -dsimp [↓ awpC_of xc130b];refine loopC T.length (fun k=>⟨[(0,.p (.sl 9 (cs.map corRow))),(1,.p (.str (ba t))),(5,.ptr (5,0) 3 0 0),(7,.p (.sl 2 (T.map spRow))),(8,.p (.sl 1 (Fs.map intRow))),(9,.ref (52,0) 1 0 k),(10,.p (.int .i64 k))],
  [((5,0),.box [.p (.int .i64 s.size),.p (.sl 1 (s.at_.map intRow)),.p (.int .i64 s.feat)]),((52,0),.sl 3 1 ((W k).map intRow))]⟩) (fun _=>True) (fun k hk _=>?_) trivial (by simp [hW0])
 by_cases h:k<T.length
 rotate_left
 ·have:k=T.length:=by omega
  subst this;have hl:=hWl T.length;have ht:List.take T.length ((W T.length).map intRow)=(W T.length).map intRow:=List.take_of_length_le (by simp [hl]);simp -dsimp [h,h1,resOf,ht,hl,↓ awpC_of xc130b]
 have wk:R ((k:Int)+1):=rO (by omega);have m1:k+1≤maxLen:=by unfold maxLen;omega
 have e1:(k+1)*8≤140737488355328:=by omega
 have hl1:=hWl k;have hs1:=hWs k;have eV:=hV k;obtain ⟨L,eL⟩:=gn (W k);obtain ⟨V,exx⟩:=gn (wdN cs t s k);rw [exx] at hs1 eV;rw [eL] at hs1 hl1;have ht:List.take (k+1) (L.map intRow++[[.int .i64 V]])=L.map intRow++[[.int .i64 V]]:=List.take_of_length_le (by simp;omega)
 rw [eL,hs1];obtain ⟨⟨a,b⟩,ex⟩:=gn T[k];obtain ⟨hab,hb,h6⟩:=hm (a,b) (by rw [←ex];simp);dsimp only at hab hb h6;have exd:T.getD k (0,0)=(a,b):=by simp [h,ex]
 obtain ⟨fo,ef⟩:=gn (fontN cs t (a,b));have hfi:=hfg k h;rw [ex,ef] at hfi;have hFi:k<Fs.length:=by omega
 rw [exd,ef] at eV
 by_cases h2:fo<0
 ·have wd:R (s.size.tdiv 2):=R_tdiv (d:=2) (⟨by omega,by omega⟩:R s.size) (by omega);simp -dsimp [h,hFi,hfi,ex,spRow,intRow,h2,wr wd,↓ awpC_of xc130b];refine call_p (b75 t a b hab hb hl) (by simp [spRow]) (by simp) ?_
  by_cases h3:clsT t (baseT t a b)=1
  ·rw [if_pos h3] at eV;subst eV;simp -dsimp [h3,h,m1,e1,hl1,ht,wr wk,List.range,List.range.loop,-List.all_eq_true,↓ awpC_of xc130b]
  ·rw [if_neg h3,if_pos h2] at eV;subst eV;simp -dsimp [h3,h,m1,e1,hl1,ht,wr wk,List.range,List.range.loop,-List.all_eq_true,↓ awpC_of xc130b]
 have h3:¬clsT t (baseT t a b)=1:=fun e=>by
  have:fontN cs t (a,b)=-1:=by simp [fontN,e]
  omega
 obtain ⟨m,hm1,hm2⟩:=fontN_lt (cs:=cs) (t:=t) (x:=(a,b)) (by rw [ef];exact h2);rw [ef] at hm1;subst hm1;obtain ⟨c,ec⟩:=gn cs[m]
 have hcm:c∈cs:=by rw [←ec];simp
 have hgc:cs.getD (m:Int).toNat cor0=c:=by simp [hm2,ec]
 rw [if_neg h3,if_neg h2,hgc] at eV;dsimp only at eV;have hco:=hcs.2 c hcm
 have hp:=hco.prb;have hpl:=hco.pr;have hch:c.ch.length≤1000:=hco.ch;have hax:c.ax.length≤1000:=hco.ax;have hC:(codesT t a b).length≤6:=by have:=codesT_len (t:=t) (a:=a) (b:=b);omega
 have hCn:∀ x∈codesT t a b,0≤x:=codesT_nn;have q35:=b76 t a b hab hb hl;obtain ⟨C,eC⟩:=gn (codesT t a b);rw [eC] at eV hC hCn q35;simp -dsimp [h,hFi,hfi,ex,spRow,intRow,h2,↓ awpC_of xc130b];refine awpC_in ?_;simp -dsimp [xc130b,hFi,hfi,intRow,hm2,ec,corRow,↓ awpC_of xc130c];refine call_p (b166 c hax s hs) (by simp [corRow,stgRow]) (by simp) ?_;simp -dsimp [stgRow,h,ex,spRow,↓ awpC_of xc130c];refine call_p q35 (by simp [spRow]) (by simp) ?_;simp -dsimp [stgRow,h,ex,spRow,↓ awpC_of xc130c];have kz:k+1≤1000001:=by omega
 refine loopC C.length (fun j=>⟨[(0,.p (.sl 9 (cs.map corRow))),(1,.p (.str (ba t))),(5,.ptr (5,0) 3 0 0),(7,.p (.sl 2 (T.map spRow))),(8,.p (.sl 1 (Fs.map intRow))),(9,.ref (52,0) 1 0 k),(10,.p (.int .i64 k)),(12,.ptr (12,0) 9 0 0),(13,.ptr (13,0) 3 0 0),(14,.p (.sl 1 (C.map intRow))),(15,.p (.int .i64 (sumW c s (-1) (C.take j)))),(16,.p (.int .i64 j))],
  [((5,0),.box [.p (.int .i64 s.size),.p (.sl 1 (s.at_.map intRow)),.p (.int .i64 s.feat)]),((12,0),.box ((corRow c).map .p)),((13,0),.box ((stgRow (s.own c.ax.length)).map .p)),((52,0),.sl 3 1 (L.map intRow))]⟩) (fun _=>True) (fun j hj _=>?_) trivial (by simp [sumW,stgRow,corRow])
 by_cases h4:j<C.length
 ·obtain ⟨x,ex4⟩:=gn C[j];have hx:C[j]?=some x:=by simp [h4,ex4]
  have hsn:=sumW_snoc c s x (C.take j) (-1);have htk:C.take (j+1)=C.take j++[x]:=by rw [List.take_add_one,hx];rfl
  rw [←htk] at hsn;have hb4:=sumW_b hp s (C.take j) (-1)
  have hl2:(C.take j).length≤6:=by simp;omega
  have wj:R ((j:Int)+1):=rO (by omega);have hw:(widthN c x (s.own c.ax.length)).1=cwN c s x:=rfl;have hcb:=cwN_b (c:=c) (s:=s) (x:=x);have q42:=b167 c hch x (s.own c.ax.length) (Cor.fine.w hco x (s.own c.ax.length) (by simp [Stg.own,setN];omega));obtain ⟨g1,g2⟩:=takeLast hCn (j:=j) (by omega);have hbb:=betwN_b hp (a:=(C.take j).getLastD (-1)) (b:=x) (n:=s.size);obtain ⟨l,el⟩:=gn ((C.take j).getLastD (-1));obtain ⟨v,ev⟩:=gn (sumW c s (-1) (C.take j));obtain ⟨z,ez⟩:=gn (cwN c s x);obtain ⟨w,ew⟩:=gn (betwN c l x s.size);obtain ⟨v',ev'⟩:∃ v',sumW c s (-1) (C.take (j+1))=v':=⟨_,rfl⟩;rw [el,ev,ez,ew,ev'] at hsn;rw [ev] at hb4;rw [ez] at hcb hw;rw [el,ew] at hbb;rw [el] at g1 g2;rw [ev,ev'];have w1':R (v+z):=rO (by omega)
  have w2':R (v+z+w):=rO (by omega);simp -dsimp [h4,ex4,intRow,stgRow,corRow,↓ awpC_of xc130c];refine call_p q42 (by simp [stgRow,corRow]) (by simp) ?_;rw [hw];rcases Nat.eq_zero_or_pos j with h0 | h0
  ·rw [if_neg (fun e=>by have:=g1.1 e;omega)] at hsn;subst h0;simp -dsimp [h4,wr w1',hsn,stgRow,corRow,↓ awpC_of xc130c]
  ·rw [if_pos (g1.2 h0)] at hsn;have g3:=g2 h0
   obtain ⟨i,rfl⟩:∃ i,j=i+1:=⟨j - 1,by omega⟩;have hi:i<C.length:=by omega
   rw [Nat.add_sub_cancel,List.getElem?_eq_getElem hi] at g3;have g4:C[i]=l:=Option.some.inj g3
   have wi:R (i:Int):=rO (by omega);have i0:0<(i:Int)+1:=by omega
   have wj2:R ((i:Int)+1+1):=rO (by omega);have i1:0≤(i:Int)+1:=by omega
   simp -dsimp [h4,i0,i1,ex4,hi,g4,wr w1',wr wi,hsn,intRow,stgRow,corRow,↓ awpC_of xc130c];refine call_p (b168 c (by omega) hp l x s.size) (by simp [corRow]) (by simp) ?_;rw [ew];simp -dsimp [h4,wr w2',wr wj2,hsn,stgRow,corRow,↓ awpC_of xc130c]
 have:j=C.length:=by omega
 subst this;rw [List.take_length];simp -dsimp [h4,corRow,stgRow,↓ awpC_of xc130c];refine awpC_in ?_;have hbC:=sumW_b hp s C (-1);obtain ⟨v,ev⟩:=gn (sumW c s (-1) C);rw [ev] at hbC ⊢;rcases Nat.eq_zero_or_pos k with h0 | h0
 ·rw [if_neg (fun e=>by omega),ev] at eV;have heq:max v 0=V:=eV.symm
  subst h0;simp -dsimp [xc130c,↓ awpC_of xc130d];refine awpC_in ?_;simp -dsimp [xc130d,heq,h,m1,e1,hl1,ht,wr wk,List.range,List.range.loop,-List.all_eq_true]
 obtain ⟨p,rfl⟩:∃ p,k=p+1:=⟨k - 1,by omega⟩;have hpT:p<T.length:=by omega
 have hFp:p<Fs.length:=by omega
 obtain ⟨⟨a',b'⟩,ex'⟩:∃ x,T[p]=x:=⟨_,rfl⟩;obtain ⟨hab',hb',h6'⟩:=hm (a',b') (by rw [←ex'];simp);dsimp only at hab' hb' h6';have hfp:=hfg p hpT
 rw [ex'] at hfp;have exd':T.getD p (0,0)=(a',b'):=by simp [hpT,ex']
 rw [Nat.add_sub_cancel,exd'] at eV;obtain ⟨fp,efp⟩:=gn (fontN cs t (a',b'))
 rw [efp] at hfp eV;have wp:R (p:Int):=rO (by omega)
 have wk2:R ((p:Int)+1+1):=rO (by omega);have p0:0<(p:Int)+1:=by omega
 have p1:0≤(p:Int)+1:=by omega
 by_cases h5:fp=m
 rotate_left
 ·rw [if_neg (fun e=>h5 e.2),ev] at eV;have heq:max v 0=V:=eV.symm
  simp -dsimp [xc130c,p0,p1,hFp,hfp,hFi,hfi,h5,intRow,wr wp,↓ awpC_of xc130d];refine awpC_in ?_;simp -dsimp [xc130d,heq,h,m1,e1,hl1,ht,wr wk2,List.range,List.range.loop,-List.all_eq_true]
 rw [if_pos ⟨h0,h5⟩] at eV
 by_cases h7:C=[]
 ·subst h7;have hv:v=0:=ev.symm;have heq:max v 0=V:=by rw [hv,eV];rfl
  simp -dsimp [xc130c,p0,p1,hFp,hfp,hFi,hfi,h5,intRow,wr wp,↓ awpC_of xc130d];refine awpC_in ?_;simp -dsimp [xc130d,heq,h,m1,e1,hl1,ht,wr wk2,List.range,List.range.loop,-List.all_eq_true]
 obtain ⟨x,C',rfl⟩:=List.exists_cons_of_ne_nil h7;have c0:0<((x :: C').length:Int):=by rw [List.length_cons];omega
 have q35':=b76 t a' b' hab' hb' hl;have hDl:=codesT_len (t:=t) (a:=a') (b:=b');have hDn:∀ x∈codesT t a' b',0≤x:=codesT_nn;obtain ⟨D,eD⟩:=gn (codesT t a' b');rw [eD] at eV q35' hDl hDn;simp -dsimp [xc130c,p0,p1,hFp,hfp,hFi,hfi,h5,c0,hpT,ex',spRow,intRow,wr wp,↓ awpC_of xc130d];refine call_p q35' (by simp [spRow]) (by simp) ?_
 by_cases h8:D=[]
 ·subst h8;rw [sumW_first,if_neg (by simp),ev] at eV;have heq:max v 0=V:=by rw [eV];simp
  simp -dsimp [↓ awpC_of xc130d];refine awpC_in ?_;simp -dsimp [xc130d,heq,h,m1,e1,hl1,ht,wr wk2,List.range,List.range.loop,-List.all_eq_true]
 have d0:0<D.length:=List.length_pos_iff.2 h8;have d1:0<(D.length:Int):=by omega
 obtain ⟨y,ey⟩:=gn (D.getLastD (-1));have ey':D[D.length - 1]=y:=by rw [←ey,List.getLastD_eq_getLast?,List.getLast?_eq_getElem?,List.getElem?_eq_getElem (by omega)];rfl
 have y0:0≤y:=by rw [←ey'];exact hDn _ (by simp)
 have wl:R ((D.length:Int) - 1):=rO (by omega);have ln:(0:Int)≤(D.length:Int) - 1:=by omega
 have lt:((D.length:Int) - 1).toNat=D.length - 1:=by omega
 have lt2:D.length - 1<D.length:=by omega
 have l1:1≤(D.length:Int):=by omega
 rw [ey,sumW_first,if_pos y0,ev] at eV;have hbb:=betwN_b hp (a:=y) (b:=x) (n:=s.size)
 have q43:=b168 c (by omega) hp y x s.size;obtain ⟨w,ew⟩:=gn (betwN c y x s.size);rw [ew] at eV hbb q43;have heq:max (v+w) 0=V:=eV.symm
 have w2':R (v+w):=rO (by omega);simp -dsimp [d0,↓ awpC_of xc130d];simp -dsimp [d0,d1,wr wl,ln,l1,lt,lt2,ey',intRow,corRow,↓ awpC_of xc130d];refine call_p q43 (by simp [corRow]) (by simp) ?_;simp -dsimp [wr w2',↓ awpC_of xc130d];refine awpC_in ?_;simp -dsimp [xc130d,heq,h,m1,e1,hl1,ht,wr wk2,List.range,List.range.loop,-List.all_eq_true]
end
section
attribute [local simp ↓] awpY_skip awpY_seq awpY_cond awpY_block awpY_loop awpY_exit awpY_ret awpY_reg awpY_draw awpY_ghost awpY_yt awpY_yf stepY_eq awpY_scope awpY_label
attribute [local simp] coreY Fr.pure AV.pur
set_option maxHeartbeats 400000
attribute [local simp] evC
attribute [local simp ↓] oneN oneI oneSp
attribute [local simp] ba_size wb ba_at w1
def strongB (b:UInt8):Bool:=decide (strongN b.toNat=1) || decide (strongN b.toNat=2)
def baseN (t:List UInt8):Int:=match t.find? strongB with | some b=>strongN b.toNat | none=>1
theorem oneB (z:List UInt8):((z.map byteRow).all fun r=>r.all PV.one)=true:=by
 rw [List.all_eq_true];intro r hr;obtain ⟨x,_,rfl⟩:=List.mem_map.1 hr;rfl
attribute [local simp ↓] oneB
theorem b62 (t:List UInt8) (hl:t.length≤1000000):Bt 62 [.str (ba t)] (.p (.int .i64 (baseN t))):=by
 refine best mixed fn62 ok62 (by simp) ?_;have hd:(ba t).data.toList=t:=by simp [ba]
 have h0:t.length≤9223372036854775807:=by omega
 simp -dsimp [ac62,hd,h0];refine loopC t.length (fun k=>⟨[(7,.p (.sl 1 (t.map byteRow))),(8,.p (.int .i64 t.length)),(9,.p (.int .i64 k))],[]⟩) (fun k=>∀ y∈t.take k,strongB y=false) (fun k hk hall=>?_) (by simp) (by simp)
 by_cases h:k<t.length
 ·obtain ⟨x,ex⟩:=gn t[k];have hx:t[k]?=some x:=by simp [h,ex]
  have wk:R ((k:Int)+1):=rO (by omega);have wx:R (x.toNat:Int):=⟨by omega,by have:=x.toNat_lt;omega⟩;have hit:strongB x=true→baseN t=strongN x.toNat:=fun h2=>by
   unfold baseN;have:t.find? strongB=some x:=by
    rw [List.find?_eq_some_iff_getElem];refine ⟨h2,k,h,ex,fun j hj=>?_⟩;have:=hall (t[j]'(by omega)) (List.mem_take_iff_getElem.2 ⟨j,by omega,rfl⟩);simp only [this,Bool.not_false]
   rw [this]
  have go:strongB x=false→∀ y∈t.take (k+1),strongB y=false:=fun h2=>take_succ_all (p:=fun y=>strongB y=false) hx hall h2
  simp -dsimp [h,ex,byteRow,wr wx];refine cP (b108 x.toNat) ?_
  by_cases h1:strongN x.toNat=1
  ·have:=hit (by simp [strongB,h1]);simp -dsimp [h1,this]
  by_cases h2:strongN x.toNat=2
  ·have:=hit (by simp [strongB,h2]);simp -dsimp [h1,h2,this]
  have:=go (by simp [strongB,h1,h2]);simp -dsimp [h,h1,h2,wr wk]
  first | done | exact this | exact ⟨h,this⟩
 ·have:k=t.length:=by omega
  subst this;rw [List.take_length] at hall;have:baseN t=1:=by
   unfold baseN;rw [List.find?_eq_none.2 (fun y hy=>by simp only [hall y hy,Bool.false_eq_true,not_false_eq_true])]
  simp -dsimp [h,this]
theorem b52 (t:List UInt8) (hl:t.length≤1000000):Bt 52 [.str (ba t)] (.p (.bool (decide (baseN t=2)))):=by
 refine best mixed fn52 ok52 (by simp) ?_;simp -dsimp [ac52];refine cP (b62 t hl) ?_;simp -dsimp
theorem b110 (n:Int):Bt 110 [.int .i64 n] (.p (.bool (decide (n=0)))):=by
 refine best mixed fn110 ok110 (by simp) ?_;simp -dsimp [ac110]
theorem b147 (l:List Int) (v:Int) (i:Nat) (hi:i<l.length):Bt 147 [.int .i64 i,.ro [.sl 1 (l.map intRow)],.ro [.int .i64 v]] (.p (.bool (decide (v≤l.getD i 0)))):=by
 refine best mixed fn147 ok147 (by simp) ?_;obtain ⟨x,ex⟩:=gn l[i];have:l.getD i 0=x:=by simp [hi,ex]
 simp -dsimp [ac147,hi,ex,intRow,this]
theorem b109 (l:List Int) (f:FuncId) (ca:List PV):Bt 109 [.sl 1 (l.map intRow),.clo (.func f) [] ca] (.p (.clo (.func 154) [] [.ro [.sl 1 (l.map intRow)],.ro [.clo (.func f) [] ca]])):=by
 refine best mixed fn109 ok109 (by simp) ?_;simp -dsimp [ac109]
theorem b100 (l:List Int):Bt 100 [.sl 1 (l.map intRow)] (.p (.clo (.func 145) [] [.ro [.sl 1 (l.map intRow)]])):=by
 refine best mixed fn100 ok100 (by simp) ?_;simp -dsimp [ac100]
theorem g145 (l:List Int) (hl:l.length≤1000000):Gens Tryz.prog 145 [] [.ro [.sl 1 (l.map intRow)]] (l.map intRow):=by
 refine gens mixed fn145 ok145 (by simp) fun y=>?_
 simp -dsimp [ac145];refine loopYP l.length (fun k=>⟨[(0,.p (.clo (.yield y) [] [])),(5,.p (.sl 1 (l.map intRow))),(6,.p (.int .i64 l.length)),(7,.p (.int .i64 k))],[]⟩) (fun k=>k) (fun k hk=>?_) rfl (by simp)
 by_cases h:k<l.length
 ·have wk:R ((k:Int)+1):=rO (by omega);obtain ⟨x,ex⟩:=gn l[k];simp -dsimp [h,ex,intRow,wr wk]
 ·have:k=l.length:=by omega
  subst this;simp -dsimp [h]
def runE (q:Int→Bool) (l:List Int) (key:Bool) (i:Nat):Nat:=i+((l.drop i).takeWhile fun x=>q x == key).length
theorem runE_le {q:Int→Bool} {l:List Int} {key:Bool} {i:Nat} (h:i≤l.length):i≤runE q l key i∧runE q l key i≤l.length:=by
 have:=(List.takeWhile_prefix (fun x=>q x == key) (l:=l.drop i)).length_le;rw [List.length_drop] at this;unfold runE;omega
theorem runE_in {q:Int→Bool} {l:List Int} {key:Bool} {i j:Nat} (h1:i≤j) (h2:j<runE q l key i) (hj:j<l.length):q (l.getD j 0)=key:=by
 obtain ⟨d,rfl⟩:∃ d,j=i+d:=⟨j - i,by omega⟩;have hd:d<((l.drop i).takeWhile fun x=>q x == key).length:=by unfold runE at h2;omega
 have h3:=List.all_takeWhile (l:=l.drop i) (p:=fun x=>q x == key);rw [List.all_eq_true] at h3;have h4:=h3 _ (List.getElem_mem hd)
 rw [(List.takeWhile_prefix (fun x=>q x == key) (l:=l.drop i)).getElem hd,List.getElem_drop] at h4;simp only [beq_iff_eq] at h4;simp [hj,h4]
theorem runE_out {q:Int→Bool} {l:List Int} {key:Bool} {i:Nat} (h:runE q l key i<l.length):q (l.getD (runE q l key i) 0)≠key:=by
 have h5:((l.drop i).takeWhile fun x=>q x == key).length<(l.drop i).length:=by
  unfold runE at h;rw [List.length_drop];omega
 intro e;have h6:∀ (m:List Int),(hm:(m.takeWhile fun x=>q x == key).length<m.length)→(q (m[(m.takeWhile fun x=>q x == key).length]) == key)=false:=by
  intro m
  induction m with
  | nil=>intro hm;simp at hm
  | cons x m ih=>
   intro hm
   by_cases hx:(q x == key)=true
   ·simp only [List.takeWhile_cons,hx,if_true,List.length_cons] at hm ⊢;have:=ih (by omega)
    simpa using this
   ·simp only [List.takeWhile_cons,hx,if_false,List.length_nil,List.getElem_cons_zero];simpa using hx
 have h7:=h6 _ h5;rw [List.getElem_drop] at h7;have h8:(i+((l.drop i).takeWhile fun x=>q x == key).length)<l.length:=h
 have h9:l.getD (runE q l key i) 0=l[i+((l.drop i).takeWhile fun x=>q x == key).length]:=by
  simp only [runE,List.getD_eq_getElem?_getD,List.getElem?_eq_getElem h8,Option.getD_some]
 rw [h9] at e;simp [e] at h7
def pcsF (q:Int→Bool) (l:List Int):Nat→Nat→List (Nat×Nat×Bool)
 | 0,_=>[]
 | n+1,i=>if i<l.length then (i,runE q l (q (l.getD i 0)) (i+1),q (l.getD i 0)) :: pcsF q l n (runE q l (q (l.getD i 0)) (i+1)) else []
def pcs (q:Int→Bool) (l:List Int):List (Nat×Nat×Bool):=pcsF q l l.length 0
def pnx (q:Int→Bool) (l:List Int) (i:Nat):Nat:=if i<l.length then runE q l (q (l.getD i 0)) (i+1) else l.length
def pst (q:Int→Bool) (l:List Int):Nat→Nat→Nat
 | 0,i=>i
 | k+1,i=>pst q l k (pnx q l i)
theorem pst_succ (q:Int→Bool) (l:List Int):∀ k i,pst q l (k+1) i=pnx q l (pst q l k i)
 | 0,i=>rfl
 | k+1,i=>pst_succ q l k (pnx q l i)
theorem pnx_le (q:Int→Bool) (l:List Int) {i:Nat}:pnx q l i≤l.length∧(i<l.length→i<pnx q l i):=by
 unfold pnx;split
 ·rename_i h;have:=runE_le (q:=q) (l:=l) (key:=q (l.getD i 0)) (i:=i+1) (by omega);exact ⟨this.2,fun _=>by omega⟩
 ·exact ⟨Nat.le_refl _,fun h=>absurd h (by assumption)⟩
theorem pst_le (q:Int→Bool) (l:List Int):∀ k i,i≤l.length→pst q l k i≤l.length
 | 0,i,h=>h
 | k+1,i,h=>pst_le q l k _ (pnx_le q l).1
theorem pcsF_get (q:Int→Bool) (l:List Int):∀ (n i:Nat),l.length - i≤n→i≤l.length→∀ k,(pst q l k i<l.length→(pcsF q l n i)[k]?=some (pst q l k i,pst q l (k+1) i,q (l.getD (pst q l k i) 0)))∧(k<(pcsF q l n i).length↔pst q l k i<l.length)
 | 0,i,h,hi,k=>by
  have e:i=l.length:=by omega
  subst e;have hk:∀ k,pst q l k l.length=l.length:=fun k=>by
   induction k with
   | zero=>rfl
   | succ k ih=>simp only [pst,pnx,Nat.lt_irrefl,if_false];exact ih
  rw [hk];simp [pcsF]
 | n+1,i,h,hi,k=>by
  by_cases hlt:i<l.length
  ·have e1:pnx q l i=runE q l (q (l.getD i 0)) (i+1):=by simp only [pnx,hlt,if_true]
   have e2:pcsF q l (n+1) i=(i,pnx q l i,q (l.getD i 0)) :: pcsF q l n (pnx q l i):=by rw [e1];simp only [pcsF,hlt,if_true]
   have h3:=pnx_le q l (i:=i);rw [e2];cases k with
   | zero=>exact ⟨fun _=>rfl,by simp [pst,hlt]⟩
   | succ k=>
    have:=pcsF_get q l n (pnx q l i) (by have:=h3.2 hlt;omega) h3.1 k;refine ⟨fun h4=>?_,?_⟩
    ·have:=this.1 h4;rw [List.getElem?_cons_succ,this];rfl
    ·rw [List.length_cons,Nat.add_lt_add_iff_right];exact this.2
  ·have e:i=l.length:=by omega
   subst e;have hk:∀ k,pst q l k l.length=l.length:=fun k=>by
    induction k with
    | zero=>rfl
    | succ k ih=>simp only [pst,pnx,Nat.lt_irrefl,if_false];exact ih
   rw [hk];simp [pcsF]
def pcRow (x:Nat×Nat×Bool):List PV:=[.agg [.int .i64 x.1,.int .i64 x.2.1],.bool x.2.2]
theorem allP_mapP:∀ (l:List PV),allP (l.map AV.p)=some l
 | []=>rfl
 | x :: l=>by simp [allP,allP_mapP l]
theorem g154 (l:List Int) (f:FuncId) (ca:List PV) (q:Int→Bool) (hf:∀ x∈l,Bt f (.int .i64 x :: ca) (.p (.bool (q x)))) (hl:l.length≤1000000):Gens Tryz.prog 154 [] [.ro [.sl 1 (l.map intRow)],.ro [.clo (.func f) [] ca]] ((pcs q l).map pcRow):=by
 refine gens mixed fn154 ok154 (by simp) fun y=>?_
 have hP:=pcsF_get q l l.length 0 (by omega) (by omega);have hpc:pcsF q l l.length 0=pcs q l:=rfl;simp only [hpc] at hP;simp -dsimp [ac154];refine loopYP (pcs q l).length (fun k=>⟨[(0,.p (.clo (.yield y) [] [])),(1,.p (.ro [.sl 1 (l.map intRow)])),(2,.p (.ro [.clo (.func f) [] ca])),(4,.p (.int .i64 (pst q l k 0)))],[]⟩) (fun k=>k) (fun k hk=>?_) rfl (by simp [pst]);have hle:=pst_le q l k 0 (by omega)
 obtain ⟨g1,g2⟩:=hP k;have hsu:=pst_succ q l k 0;obtain ⟨i,ei⟩:=gn (pst q l k 0);rw [ei] at g1 g2 hle hsu ⊢
 by_cases h:i<l.length
 ·have hk2:=g2.2 h;have hg:=g1 h;obtain ⟨x,ex⟩:=gn l[i];have exd:l.getD i 0=x:=by simp [h,ex]
  have hx:x∈l:=by rw [←ex];simp
  have wi:R ((i:Int)+1):=rO (by omega);simp -dsimp [h,ex,intRow,wr wi];refine call_p (hf x hx) (by simp [allP_mapP]) (by simp) ?_;obtain ⟨key,ek⟩:=gn (q x);rw [exd,ek] at hg;have hpn:pst q l (k+1) 0=runE q l key (i+1):=by
   rw [hsu];simp only [pnx,h,if_true,exd,ek]
  have hin:=fun j (h1:i+1≤j) h2 h3=>runE_in (q:=q) (l:=l) (key:=key) (i:=i+1) (j:=j) h1 h2 h3
  have hout:=runE_out (q:=q) (l:=l) (key:=key) (i:=i+1);have hel:=runE_le (q:=q) (l:=l) (key:=key) (i:=i+1) (by omega);rw [hpn] at hg ⊢;obtain ⟨e,ee⟩:=gn (runE q l key (i+1))
  rw [ee] at hin hout hel hg ⊢;rw [ek];simp -dsimp [h,ex,intRow,wr wi];refine loopYP (e - (i+1)) (fun m=>⟨[(0,.p (.clo (.yield y) [] [])),(1,.p (.ro [.sl 1 (l.map intRow)])),(2,.p (.ro [.clo (.func f) [] ca])),(4,.p (.int .i64 i)),(5,.p (.bool key)),(6,.p (.int .i64 ((i+1+m:Nat):Int)))],[]⟩) (fun _=>k) (fun m hm=>?_) rfl (by simp);obtain ⟨j,ej⟩:=gn (i+1+m)
  have ej2:i+1+(m+1)=j+1:=by omega
  rw [ej,ej2];have hje:j≤e:=by omega
  by_cases hj:j<l.length
  ·obtain ⟨z,ez⟩:=gn l[j];have ezd:l.getD j 0=z:=by simp [hj,ez]
   have hz:z∈l:=by rw [←ez];simp
   have wj:R ((j:Int)+1):=rO (by omega);have qz:=hf z hz;obtain ⟨b,eb⟩:=gn (q z);rw [eb] at qz;simp -dsimp [hj,ez,intRow];refine call_p qz (by simp [allP_mapP]) (by simp) ?_;rcases Nat.lt_or_ge j e with h3 | h3
   ·have hb:b=key:=by rw [←eb,←ezd];exact hin j (by omega) h3 hj
    subst hb;have hme:m<e - (i+1):=by omega
    simp -dsimp [wr wj,hme]
   ·have hje2:j=e:=by omega
    subst hje2;have hb:¬b=key:=by rw [←eb,←ezd];exact hout hj
    have hgm:pcRow ((pcs q l)[k]'hk2)=[.agg [.int .i64 i,.int .i64 j],.bool key]:=by rw [List.getElem?_eq_getElem hk2] at hg;rw [Option.some.inj hg];rfl
    cases b<;>cases key<;>first | exact absurd rfl hb | skip
    all_goals simp -dsimp [hgm,hk2,-List.getElem?_map]
  ·have hje2:j=e:=by omega
   subst hje2;have hgm:pcRow ((pcs q l)[k]'hk2)=[.agg [.int .i64 i,.int .i64 j],.bool key]:=by rw [List.getElem?_eq_getElem hk2] at hg;rw [Option.some.inj hg];rfl
   simp -dsimp [hj,hgm,hk2,-List.getElem?_map]
 ·have:¬k<(pcs q l).length:=fun e=>h (g2.1 e)
  have:k=(pcs q l).length:=by omega
  subst this;simp -dsimp [h]
end
section
attribute [local simp] ba_size wb ba_at w1
set_option maxHeartbeats 400000
attribute [local simp] evC
attribute [local simp ↓] oneN oneI oneSp oneB
def zerosI (n:Nat):List Int:=List.replicate n 0
theorem zerosI_rows (n:Nat):List.replicate n [PV.int .i64 0]=(zerosI n).map intRow:=by simp [zerosI,intRow]
theorem zerosI_len (n:Nat):(zerosI n).length=n:=by simp [zerosI]
def setR (L:List Int) (a b:Nat) (v:Int):List Int:=(List.range L.length).map fun i=>if a≤i∧i<b then v else L.getD i 0
@[simp] theorem setR_len {L:List Int} {a b:Nat} {v:Int}:(setR L a b v).length=L.length:=by simp [setR]
theorem setR_self (L:List Int) (a:Nat) (v:Int):setR L a a v=L:=by
 apply List.ext_getElem (by simp)
 intro i h1 h2;have:¬(a≤i∧i<a):=by omega
 simp [setR,this,h2]
theorem setR_succ (L:List Int) {a j:Nat} (v:Int) (h:a≤j):setR L a (j+1) v=(setR L a j v).set j v:=by
 apply List.ext_getElem (by simp)
 intro i h1 h2;have hi:i<L.length:=by simpa using h1
 rw [List.getElem_set];simp only [setR,List.getElem_map,List.getElem_range]
 by_cases e:j=i
 ·subst e;rw [if_pos (by omega),if_pos rfl]
 ·rw [if_neg e]
  by_cases e2:a≤i∧i<j
  ·rw [if_pos (by omega),if_pos e2]
  ·rw [if_neg (by omega),if_neg e2]
theorem map_set_row (L:List Int) (j:Nat) (v:Int):(L.map intRow).set j [.int .i64 v]=(L.set j v).map intRow:=by
 rw [List.map_set];rfl
def kinK (t:List UInt8):Nat→List Int
 | 0=>zerosI t.length
 | k+1=>setR (kinK t k) ((splT t).getD k (0,0)).1 ((splT t).getD k (0,0)).2 (strongN (cT t (baseT t ((splT t).getD k (0,0)).1 ((splT t).getD k (0,0)).2)))
theorem kinK_len (t:List UInt8):∀ k,(kinK t k).length=t.length
 | 0=>zerosI_len _
 | k+1=>by rw [kinK,setR_len,kinK_len t k]
def kinT (t:List UInt8):List Int:=kinK t (splT t).length
theorem b61 (t:List UInt8) (hl:t.length≤1000000):Bt 61 [.str (ba t)] (.p (.sl 1 ((kinT t).map intRow))):=by
 refine best mixed fn61 ok61 (by simp) ?_;have m0:(t.length:Int)≤281474976710656:=by omega
 have f0:(t.length:Int)≤9223372036854775807:=by omega
 have e0:8*(t.length:Int)≤281474976710656:=by omega
 have hsl:=splT_len t;have hm:∀ x∈splT t,x.1<x.2∧x.2≤t.length∧x.2 - x.1≤6:=fun x hx=>splT_mem hx
 have hkl:=kinK_len t;have hks:∀ k,kinK t (k+1)=setR (kinK t k) ((splT t).getD k (0,0)).1 ((splT t).getD k (0,0)).2 (strongN (cT t (baseT t ((splT t).getD k (0,0)).1 ((splT t).getD k (0,0)).2))):=fun k=>rfl
 unfold kinT;have q25:=b23 t hl;obtain ⟨T,eT⟩:=gn (splT t);simp only [eT] at hm hsl hks q25 ⊢;simp -dsimp [ac61,m0,e0,f0];refine cP q25 ?_;rw [zerosI_rows];simp -dsimp;refine loopC T.length (fun k=>⟨[(0,.p (.str (ba t))),(3,.ref (10,0) 1 0 t.length),(12,.p (.sl 2 (T.map spRow))),(13,.p (.int .i64 T.length)),(14,.p (.int .i64 k))],[((10,0),.sl 3 1 ((kinK t k).map intRow))]⟩) (fun _=>True) (fun k hk _=>?_) trivial (by simp [kinK])
 by_cases h:k<T.length
 ·obtain ⟨⟨a,b⟩,ex⟩:=gn T[k];obtain ⟨hab,hb,h6⟩:=hm (a,b) (by rw [←ex];simp);dsimp only at hab hb h6;have exd:T.getD k (0,0)=(a,b):=by simp [h,ex]
  have hkk:=hks k;rw [exd] at hkk;dsimp only at hkk;obtain ⟨L,eL⟩:=gn (kinK t k)
  have hLl:L.length=t.length:=eL ▸ hkl k;have hbt:=baseT_le (t:=t) hab;obtain ⟨m,em⟩:=gn (baseT t a b);rw [em] at hkk hbt;have hmt:m<t.length:=by omega
  obtain ⟨v,ev⟩:=gn (strongN (cT t m));rw [eL,ev] at hkk;rw [eL,hkk];have wk:R ((k:Int)+1):=rO (by omega)
  have q67:=b25 t a b hab hb hl;rw [em] at q67;have q125:=b108 (cT t m)
  rw [ev] at q125;have hget:=ba_get hmt
  simp -dsimp [h,ex,spRow];refine call_p q67 (by simp [spRow]) (by simp) ?_;simp -dsimp [hmt,hget];refine call_p q125 (by simp [cT]) (by simp) ?_;simp -dsimp;refine loopC (b - a) (fun n=>⟨[(0,.p (.str (ba t))),(3,.ref (10,0) 1 0 t.length),(5,.ptr (5,0) 2 0 0),(6,.p (.int .i64 v)),(7,.p (.int .i64 ((a+n:Nat):Int))),(12,.p (.sl 2 (T.map spRow))),(13,.p (.int .i64 T.length)),(14,.p (.int .i64 k))],[((5,0),.box [.p (.int .i64 a),.p (.int .i64 b)]),((10,0),.sl 3 1 ((setR L a (a+n) v).map intRow))]⟩) (fun _=>True) (fun n hn _=>?_) trivial (by simp [setR_self]);obtain ⟨j,ej⟩:=gn (a+n);have ej2:a+(n+1)=j+1:=by omega
  rw [ej,ej2]
  by_cases hj:j<b
  ·have hs:=setR_succ L (a:=a) (j:=j) v (by omega);have hml:=map_set_row (setR L a j v) j v;rw [←hs] at hml;have hl3:(setR L a j v).length=t.length:=by simp [hLl]
   obtain ⟨M,eM⟩:=gn (setR L a j v);rw [eM] at hml hl3 ⊢;have hjM:j<M.length:=by omega
   have hjt:j<t.length:=by omega
   have wj:R ((j:Int)+1):=rO (by omega);have hn2:n<b - a:=by omega
   have htl:(intRow M[j]).tail=[]:=rfl;simp -dsimp [hj,hjM,hjt,hl3,htl,hml,wr wj,hn2,-List.all_eq_true,-List.map_set]
  ·have hjb:j=b:=by omega
   subst hjb;simp -dsimp [h,wr wk]
 ·have:k=T.length:=by omega
  subst this;have hl2:=hkl T.length;have ht:List.take t.length ((kinK t T.length).map intRow)=(kinK t T.length).map intRow:=List.take_of_length_le (by simp [hl2]);simp -dsimp [h,resOf,ht,hl2]
end
section
attribute [local simp] ba_size wb ba_at w1
set_option maxHeartbeats 400000
attribute [local simp] evC
attribute [local simp ↓] oneN oneI oneSp oneB
def bcT (t:List UInt8) (i:Nat):Int:=cT t (baseT t ((splT t).getD i (0,0)).1 ((splT t).getD i (0,0)).2)
theorem b97 (t:List UInt8) (hl:t.length≤1000000) (i:Nat) (hi:i<(splT t).length):Bt 97 [.int .i64 i,.ro [.str (ba t)],.ro [.sl 2 ((splT t).map spRow)]] (.p (.int .i64 (bcT t i))):=by
 refine best mixed fn97 ok97 (by simp) ?_;have hm:∀ x∈splT t,x.1<x.2∧x.2≤t.length∧x.2 - x.1≤6:=fun x hx=>splT_mem hx
 have hb0:bcT t i=cT t (baseT t ((splT t).getD i (0,0)).1 ((splT t).getD i (0,0)).2):=rfl;obtain ⟨T,eT⟩:=gn (splT t);simp only [eT] at hm hi hb0 ⊢;obtain ⟨⟨a,b⟩,ex⟩:=gn T[i]
 obtain ⟨hab,hb,h6⟩:=hm (a,b) (by rw [←ex];simp);dsimp only at hab hb h6;have exd:T.getD i (0,0)=(a,b):=by simp [hi,ex]
 rw [exd] at hb0;dsimp only at hb0;have hbt:=baseT_le (t:=t) hab
 have q67:=b25 t a b hab hb hl;obtain ⟨m,em⟩:=gn (baseT t a b);rw [em] at hb0 hbt q67;have hmt:m<t.length:=by omega
 have hget:=ba_get hmt;simp -dsimp [ac97,hi,ex,spRow];refine call_p q67 (by simp [spRow]) (by simp) ?_;simp -dsimp [hmt,hget,hb0,cT]
theorem b95 (n:Int):Bt 95 [.int .i64 n] (.p (.int .i64 (max 0 (min n 10000)))):=by
 refine best mixed fn95 ok95 (by simp) ?_;simp -dsimp [ac95]
def mayV (t:List UInt8) (i:Nat):Int:=
 if clsN (bcT t i)=1 then 2
 else if i+1=(splT t).length∨stuckN (clsN (bcT t (i+1)))=true then 0
 else if clsN (bcT t i)=2∨clsN (cT t (((splT t).getD i (0,0)).2 - 1))=14 then 1
 else if clsN (cT t (((splT t).getD i (0,0)).2 - 1))=13 then 0
 else if bcT t i=45∨(scrN (bcT t i)=3∧scrN (bcT t (i+1))=3) then 1
 else 0
def mayL (t:List UInt8):List Int:=(List.range (splT t).length).map (mayV t)
theorem b51 (t:List UInt8) (hl:t.length≤1000000):Bt 51 [.str (ba t)] (.p (.sl 1 ((mayL t).map intRow))):=by
 refine best mixed fn51 ok51 (by simp) ?_;have hm:∀ x∈splT t,x.1<x.2∧x.2≤t.length∧x.2 - x.1≤6:=fun x hx=>splT_mem hx
 have hsl:=splT_len t;have hV:∀ i,mayV t i=mayV t i:=fun _=>rfl
 conv at hV=>intro i;rhs;unfold mayV
 have q90:=b97 t hl;have q25:=b23 t hl;unfold mayL;obtain ⟨T,eT⟩:=gn (splT t);simp only [eT] at hm hsl hV q90 q25 ⊢;obtain ⟨W,eW⟩:∃ W:Nat→List Int,W=fun k=>(List.range k).map (mayV t):=⟨_,rfl⟩
 have hW0:W 0=[]:=by rw [eW];rfl
 have hWl:∀ k,(W k).length=k:=fun k=>by rw [eW];simp
 have hWs:∀ k,(W (k+1)).map intRow=(W k).map intRow++[[.int .i64 (mayV t k)]]:=fun k=>by rw [eW];simp [List.range_succ,intRow]
 have hWe:(List.range T.length).map (mayV t)=W T.length:=by rw [eW]
 rw [hWe];simp -dsimp [ac51];refine cP q25 ?_;simp -dsimp;refine loopC T.length (fun k=>⟨[(1,.ptr (1,0) 1 0 0),(2,.ref (38,0) 1 0 k),(3,.ptr (3,0) 1 0 0),(4,.clo (.func 97) [] [.ptr (1,0) 1 0 0,.ptr (3,0) 1 0 0]),(12,.p (.sl 2 (T.map spRow))),(13,.p (.int .i64 T.length)),(14,.p (.int .i64 k))],
  [((1,0),.box [.p (.str (ba t))]),((3,0),.box [.p (.sl 2 (T.map spRow))]),((38,0),.sl 3 1 ((W k).map intRow))]⟩) (fun _=>True) (fun k hk _=>?_) trivial (by simp [hW0])
 by_cases h:k<T.length
 ·have wk:R ((k:Int)+1):=rO (by omega);have wk1:R ((T.length:Int) - 1):=rO (by omega);have m1:k+1≤maxLen:=by unfold maxLen;omega
  have e1:(k+1)*8≤140737488355328:=by omega
  have hl1:=hWl k;have hs1:=hWs k;have eV:=hV k;obtain ⟨L,eL⟩:=gn (W k);obtain ⟨V,exx⟩:=gn (mayV t k);rw [exx] at hs1 eV;rw [eL] at hs1 hl1;have ht:∀ V:Int,List.take (k+1) (L.map intRow++[[.int .i64 V]])=L.map intRow++[[.int .i64 V]]:=fun V=>List.take_of_length_le (by simp;omega)
  rw [eL,hs1];obtain ⟨⟨a,b⟩,ex⟩:=gn T[k];obtain ⟨hab,hb,h6⟩:=hm (a,b) (by rw [←ex];simp);dsimp only at hab hb h6;have exd:T.getD k (0,0)=(a,b):=by simp [h,ex]
  rw [exd] at eV;dsimp only at eV;obtain ⟨p,rfl⟩:∃ p,b=p+1:=⟨b - 1,by omega⟩
  rw [Nat.add_sub_cancel] at eV;have hp:p<t.length:=by omega
  have wp:R (p:Int):=rO (by omega);have p0:(0:Int)≤(p:Int)+1:=by omega
  have hget:=ba_get hp;have q1:=q90 k h;have q2:=fun h2=>q90 (k+1) h2
  obtain ⟨c,ec⟩:=gn (bcT t k);obtain ⟨c',ec'⟩:∃ c',bcT t (k+1)=c':=⟨_,rfl⟩;obtain ⟨d,ed⟩:=gn (clsN (cT t p));have q3:=b24 c;have q4:=b24 (cT t p);obtain ⟨e,ee⟩:=gn (clsN c);rw [ec] at q1;rw [ec'] at q2;rw [ed] at q4;rw [ee] at q3;rw [ec,ec',ed,ee] at eV;simp -dsimp [h,ex,spRow];refine call_f q1 (by simp) (by simp) (by simp) ?_;simp -dsimp;refine cP q3 ?_;simp -dsimp [wr wp,hp,hget];refine call_p q4 (by simp [cT]) (by simp) ?_
  by_cases h1:e=1
  ·rw [if_pos h1] at eV;subst eV;simp -dsimp [h1,h,m1,e1,hl1,ht,wr wk,List.range,List.range.loop,-List.all_eq_true]
  rw [if_neg h1] at eV
  by_cases h2:k+1=T.length
  ·have h2':(k:Int)=(T.length:Int) - 1:=by omega
   have wT:R (T.length:Int):=rO (by omega);rw [if_pos (.inl h2)] at eV;subst eV;simp -dsimp [h1,h2',wr wT,h,m1,e1,hl1,ht,wr wk,wr wk1,List.range,List.range.loop,-List.all_eq_true]
  have hk1:k+1<T.length:=by omega
  have n2:¬(k:Int)=(T.length:Int) - 1:=by omega
  have q2':=q2 hk1;have hc1:((k+1:Nat):Int)=(k:Int)+1:=by omega
  rw [hc1] at q2';have q5:=b24 c'
  obtain ⟨e',ee'⟩:∃ e',clsN c'=e':=⟨_,rfl⟩;rw [ee'] at q5 eV;have q6:=b98 e'
  have q7:=b99 c;have q8:=b99 c';obtain ⟨st,est⟩:=gn (stuckN e');obtain ⟨sc,esc⟩:=gn (scrN c);obtain ⟨sc',esc'⟩:∃ sc',scrN c'=sc':=⟨_,rfl⟩;rw [est] at q6 eV;rw [esc] at q7 eV;rw [esc'] at q8 eV;simp -dsimp [h1,n2,wr wk,wr wk1];refine call_f q2' (by simp) (by simp) (by simp) ?_;simp -dsimp;refine cP q5 ?_;simp -dsimp;refine cP q6 ?_;cases st with
  | true=>
   rw [if_pos (.inr rfl)] at eV;subst eV;simp -dsimp [h1,h,m1,e1,hl1,ht,wr wk,wr wk1,List.range,List.range.loop,-List.all_eq_true]
  | false=>
  rw [if_neg (fun q=>q.elim h2 (by simp))] at eV
  by_cases h4:e=2
  ·rw [if_pos (.inl h4)] at eV;subst eV;simp -dsimp [h4,h,m1,e1,hl1,ht,wr wk,wr wk1,List.range,List.range.loop,-List.all_eq_true]
  by_cases h5:d=14
  ·rw [if_pos (.inr h5)] at eV;subst eV;simp -dsimp [h4,h5,h,m1,e1,hl1,ht,wr wk,wr wk1,List.range,List.range.loop,-List.all_eq_true]
  rw [if_neg (fun q=>q.elim h4 h5)] at eV
  by_cases h6:d=13
  ·rw [if_pos h6] at eV;subst eV;simp -dsimp [h4,h5,h6,h,m1,e1,hl1,ht,wr wk,wr wk1,List.range,List.range.loop,-List.all_eq_true]
  rw [if_neg h6] at eV;simp -dsimp [h4,h5,h6];refine call_f q1 (by simp) (by simp) (by simp) ?_
  by_cases h7:c=45
  ·rw [if_pos (.inl h7)] at eV;subst eV;simp -dsimp [h7,h,m1,e1,hl1,ht,wr wk,wr wk1,List.range,List.range.loop,-List.all_eq_true]
  simp -dsimp [h7];refine call_f q1 (by simp) (by simp) (by simp) ?_;simp -dsimp;refine cP q7 ?_
  by_cases h8:sc=3
  rotate_left
  ·rw [if_neg (fun q=>q.elim h7 (fun q=>h8 q.1))] at eV;subst eV;simp -dsimp [h8,h,m1,e1,hl1,ht,wr wk,wr wk1,List.range,List.range.loop,-List.all_eq_true]
  simp -dsimp [h8,wr wk];refine call_f q2' (by simp) (by simp) (by simp) ?_;simp -dsimp;refine cP q8 ?_
  by_cases h9:sc'=3
  ·rw [if_pos (.inr ⟨h8,h9⟩)] at eV;subst eV;simp -dsimp [h9,h,m1,e1,hl1,ht,wr wk,wr wk1,List.range,List.range.loop,-List.all_eq_true]
  ·rw [if_neg (fun q=>q.elim h7 (fun q=>h9 q.2))] at eV;subst eV;simp -dsimp [h9,h,m1,e1,hl1,ht,wr wk,wr wk1,List.range,List.range.loop,-List.all_eq_true]
 ·have:k=T.length:=by omega
  subst this;have hl:=hWl T.length;have ht:List.take T.length ((W T.length).map intRow)=(W T.length).map intRow:=List.take_of_length_le (by simp [hl]);simp -dsimp [h,resOf,ht,hl]
end
section
attribute [local simp ↓] awp_scope awp_label
attribute [local simp] w1
set_option maxHeartbeats 400000
attribute [local simp] evC
attribute [local simp ↓] oneN oneI oneSp oneB
def capN (n:Int):Int:=max 0 (min n 10000)
theorem capN_b (n:Int):0≤capN n∧capN n≤10000:=by unfold capN;omega
def boolRow (b:Bool):List PV:=[.bool b]
theorem oneBo (z:List Bool):((z.map boolRow).all fun r=>r.all PV.one)=true:=by
 rw [List.all_eq_true];intro r hr;obtain ⟨x,_,rfl⟩:=List.mem_map.1 hr;rfl
attribute [local simp ↓] oneBo
def finN (n fit:Nat) (opp:Int):Int:=if (fit:Int)<(n:Int) - 1∧0≤opp then opp else fit
def totN (sp:Bool) (tot run w:Int):Int:=if sp=true then tot else tot+(run+w)
def rnN (sp:Bool) (run w:Int):Int:=if sp=true then run+w else 0
def fgo (ws:List Int) (sp:List Bool) (ms:List Int) (W:Int) (s n:Nat):Nat→Nat→Nat→Int→Int→Int→Int
 | 0,_,fit,opp,_,_=>finN n fit opp
 | m+1,i,fit,opp,tot,run=>
  if capN W<totN (sp.getD i false) tot run (capN (ws.getD i 0))∧s<i then finN n fit opp
  else if capN W<totN (sp.getD i false) tot run (capN (ws.getD i 0)) then finN n i opp
  else if ms.getD i 0=2 then i
  else fgo ws sp ms W s n m (i+1) i (if ms.getD i 0=1 then (i:Int) else opp) (totN (sp.getD i false) tot run (capN (ws.getD i 0))) (rnN (sp.getD i false) run (capN (ws.getD i 0)))
def endN (ws:List Int) (sp:List Bool) (ms:List Int) (W:Int) (n s:Nat):Int:=fgo ws sp ms W s n (n - s) s s (-1) 0 0
def ar89 (n:Nat) (ws:List Int) (sp:List Bool) (ms:List Int) (W:Int):List PV:=[.ro [.int .i64 n],.ro [.clo (.func 95) [] []],.ro [.sl 1 (ws.map intRow)],.ro [.sl 1 (sp.map boolRow)],.ro [.int .i64 W],.ro [.sl 1 (ms.map intRow)]]
theorem b95' (n:Int):Bt 95 [.int .i64 n] (.p (.int .i64 (capN n))):=b95 n
theorem b96 (ws:List Int) (sp:List Bool) (ms:List Int) (W:Int) (n s:Nat) (h1:n≤ws.length) (h2:n≤sp.length) (h3:n≤ms.length) (hs:s<n) (hn:n≤1000000) :
  Bt 96 (.int .i64 s :: ar89 n ws sp ms W) (.p (.int .i64 (endN ws sp ms W n s))):=by
 refine best mixed fn96 ok96 (by simp [ar89]) ?_;unfold endN;obtain ⟨V,eV⟩:=gn (fgo ws sp ms W s n (n - s) s s (-1) 0 0);rw [eV];have wn:R ((n:Int) - 1):=rO (by omega);have hcW:=capN_b W;simp -dsimp [ac96,ar89];refine loopE (n - s) (fun k (z:Nat×Int×Int×Int)=>⟨[(0,.p (.int .i64 s)),(1,.p (.ro [.int .i64 n])),(2,.p (.ro [.clo (.func 95) [] []])),(3,.p (.ro [.sl 1 (ws.map intRow)])),(4,.p (.ro [.sl 1 (sp.map boolRow)])),(5,.p (.ro [.int .i64 W])),(6,.p (.ro [.sl 1 (ms.map intRow)])),
  (9,.p (.int .i64 z.1)),(10,.p (.int .i64 z.2.1)),(11,.p (.int .i64 z.2.2.1)),(12,.p (.int .i64 ((s+k:Nat):Int))),(13,.p (.int .i64 z.2.2.2))],[]⟩)
  (fun k z=>fgo ws sp ms W s n (n - s - k) (s+k) z.1 z.2.1 z.2.2.1 z.2.2.2=V∧0≤z.2.2.1∧0≤z.2.2.2∧z.2.2.1+z.2.2.2≤10000*k) (s,-1,0,0) (fun k z hk hz=>?_) ⟨by simpa using eV,by simp,by simp,by simp⟩ (by simp)
 obtain ⟨fit,opp,tot,run⟩:=z;obtain ⟨z1,z2,z3,z4⟩:=hz;dsimp only at z1 z2 z3 z4 ⊢;obtain ⟨i,ei⟩:=gn (s+k)
 have ei2:s+(k+1)=i+1:=by omega
 rw [ei] at z1 ⊢
 by_cases h:i<n
 ·have hk2:k<n - s:=by omega
  have hm:n - s - k=(n - s - (k+1))+1:=by omega
  rw [hm,fgo] at z1;have i1:i<ws.length:=by omega
  have i2:i<sp.length:=by omega
  have i3:i<ms.length:=by omega
  obtain ⟨w,ew⟩:=gn ws[i];obtain ⟨b,eb⟩:=gn sp[i];obtain ⟨x,ex⟩:=gn ms[i];have ewd:ws.getD i 0=w:=by simp [i1,ew]
  have ebd:sp.getD i false=b:=by simp [i2,eb]
  have exd:ms.getD i 0=x:=by simp [i3,ex]
  rw [ewd,ebd,exd] at z1;have hcw:=capN_b w
  have q1:=b95' w;have q2:=b95' W;obtain ⟨cw,ecw⟩:=gn (capN w);obtain ⟨cW,ecW⟩:=gn (capN W);rw [ecw] at q1 hcw z1;rw [ecW] at q2 hcW z1;have wi:R ((i:Int)+1):=rO (by omega)
  have wr1:R (run+cw):=rO (by omega);have wr2:R (tot+(run+cw)):=rO (by omega);have hn0:(i:Int)<n:=by omega
  cases b with
  | true=>
   have eT:totN true tot run cw=tot:=rfl;have eR:rnN true run cw=run+cw:=rfl;rw [eT,eR] at z1;simp -dsimp [hn0,i1,i2,i3,ew,eb,ex,intRow,boolRow];refine cP q1 ?_;simp -dsimp [hn0,i1,i2,i3,ew,eb,ex,intRow,boolRow,wr wr1,wr wr2];refine cP q2 ?_
   by_cases hT:cW<tot
   ·by_cases hsi:s<i
    ·have hsi':(s:Int)<i:=by omega
     rw [if_pos ⟨hT,hsi⟩] at z1;subst z1;unfold finN
     by_cases f1:(fit:Int)<(n:Int) - 1
     ·by_cases f2:0≤opp<;>simp -dsimp [hT,hsi,hsi',f1,f2,wr wn]
     ·simp -dsimp [hT,hsi,hsi',f1,wr wn]
    ·have hsi':¬(s:Int)<i:=by omega
     rw [if_neg (fun q=>hsi q.2),if_pos hT] at z1;subst z1;simp -dsimp [hT,hsi,hsi'];refine cP q2 ?_;unfold finN
     by_cases f1:(i:Int)<(n:Int) - 1
     ·by_cases f2:0≤opp<;>simp -dsimp [hT,f1,f2,wr wn]
     ·simp -dsimp [hT,f1,wr wn]
   ·rw [if_neg (fun q=>hT q.1),if_neg hT] at z1;simp -dsimp [hT];refine cP q2 ?_
    by_cases hx:x=2
    ·rw [if_pos hx] at z1;subst z1;simp -dsimp [hT,hx,i3,ex,intRow]
    ·rw [if_neg hx] at z1
     by_cases hy:x=1
     ·rw [if_pos hy] at z1;simp -dsimp [hT,hx,hy,i3,ex,intRow,wr wi,hk2];exact ⟨i,i,tot,run+cw,⟨by rw [ei2];exact z1,by omega,by omega,by push_cast;omega⟩,rfl,rfl,rfl,by omega,rfl⟩
     ·rw [if_neg hy] at z1;simp -dsimp [hT,hx,hy,i3,ex,intRow,wr wi,hk2];exact ⟨i,opp,tot,run+cw,⟨by rw [ei2];exact z1,by omega,by omega,by push_cast;omega⟩,rfl,rfl,rfl,by omega,rfl⟩
  | false=>
   have eT:totN false tot run cw=(tot+(run+cw)):=rfl;have eR:rnN false run cw=0:=rfl;rw [eT,eR] at z1;simp -dsimp [hn0,i1,i2,i3,ew,eb,ex,intRow,boolRow];refine cP q1 ?_;simp -dsimp [hn0,i1,i2,i3,ew,eb,ex,intRow,boolRow,wr wr1,wr wr2];refine cP q2 ?_
   by_cases hT:cW<(tot+(run+cw))
   ·by_cases hsi:s<i
    ·have hsi':(s:Int)<i:=by omega
     rw [if_pos ⟨hT,hsi⟩] at z1;subst z1;unfold finN
     by_cases f1:(fit:Int)<(n:Int) - 1
     ·by_cases f2:0≤opp<;>simp -dsimp [hT,hsi,hsi',f1,f2,wr wn]
     ·simp -dsimp [hT,hsi,hsi',f1,wr wn]
    ·have hsi':¬(s:Int)<i:=by omega
     rw [if_neg (fun q=>hsi q.2),if_pos hT] at z1;subst z1;simp -dsimp [hT,hsi,hsi'];refine cP q2 ?_;unfold finN
     by_cases f1:(i:Int)<(n:Int) - 1
     ·by_cases f2:0≤opp<;>simp -dsimp [hT,f1,f2,wr wn]
     ·simp -dsimp [hT,f1,wr wn]
   ·rw [if_neg (fun q=>hT q.1),if_neg hT] at z1;simp -dsimp [hT];refine cP q2 ?_
    by_cases hx:x=2
    ·rw [if_pos hx] at z1;subst z1;simp -dsimp [hT,hx,i3,ex,intRow]
    ·rw [if_neg hx] at z1
     by_cases hy:x=1
     ·rw [if_pos hy] at z1;simp -dsimp [hT,hx,hy,i3,ex,intRow,wr wi,hk2];exact ⟨i,i,(tot+(run+cw)),0,⟨by rw [ei2];exact z1,by omega,by omega,by push_cast;omega⟩,rfl,rfl,rfl,by omega,rfl⟩
     ·rw [if_neg hy] at z1;simp -dsimp [hT,hx,hy,i3,ex,intRow,wr wi,hk2];exact ⟨i,opp,(tot+(run+cw)),0,⟨by rw [ei2];exact z1,by omega,by omega,by push_cast;omega⟩,rfl,rfl,rfl,by omega,rfl⟩
 ·have hkn:n - s - k=0:=by omega
  rw [hkn,fgo] at z1;subst z1;have hn0:¬(i:Int)<n:=by omega
  unfold finN
  by_cases f1:(fit:Int)<(n:Int) - 1
  ·by_cases f2:0≤opp<;>simp -dsimp [h,hn0,f1,f2,wr wn]
  ·simp -dsimp [h,hn0,f1,wr wn]
end
section
attribute [local simp] w1
set_option maxHeartbeats 400000
attribute [local simp] evC
attribute [local simp ↓] oneN oneI oneSp oneB oneBo
theorem fgo_range {ws:List Int} {sp:List Bool} {ms:List Int} {W:Int} {s n:Nat}:∀ (m i fit:Nat) (opp tot run:Int),i+m=n→s≤i→s≤fit→fit<n→(opp=-1∨((s:Int)≤opp∧opp<n)) →
  (s:Int)≤fgo ws sp ms W s n m i fit opp tot run∧fgo ws sp ms W s n m i fit opp tot run<n:=by
 have hfin:∀ (fit:Nat) (opp:Int),s≤fit→fit<n→(opp=-1∨((s:Int)≤opp∧opp<n))→(s:Int)≤finN n fit opp∧finN n fit opp<n:=by
  intro fit opp h1 h2 h3;unfold finN;split
  ·rename_i h;omega
  ·omega
 intro m
 induction m with
 | zero=>intro i fit opp tot run h1 h2 h3 h4 h5;rw [fgo];exact hfin fit opp h3 h4 h5
 | succ m ih=>
  intro i fit opp tot run h1 h2 h3 h4 h5;rw [fgo];split
  ·exact hfin fit opp h3 h4 h5
  ·split
   ·exact hfin i opp h2 (by omega) h5
   ·split
    ·omega
    ·refine ih (i+1) i _ _ _ (by omega) (by omega) h2 (by omega) ?_;split
     ·right;omega
     ·exact h5
theorem endN_range {ws:List Int} {sp:List Bool} {ms:List Int} {W:Int} {n s:Nat} (h:s<n):(s:Int)≤endN ws sp ms W n s∧endN ws sp ms W n s<n:=
 fgo_range _ _ _ _ _ _ (by omega) (by omega) (by omega) h (.inl rfl)
def fillF (E:Nat→Int) (n:Nat):Nat→List Int→Int→List Int
 | 0,L,_=>L
 | m+1,L,line=>if L.length<n then fillF E n m (L++List.replicate ((E L.length).toNat+1 - L.length) line) (line+1) else L
def fillN (ws:List Int) (ms:List Int) (sp:List Bool) (W:Int) (n:Nat):List Int:=fillF (endN ws sp ms W n) n n [] 0
theorem fillF_end (E:Nat→Int) (n m:Nat) (L:List Int) (line:Int) (h:¬L.length<n):fillF E n m L line=L:=by
 cases m with
 | zero=>rfl
 | succ m=>rw [fillF,if_neg h]
def rpl (j:Nat) (v:Int):List Int:=List.replicate j v
theorem rpl_succ (j:Nat) (v:Int):(rpl (j+1) v).map intRow=(rpl j v).map intRow++[[.int .i64 v]]:=by
 simp [rpl,List.replicate_succ',intRow]
theorem rpl_len (j:Nat) (v:Int):(rpl j v).length=j:=by simp [rpl]
theorem b50 (ws ms:List Int) (sp:List Bool) (W:Int) (n:Nat) (h1:ws.length=n) (h2:sp.length=n) (h3:ms.length=n) (hn:n≤1000000) :
  Bt 50 [.sl 1 (ws.map intRow),.sl 1 (ms.map intRow),.sl 1 (sp.map boolRow),.int .i64 W] (.p (.sl 1 ((fillN ws ms sp W n).map intRow))):=by
 refine best mixed fn50 ok50 (by simp) ?_;have q89:=fun s hs=>b96 ws sp ms W n s (by omega) (by omega) (by omega) hs hn
 obtain ⟨V,eV⟩:=gn (fillN ws ms sp W n);rw [eV];unfold fillN at eV;have hE:=fun s (hs:s<n)=>endN_range (ws:=ws) (sp:=sp) (ms:=ms) (W:=W) (n:=n) (s:=s) hs
 simp -dsimp [ac50,h1,h2,h3];have c11:∀ x,(PV.clo (.func 96) [] x)=PV.clo (.func 96) [] x:=fun _=>rfl
 refine loopE n (fun k (z:List Int×Int)=>⟨[(8,.ref (39,z.1.length) 1 0 z.1.length),(9,.p (.ro [.int .i64 n])),(11,.p (.clo (.func 96) [] (ar89 n ws sp ms W))),(12,.p (.int .i64 z.2))],[((39,z.1.length),.sl 3 1 (z.1.map intRow))]⟩)
  (fun k z=>k≤z.1.length∧z.1.length≤n∧fillF (endN ws sp ms W n) n (n - k) z.1 z.2=V∧z.2=k) ([],0) (fun k z hk hz=>?_) ⟨by simp,by simp,by simpa using eV,by simp⟩ (by simp [ar89])
 obtain ⟨L,line⟩:=z;obtain ⟨z1,z2,z3,z4⟩:=hz;dsimp only at z1 z2 z3 z4 ⊢;subst z4;obtain ⟨s,es⟩:=gn L.length
 rw [es] at z1 z2 ⊢
 by_cases h:s<n
 ·have hm:n - k=(n - (k+1))+1:=by omega
  rw [hm,fillF,if_pos (by omega),es] at z3;obtain ⟨r1,r2⟩:=hE s h
  have q:=q89 s h;obtain ⟨e,ee⟩:∃ e:Nat,endN ws sp ms W n s=e:=⟨(endN ws sp ms W n s).toNat,by omega⟩;rw [ee] at q r1 r2 z3;rw [Int.toNat_natCast] at z3;have wk:R ((k:Int)+1):=rO (by omega)
  have hsn:(s:Int)<n:=by omega
  have hkn:k<n:=by omega
  simp -dsimp [h,hsn];refine call_p q (by simp [ar89]) (by simp) ?_;simp -dsimp;refine loopC (e+1 - s) (fun j=>⟨[(8,.ref (39,s+j) 1 0 (s+j)),(9,.p (.ro [.int .i64 n])),(11,.p (.clo (.func 96) [] (ar89 n ws sp ms W))),(12,.p (.int .i64 k)),(13,.p (.int .i64 e))],[((39,s+j),.sl 3 1 (L.map intRow++(rpl j k).map intRow))]⟩) (fun _=>True) (fun j hj _=>?_) trivial (by simp [rpl]);obtain ⟨m,em⟩:=gn (s+j);have em2:s+(j+1)=m+1:=by omega
  have hrl:=rpl_len j k;have hrs:=rpl_succ j k;rw [em,em2,hrs];obtain ⟨D,eD⟩:=gn (rpl j (k:Int));rw [eD] at hrl ⊢
  by_cases hm2:m≤e
  ·have hm3:(m:Int)≤e:=by omega
   have m1:m+1≤maxLen:=by unfold maxLen;omega
   have e1:(m+1)*8≤140737488355328:=by omega
   have hjl:j<e+1 - s:=by omega
   have hl0:s+j=m:=em;have ht:List.take (m+1) (L.map intRow++D.map intRow++[[.int .i64 k]])=L.map intRow++D.map intRow++[[.int .i64 k]]:=List.take_of_length_le (by simp;omega);simp -dsimp [hm2,hm3,m1,e1,es,hrl,hl0,ht,hjl,List.range,List.range.loop,-List.all_eq_true]
  ·have hm3:¬(m:Int)≤e:=by omega
   have hme:m=e+1:=by omega
   simp -dsimp [hm2,hm3,wr wk,hkn];have hj2:j=e+1 - s:=by omega
   have hLD:(L++D).length=m:=by simp [es,hrl,em]
   refine ⟨L++D,(k:Int)+1,⟨by omega,by omega,?_,rfl⟩,⟨hLD.symm,rfl⟩,hLD.symm,by simp⟩;rw [←eD,hj2];exact z3
 ·have hsn:¬(s:Int)<n:=by omega
  rw [fillF_end _ _ _ _ _ (by omega)] at z3;subst z3;have ht:List.take s (L.map intRow)=L.map intRow:=List.take_of_length_le (by simp [es])
  simp -dsimp [h,hsn,resOf,es,ht]
end
end Go.Abs.A30
