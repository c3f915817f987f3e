/- A part of the proof: an abstract reading of the model, contracts of functions. -/
import Derived.Test.YtlkbeomimbohlaaGreatL3x8
set_option linter.unusedVariables false
set_option linter.unusedSimpArgs false
namespace Go.Abs.A30
open Go Go.Abs Go.Proofs
set_option maxRecDepth 100000
set_option linter.unusedVariables false
set_option linter.unusedSimpArgs false
attribute [local simp ↓] awp_skip awp_seq awp_cond awp_block awp_exit awp_ret awp_reg awp_draw awp_ghost awp_loop awp_rfun awpR_nil awpR_cons awpX_nil awpX_0 awpX_1 awpX_2 awpI_eq awpI_t awpI_f awpStep_eq
attribute [local simp] condL_true condL_false condL_dec evDel evV evN evS evA initFr Ghost.app Fr.var Fr.blk Fr.ff FF.val Abs.look Fr.app Fr.erase Fr.noSlot AV.noSlot AV.noSlotL Blk.noSlot Fr.spoken AV.fz AV.fzL Blk.fz binV binI shI binS unV fillA FF.parts FF.vals headO intO boundO lenV scalarEq leavesEq AV.aggc AV.cells FF.read FF.rows AV.one PV.one chunk freshB newS pickV retK evRs evRl evR resOf mkTup mkAgg allP cloOf okP_nil okX_p okX okP addN Del.noSlot Del.owners Rnd reify_p normM insM Fr.back Fr.backV Fr.setPs normV insV
attribute [local simp] renF Fr.trim Blk.trim AV.rn AV.rnL Blk.rn AV.among AV.amongL Blk.among okF retM fixS BIG initFF
attribute [local simp] FF.reify FF.reifyL PV.flat
section
attribute [local simp ↓] oneI oneSp oneBo
attribute [local simp] ba_size wb ba_at w1 w6
theorem b172 (H E:List Int) (i:Nat) (hi:i<H.length) (hE:E.length=H.length) (hl:H.length≤1000000):Bt 172 [.sl 1 (H.map intRow),.sl 1 (E.map intRow),.int .i64 i]
  (.p (.int .i64 (if clsN (H.getD i 0)=1 then 2 else if i+1=H.length∨stuckN (clsN (H.getD (i+1) 0))=true then 0 else if clsN (H.getD i 0)=2∨clsN (E.getD i 0)=14 then 1 else if clsN (E.getD i 0)=13 then 0 else if H.getD i 0=45∨(scrN (H.getD i 0)=3∧scrN (H.getD (i+1) 0)=3) then 1 else 0))):=by
 refine best mixed fn172 ok172 (by simp) ?_;have hiE:i<E.length:=by omega
 obtain ⟨h,eh⟩:=gn H[i];obtain ⟨e,ee⟩:=gn E[i];have ehd:H.getD i 0=h:=by rw [←getD_at hi];exact eh
 have eed:E.getD i 0=e:=by rw [←getD_at hiE];exact ee
 rw [ehd,eed];obtain ⟨g,egd⟩:=gn (H.getD (i+1) 0);rw [egd];have wn:R ((H.length:Int) - 1):=rO (by omega);simp -dsimp [ac172,hi,hiE,eh,ee,intRow];refine cP (b36 h) ?_;simp -dsimp [hi,hiE,eh,ee,intRow];refine cP (b36 e) ?_
 by_cases c1:clsN h=1
 ·simp -dsimp [c1]
 rw [if_neg c1]
 by_cases c2:i+1=H.length
 ·have c2':(i:Int)=(H.length:Int) - 1:=by omega
  rw [if_pos (.inl c2)];simp -dsimp [c1,wr wn,c2']
 have c2':¬(i:Int)=(H.length:Int) - 1:=by omega
 have hi1:i+1<H.length:=by omega
 have eg:H[i+1]=g:=by rw [getD_at hi1];exact egd
 obtain ⟨m,em⟩:=gn (i+1);have em2:(i:Int)+1=m:=by omega
 have wm:R (m:Int):=rO (by omega);simp only [em] at hi1 eg c2 ⊢;simp -dsimp [c1,wr wn,c2',em2,wr wm,hi1,eg,intRow];refine cP (b36 g) ?_;have hst:stuckN (clsN g)=true↔(clsN g=1∨clsN g=2∨clsN g=4):=by simp [stuckN,or_assoc]
 by_cases c3:clsN g=1∨clsN g=2∨clsN g=4
 ·rw [if_pos (.inr (hst.2 c3))];rcases c3 with c | c | c<;>simp -dsimp [c]
 rw [if_neg (fun q=>q.elim c2 (fun q=>c3 (hst.1 q)))];have d1:¬clsN g=1:=fun q=>c3 (.inl q)
 have d2:¬clsN g=2:=fun q=>c3 (.inr (.inl q))
 have d3:¬clsN g=4:=fun q=>c3 (.inr (.inr q))
 by_cases c4:clsN h=2
 ·simp -dsimp [d1,d2,d3,c4]
 by_cases c5:clsN e=14
 ·simp -dsimp [d1,d2,d3,c4,c5]
 rw [if_neg (fun q=>q.elim c4 c5)]
 by_cases c6:clsN e=13
 ·simp -dsimp [d1,d2,d3,c4,c6]
 rw [if_neg c6]
 by_cases c7:h=45
 ·subst c7;simp -dsimp [d1,d2,d3,c4,c5,c6,hi,eh,intRow]
 simp -dsimp [d1,d2,d3,c4,c5,c6,hi,eh,c7,intRow];refine cP (b200 h) ?_
 by_cases c8:scrN h=3
 ·simp -dsimp [c8,em2,wr wm,hi1,eg,intRow];refine cP (b200 g) ?_
  by_cases c9:scrN g=3
  ·simp -dsimp [c7,c8,c9]
  ·simp -dsimp [c7,c8,c9]
 ·simp -dsimp [c7,c8]
def headsL (t:List UInt8):List Int:=(List.range (splT t).length).map (bcT t)
def endsL (t:List UInt8):List Int:=(List.range (splT t).length).map fun i=>cT t (((splT t).getD i (0,0)).2 - 1)
theorem headsL_get (t:List UInt8) (i:Nat) (h:i<(splT t).length):(headsL t).getD i 0=bcT t i:=by simp [headsL,h]
theorem endsL_get (t:List UInt8) (i:Nat) (h:i<(splT t).length):(endsL t).getD i 0=cT t (((splT t).getD i (0,0)).2 - 1):=by simp [endsL,h]
theorem b132 (t:List UInt8) (hl:t.length≤1000000):Bt 132 [.str (ba t)] (.p (.sl 1 ((mayL t).map intRow))):=by
 refine best mixed fn132 ok132 (by simp) ?_;have q33:=b33 t hl;have hsl:=splT_len t;have hHl:(headsL t).length=(splT t).length:=by simp [headsL]
 have hEl:(endsL t).length=(splT t).length:=by simp [endsL]
 have q172:=fun i (hi:i<(splT t).length)=>b172 (headsL t) (endsL t) i (by omega) (by omega) (by omega)
 have hmay:∀ i,i<(splT t).length→(if clsN ((headsL t).getD i 0)=1 then (2:Int) else if i+1=(headsL t).length∨stuckN (clsN ((headsL t).getD (i+1) 0))=true then 0 else if clsN ((headsL t).getD i 0)=2∨clsN ((endsL t).getD i 0)=14 then 1 else if clsN ((endsL t).getD i 0)=13 then 0 else if (headsL t).getD i 0=45∨(scrN ((headsL t).getD i 0)=3∧scrN ((headsL t).getD (i+1) 0)=3) then 1 else 0)=mayV t i:=by
  intro i hi;rw [headsL_get t i hi,endsL_get t i hi,hHl];unfold mayV
  by_cases c1:clsN (bcT t i)=1
  ·rw [if_pos c1,if_pos c1]
  ·rw [if_neg c1,if_neg c1]
   by_cases c2:i+1=(splT t).length
   ·rw [if_pos (.inl c2),if_pos (.inl c2)]
   ·rw [headsL_get t (i+1) (by omega)]
 simp -dsimp [ac132];refine cP q33 ?_;simp -dsimp;refine loopC (splT t).length (fun k=>⟨[(0,.p (.str (ba t))),(3,.p (.sl 2 ((splT t).map spRow))),(4,.ref (28,k) 1 0 k),(5,.ref (40,k) 1 0 k),(6,.ref (53,0) 1 0 0),(7,.p (.int .i64 k))],[((28,k),.sl 3 1 (((headsL t).take k).map intRow)),((40,k),.sl 3 1 (((endsL t).take k).map intRow)),((53,0),.sl 3 1 [])]⟩) (fun _=>True) (fun k hk _=>?_) trivial (by simp)
 by_cases h:k<(splT t).length
 ·have hg:=sA_get h;have hlt:=sA_lt h;have hg2:=hg;rw [List.getD_eq_getElem?_getD,List.getElem?_eq_getElem h,Option.getD_some] at hg2;have hh:=headsL_get t k h
  have he:=endsL_get t k h;have hb0:bcT t k=cT t (baseT t ((splT t).getD k (0,0)).1 ((splT t).getD k (0,0)).2):=rfl;rw [hg] at he hb0;rw [hb0] at hh;obtain ⟨a,ea⟩:=gn (sA t k)
  obtain ⟨b,eb⟩:=gn (sA t (k+1));simp only [ea,eb] at hg2 hlt hh he;have q37:=b37 t a b hlt.1 hlt.2.1 hl
  have hbt:=baseT_le (t:=t) hlt.1;obtain ⟨m,em⟩:=gn (baseT t a b);rw [em] at hh q37 hbt;have hmt:m<t.length:=by omega
  obtain ⟨z,ez⟩:=gn (b - 1);have ez2:(b:Int) - 1=z:=by omega
  have hzt:z<t.length:=by omega
  rw [ez] at he;have hs1:(headsL t).take (k+1)=(headsL t).take k++[cT t m]:=by
   rw [List.take_add_one,List.getElem?_eq_getElem (by omega:k<(headsL t).length),getD_at (by omega),hh];rfl
  have hs2:(endsL t).take (k+1)=(endsL t).take k++[cT t z]:=by
   rw [List.take_add_one,List.getElem?_eq_getElem (by omega:k<(endsL t).length),getD_at (by omega),he];rfl
  have hl1:((headsL t).take k).length=k:=by simp [hHl];omega
  have hl2:((endsL t).take k).length=k:=by simp [hEl];omega
  rw [hs1,hs2];obtain ⟨A,eA⟩:=gn ((headsL t).take k);obtain ⟨B,eB⟩:=gn ((endsL t).take k);rw [eA] at hl1 ⊢;rw [eB] at hl2 ⊢;have wz:R (z:Int):=rO (by omega)
  have wk:R ((k:Int)+1):=rO (by omega);have hcm:((bT t m).toNat:Int)=cT t m:=rfl;have hcz:((bT t z).toNat:Int)=cT t z:=rfl;have wcm:IntKind.i64.wrap (cT t m)=cT t m:=wr ⟨by unfold cT;omega,by unfold cT;have:=(bT t m).toNat_lt;omega⟩;have wcz:IntKind.i64.wrap (cT t z)=cT t z:=wr ⟨by unfold cT;omega,by unfold cT;have:=(bT t z).toNat_lt;omega⟩;have m1:k+1≤maxLen:=by unfold maxLen;omega
  have m2:(k+1)*8≤140737488355328:=by omega
  have hall1:((A.map intRow).all fun r=>r.all PV.one)=true:=oneI _;have hall2:((B.map intRow).all fun r=>r.all PV.one)=true:=oneI _;simp -dsimp [h,hg2,spRow];refine call_p q37 (by simp [spRow]) (by simp) ?_;simp -dsimp [h,hg2,spRow,hmt,hcm,wcm,ez2,wr wz,hzt,hcz,wcz,m1,m2,hl1,hl2,hall1,hall2,wr wk,intRow,List.range,List.range.loop,-List.all_eq_true]
 ·have:k=(splT t).length:=by omega
  subst this;have t1:(headsL t).take (splT t).length=headsL t:=List.take_of_length_le (by omega);have t2:(endsL t).take (splT t).length=endsL t:=List.take_of_length_le (by omega);have t3:List.take (splT t).length ((headsL t).map intRow)=(headsL t).map intRow:=List.take_of_length_le (by simp;omega);have t4:List.take (splT t).length ((endsL t).map intRow)=(endsL t).map intRow:=List.take_of_length_le (by simp;omega);rw [t1,t2];obtain ⟨H,eH⟩:=gn (headsL t);obtain ⟨E,eE⟩:=gn (endsL t);simp only [eH,eE] at hHl hEl q172 hmay t3 t4 ⊢;simp -dsimp;refine loopC (splT t).length (fun k=>⟨[(3,.p (.sl 2 ((splT t).map spRow))),(4,.ref (28,(splT t).length) 1 0 (splT t).length),(5,.ref (40,(splT t).length) 1 0 (splT t).length),(6,.ref (53,k) 1 0 k),(8,.p (.int .i64 k))],[((28,(splT t).length),.sl 3 1 (H.map intRow)),((40,(splT t).length),.sl 3 1 (E.map intRow)),((53,k),.sl 3 1 (((List.range k).map (mayV t)).map intRow))]⟩) (fun _=>True) (fun k hk _=>?_) trivial (by simp)
  by_cases h:k<(splT t).length
  ·have q:=q172 k h;rw [hmay k h] at q;have hs:(List.range (k+1)).map (mayV t)=(List.range k).map (mayV t)++[mayV t k]:=by rw [List.range_succ,List.map_append];rfl
   have hYl:((List.range k).map (mayV t)).length=k:=by simp
   rw [hs];obtain ⟨Y,eY⟩:=gn ((List.range k).map (mayV t));rw [eY] at hYl ⊢;have wk:R ((k:Int)+1):=rO (by omega)
   have m1:k+1≤maxLen:=by unfold maxLen;omega
   have m2:(k+1)*8≤140737488355328:=by omega
   have hall:((Y.map intRow).all fun r=>r.all PV.one)=true:=oneI _;simp -dsimp [h];have le1:(splT t).length≤H.length:=by omega
   have le2:(splT t).length≤E.length:=by omega
   refine call_f q (by simp [t3,t4,le1,le2]) (by simp) (by simp) ?_;simp -dsimp [h,m1,m2,hYl,hall,wr wk,intRow,List.range,List.range.loop,-List.all_eq_true]
  ·have:k=(splT t).length:=by omega
   subst this;have t5:List.take (splT t).length ((mayL t).map intRow)=(mayL t).map intRow:=List.take_of_length_le (by simp [mayL]);have e5:(List.range (splT t).length).map (mayV t)=mayL t:=rfl;rw [e5];simp -dsimp [h,t5];simp [mayL]
theorem b171 (n:Int):Bt 171 [.int .i64 n] (.p (.int .i64 (capN n))):=by
 refine best mixed fn171 ok171 (by simp) ?_;simp -dsimp [ac171,capN]
def elRow (x:Int×Int×Bool):List PV:=[.int .i64 x.1,.int .i64 x.2.1,.bool x.2.2]
theorem oneEl (l:List (Int×Int×Bool)):((l.map elRow).all fun r=>r.all PV.one)=true:=by
 rw [List.all_eq_true];intro r hr;obtain ⟨u,_,rfl⟩:=List.mem_map.1 hr;rfl
def elL (ws ms:List Int) (sp:List Bool) (n:Nat):List (Int×Int×Bool):=(List.range n).map fun i=>(capN (ws.getD i 0),ms.getD i 0,sp.getD i false)
theorem elL_len (ws ms:List Int) (sp:List Bool) (n:Nat):(elL ws ms sp n).length=n:=by simp [elL]
theorem elL_get (ws ms:List Int) (sp:List Bool) (n i:Nat) (h:i<(elL ws ms sp n).length):(elL ws ms sp n)[i]=(capN (ws.getD i 0),ms.getD i 0,sp.getD i false):=by simp [elL]
theorem elL_succ (ws ms:List Int) (sp:List Bool) (n:Nat):elL ws ms sp (n+1)=elL ws ms sp n++[(capN (ws.getD n 0),ms.getD n 0,sp.getD n false)]:=by simp [elL,List.range_succ]
theorem b169 (ws ms:List Int) (sp:List Bool) (n:Nat) (h1:ws.length=n) (h2:ms.length=n) (h3:sp.length=n) (hn:n≤1000000):Bt 169 [.sl 1 (ws.map intRow),.sl 1 (ms.map intRow),.sl 1 (sp.map boolRow)] (.p (.sl 3 ((elL ws ms sp n).map elRow))):=by
 refine best mixed fn169 ok169 (by simp) ?_;simp -dsimp [ac169];refine loopC n (fun k=>⟨[(0,.p (.sl 1 (ws.map intRow))),(1,.p (.sl 1 (ms.map intRow))),(2,.p (.sl 1 (sp.map boolRow))),(7,.ref (43,k) 3 0 k),(8,.p (.int .i64 k))],[((43,k),.sl 284 3 ((elL ws ms sp k).map elRow))]⟩) (fun _=>True) (fun k hk _=>?_) trivial (by simp [elL])
 by_cases h:k<n
 ·have k1:k<ws.length:=by omega
  have k2:k<ms.length:=by omega
  have k3:k<sp.length:=by omega
  obtain ⟨a,ea⟩:=gn ws[k];obtain ⟨b,eb⟩:=gn ms[k];obtain ⟨c,ec⟩:=gn sp[k];have ead:ws.getD k 0=a:=by rw [←getD_at k1];exact ea
  have ebd:ms.getD k 0=b:=by rw [←getD_at k2];exact eb
  have ecd:sp.getD k false=c:=by simp [k3,ec]
  have hel:=elL_len ws ms sp k;rw [elL_succ,ead,ebd,ecd];obtain ⟨Y,eY⟩:=gn (elL ws ms sp k);rw [eY] at hel ⊢;have wk:R ((k:Int)+1):=rO (by omega)
  have m1:k+1≤maxLen:=by unfold maxLen;omega
  have m2:(k+1)*24≤140737488355328:=by omega
  have hall:((Y.map elRow).all fun r=>r.all PV.one)=true:=oneEl _;simp -dsimp [k1,k2,k3,ea,eb,ec,intRow,boolRow];refine cP (b171 a) ?_;simp -dsimp [k1,k2,k3,ea,eb,ec,intRow,boolRow,h,m1,m2,hel,hall,wr wk,elRow,List.range,List.range.loop,-List.all_eq_true]
 ·have:k=n:=by omega
  subst this;have k1:¬k<ws.length:=by omega
  have hel:=elL_len ws ms sp k;have ht:List.take k ((elL ws ms sp k).map elRow)=(elL ws ms sp k).map elRow:=List.take_of_length_le (by simp [hel]);simp -dsimp [k1,ht];omega
end
section
attribute [local simp ↓] oneI oneSp oneBo oneEl
def scM (ms:List Int) (s:Nat):Nat→Int
 | 0=>-1
 | k+1=>if ms.getD (s+k) 0=1 then ((s+k:Nat):Int) else scM ms s k
def finS (ms:List Int) (n s fit:Nat):Int:=if fit+1=n then fit else if 0≤scM ms s (fit+1 - s) then scM ms s (fit+1 - s) else fit
theorem x170b (ws ms:List Int) (sp:List Bool) (n s fit:Nat) (hs:s≤fit) (hf:fit<n) (hn:n≤1000000) :
  awp Tryz.prog xc170b (retK [RO.tmp 6] (.p (.int .i64 (finS ms n s fit)))) ⟨[(0,.p (.sl 3 ((elL ws ms sp n).map elRow))),(1,.p (.int .i64 s)),(9,.p (.int .i64 fit))],[]⟩:=by
 have hel:=elL_len ws ms sp n;have hg:=elL_get ws ms sp n;obtain ⟨E,eE⟩:=gn (elL ws ms sp n);simp only [eE] at hel hg ⊢;have wn:R ((n:Int) - 1):=rO (by omega)
 unfold finS
 by_cases c1:fit+1=n
 ·have c1':(fit:Int)=(n:Int) - 1:=by omega
  rw [if_pos c1];simp -dsimp [xc170b,hel,wr wn,c1']
 ·have c1':¬(fit:Int)=(n:Int) - 1:=by omega
  rw [if_neg c1];simp -dsimp [xc170b,hel,wr wn,c1'];refine loopC (fit+1 - s) (fun m=>⟨[(0,.p (.sl 3 (E.map elRow))),(1,.p (.int .i64 s)),(9,.p (.int .i64 fit)),(11,.p (.int .i64 ((fit:Int) - m)))],[]⟩) (fun m=>scM ms s (fit+1 - s)=scM ms s (fit+1 - s - m)) (fun m hm hq=>?_) rfl (by simp)
  by_cases h:m<fit+1 - s
  ·obtain ⟨i,ei⟩:∃ i:Nat,(fit:Int) - m=i:=⟨fit - m,by omega⟩;have his:s≤i:=by omega
   have his':(s:Int)≤i:=by omega
   have hiE:i<E.length:=by omega
   have hin:i<n:=by omega
   have hgi:=hg i hiE;have e1:fit+1 - s - m=(i - s)+1:=by omega
   have e2:fit+1 - s - (m+1)=i - s:=by omega
   have e3:s+(i - s)=i:=by omega
   have e4:(fit:Int) - ((m+1:Nat):Int)=(i:Int) - 1:=by omega
   have wi:R ((i:Int) - 1):=rO (by omega);rw [e1,scM,e3] at hq;rw [ei,e4,e2]
   by_cases c2:ms.getD i 0=1
   ·rw [if_pos c2] at hq;have p1:(0:Int)≤i:=by omega
    rw [c2] at hgi;rw [hq,if_pos p1];simp -dsimp [his',hiE,hin,hel,hgi,elRow]
   ·rw [if_neg c2] at hq;obtain ⟨x,ex⟩:=gn (ms.getD i 0)
    rw [ex] at c2 hgi;obtain ⟨w,ew⟩:=gn (capN (ws.getD i 0))
    obtain ⟨b,eb⟩:=gn (sp.getD i false);rw [ew,eb] at hgi;simp -dsimp [his',hiE,hin,hel,hgi,elRow,c2,wr wi,h]
    first | done | exact hq | omega
  ·have:m=fit+1 - s:=by omega
   subst this;rw [Nat.sub_self] at hq;have e0:scM ms s 0=-1:=rfl
   rw [e0] at hq;rw [hq,if_neg (by omega)];have c3:¬(s:Int)≤(fit:Int) - ((fit+1 - s:Nat):Int):=by omega
   obtain ⟨q,eq⟩:∃ q:Int,(fit:Int) - ((fit+1 - s:Nat):Int)=q:=⟨_,rfl⟩;rw [eq] at c3 ⊢;simp -dsimp [c3]
theorem b170 (ws ms:List Int) (sp:List Bool) (W:Int) (n s:Nat) (hs:s<n) (hn:n≤1000000) :
  Bt 170 [.sl 3 ((elL ws ms sp n).map elRow),.int .i64 s,.int .i64 (capN W)] (.p (.int .i64 (endN ws sp ms W n s))):=by
 refine best mixed fn170 ok170 (by simp) ?_;have hcW:=capN_b W;have hel:=elL_len ws ms sp n;have hg:=elL_get ws ms sp n;have hx:=fun fit h1 h2=>x170b ws ms sp n s fit h1 h2 hn
 unfold endN;obtain ⟨V,eV⟩:=gn (fgo ws sp ms W s n (n - s) s s (-1) 0 0);rw [eV];have hV:∀ fit opp,fgo ws sp ms W s n 0 n fit opp 0 0=finN n fit opp:=fun _ _=>rfl
 simp -dsimp [ac170,↓ awpC_of xc170b];refine loopE (n - s) (fun k (z:Nat×Int×Int)=>⟨[(0,.p (.sl 3 ((elL ws ms sp n).map elRow))),(1,.p (.int .i64 s)),(2,.p (.int .i64 (capN W))),(7,.p (.int .i64 (z.2.1+z.2.2))),(8,.p (.int .i64 z.2.1)),(9,.p (.int .i64 z.1)),(10,.p (.int .i64 ((s+k:Nat):Int)))],[]⟩)
  (fun k z=>fgo ws sp ms W s n (n - s - k) (s+k) z.1 (scM ms s k) z.2.1 z.2.2=V∧((k=0∧z.1=s)∨(0<k∧z.1+1=s+k))∧0≤z.2.1∧0≤z.2.2∧z.2.1+z.2.2≤10000*k) (s,0,0) (fun k z hk hz=>?_) ⟨by simpa [scM] using eV,.inl ⟨rfl,rfl⟩,by simp,by simp,by simp⟩ (by simp)
 obtain ⟨fit,tot,run⟩:=z;obtain ⟨z1,z5,z2,z3,z4⟩:=hz;dsimp only at z1 z2 z3 z4 z5 ⊢;obtain ⟨i,ei⟩:=gn (s+k)
 have ei2:s+(k+1)=i+1:=by omega
 rw [ei] at z1 z5 ⊢
 by_cases h:i<n
 ·have hk2:k<n - s:=by omega
  have hm:n - s - k=(n - s - (k+1))+1:=by omega
  rw [hm,fgo] at z1;have hiE:i<(elL ws ms sp n).length:=by omega
  have hgi:=hg i hiE;have hcw:=capN_b (ws.getD i 0);have hsc:scM ms s (k+1)=if ms.getD i 0=1 then (i:Int) else scM ms s k:=by rw [scM,ei]
  obtain ⟨w,ew⟩:=gn (capN (ws.getD i 0));obtain ⟨b,eb⟩:=gn (sp.getD i false);obtain ⟨x,ex⟩:=gn (ms.getD i 0);rw [ew,eb,ex] at z1;rw [ew,eb,ex] at hgi;rw [ew] at hcw;rw [ex] at hsc;have hx1:=hx fit (by omega) (by omega)
  obtain ⟨E,eE⟩:=gn (elL ws ms sp n);simp only [eE] at hel hiE hgi hx1 ⊢;obtain ⟨cW,ecW⟩:=gn (capN W)
  rw [ecW] at hcW z1 ⊢;have wi:R ((i:Int)+1):=rO (by omega)
  have ws1:R (tot+run+w):=rO (by omega);have hbrk:∀ tot',cW<tot'→(if cW<tot'∧s<i then finN n fit (scM ms s k) else if cW<tot' then finN n i (scM ms s k) else if x=2 then (i:Int) else fgo ws sp ms W s n (n - s - (k+1)) (i+1) i (if x=1 then (i:Int) else scM ms s k) tot' (rnN b run w))=V→finS ms n s fit=V:=by
   intro tot' hT hh;rcases z5 with ⟨q1,q2⟩ | ⟨q1,q2⟩
   ·subst q1 q2;have hsi:¬fit<i:=by omega
    rw [if_neg (fun q=>hsi q.2),if_pos hT] at hh;have f1:finN n fit (scM ms fit 0)=fit:=by
     unfold finN;rw [show scM ms fit 0=-1 from rfl,if_neg (by omega)]
    have s1:scM ms fit 1=fit∨scM ms fit 1=-1:=by
     rw [scM];split
     ·left;omega
     ·right;rfl
    have f2:finS ms n fit fit=fit:=by
     unfold finS;rw [show fit+1 - fit=1 by omega];rcases s1 with e | e
     ·rw [e];split
      ·rfl
      ·split<;>rfl
     ·rw [e];split
      ·rfl
      ·rw [if_neg (by omega)]
    have e:i=fit:=by omega
    rw [f2,←hh,e,f1]
   ·rw [if_pos ⟨hT,by omega⟩] at hh;rw [←hh];unfold finN finS;rw [if_neg (by omega),show fit+1 - s=k by omega]
    by_cases c:0≤scM ms s k
    ·rw [if_pos c,if_pos ⟨by omega,c⟩]
    ·rw [if_neg c,if_neg (fun q=>c q.2)]
  cases b with
  | true=>
   have eT:totN true tot run w=tot:=rfl;have eR:rnN true run w=run+w:=rfl;rw [eT] at z1
   by_cases hT:cW<tot
   ·rw [hbrk tot hT z1] at hx1;simp -dsimp [h,hel,hiE,hgi,elRow,wr ws1,hT,↓ awpC_of xc170b];exact awpC_in hx1
   ·rw [if_neg (fun q=>hT q.1),if_neg hT,eR] at z1
    by_cases hx2:x=2
    ·rw [if_pos hx2] at z1;subst z1;simp -dsimp [h,hel,hiE,hgi,elRow,wr ws1,hT,hx2]
    ·rw [if_neg hx2] at z1;simp -dsimp [h,hel,hiE,hgi,elRow,wr ws1,hT,hx2,wr wi];refine ⟨by omega,i,tot,run+w,⟨?_,by omega,by omega,by omega,by omega⟩,by omega,rfl,rfl,by omega⟩;rw [hsc,ei2];exact z1
  | false=>
   have eT:totN false tot run w=tot+(run+w):=rfl;have eR:rnN false run w=0:=rfl;rw [eT,←Int.add_assoc] at z1
   by_cases hT:cW<tot+run+w
   ·rw [hbrk _ hT z1] at hx1;simp -dsimp [h,hel,hiE,hgi,elRow,wr ws1,hT,↓ awpC_of xc170b];exact awpC_in hx1
   ·rw [if_neg (fun q=>hT q.1),if_neg hT,eR] at z1
    by_cases hx2:x=2
    ·rw [if_pos hx2] at z1;subst z1;simp -dsimp [h,hel,hiE,hgi,elRow,wr ws1,hT,hx2]
    ·rw [if_neg hx2] at z1;simp -dsimp [h,hel,hiE,hgi,elRow,wr ws1,hT,hx2,wr wi];refine ⟨by omega,i,tot+run+w,0,⟨?_,by omega,by omega,by omega,by omega⟩,by omega,rfl,rfl,by omega⟩;rw [hsc,ei2];exact z1
 ·have hin:i=n:=by omega
  have hm:n - s - k=0:=by omega
  rw [hm,fgo] at z1;have hfit:fit+1=n:=by omega
  have hx1:=hx fit (by omega) (by omega);have e1:finS ms n s fit=V:=by
   rw [←z1];unfold finS finN;rw [if_pos hfit,if_neg (by omega)]
  rw [e1] at hx1;have hin':¬i<n:=h
  simp -dsimp [hin',hel,↓ awpC_of xc170b];exact awpC_in hx1
theorem b131 (ws ms:List Int) (sp:List Bool) (W:Int) (n:Nat) (h1:ws.length=n) (h2:ms.length=n) (h3:sp.length=n) (hn:n≤1000000) :
  Bt 131 [.sl 1 (ws.map intRow),.sl 1 (ms.map intRow),.sl 1 (sp.map boolRow),.int .i64 W] (.p (.sl 1 ((fillN ws ms sp W n).map intRow))):=by
 refine best mixed fn131 ok131 (by simp) ?_;have q169:=b169 ws ms sp n h1 h2 h3 hn;have q170:=fun s hs=>b170 ws ms sp W n s hs hn
 have hel:=elL_len ws ms sp n;obtain ⟨V,eV⟩:=gn (fillN ws ms sp W n);rw [eV];unfold fillN at eV;have hE:=fun s (hs:s<n)=>endN_range (ws:=ws) (sp:=sp) (ms:=ms) (W:=W) (n:=n) (s:=s) hs
 obtain ⟨E,eE⟩:=gn (elL ws ms sp n);simp only [eE] at q169 q170 hel;simp -dsimp [ac131];refine cP q169 ?_;simp -dsimp;refine loopE n (fun k (z:List Int×Int)=>⟨[(3,.p (.int .i64 W)),(9,.p (.sl 3 (E.map elRow))),(10,.ref (35,z.1.length) 1 0 z.1.length),(11,.p (.int .i64 z.2))],[((35,z.1.length),.sl 3 1 (z.1.map intRow))]⟩)
  (fun k z=>k≤z.1.length∧z.1.length≤n∧fillF (endN ws sp ms W n) n (n - k) z.1 z.2=V∧z.2=k) ([],0) (fun k z hk hz=>?_) ⟨by simp,by simp,by simpa using eV,by simp⟩ (by simp)
 obtain ⟨L,line⟩:=z;obtain ⟨z1,z2,z3,z4⟩:=hz;dsimp only at z1 z2 z3 z4 ⊢;subst z4;obtain ⟨s,es⟩:=gn L.length
 rw [es] at z1 z2 ⊢
 by_cases h:s<n
 ·have hm:n - k=(n - (k+1))+1:=by omega
  rw [hm,fillF,if_pos (by omega),es] at z3;obtain ⟨r1,r2⟩:=hE s h
  have q:=q170 s h;obtain ⟨e,ee⟩:∃ e:Nat,endN ws sp ms W n s=e:=⟨(endN ws sp ms W n s).toNat,by omega⟩;rw [ee] at q r1 r2 z3;rw [Int.toNat_natCast] at z3;have wk:R ((k:Int)+1):=rO (by omega)
  have hsE:s<E.length:=by omega
  have hkn:k<n:=by omega
  simp -dsimp [hsE];refine cP (b171 W) ?_;simp -dsimp;refine cP q ?_;simp -dsimp;refine loopC (e+1 - s) (fun j=>⟨[(3,.p (.int .i64 W)),(9,.p (.sl 3 (E.map elRow))),(10,.ref (35,s+j) 1 0 (s+j)),(11,.p (.int .i64 k)),(12,.p (.int .i64 e))],[((35,s+j),.sl 3 1 (L.map intRow++(rpl j k).map intRow))]⟩) (fun _=>True) (fun j hj _=>?_) trivial (by simp [rpl]);obtain ⟨m,em⟩:=gn (s+j);have em2:s+(j+1)=m+1:=by omega
  have hrl:=rpl_len j k;have hrs:=rpl_succ j k;rw [em,em2,hrs];obtain ⟨D,eD⟩:=gn (rpl j (k:Int));rw [eD] at hrl ⊢
  by_cases hm2:m≤e
  ·have m1:m+1≤maxLen:=by unfold maxLen;omega
   have e1:(m+1)*8≤140737488355328:=by omega
   have hjl:j<e+1 - s:=by omega
   have hl0:s+j=m:=em;have ht:List.take (m+1) (L.map intRow++D.map intRow++[[.int .i64 k]])=L.map intRow++D.map intRow++[[.int .i64 k]]:=List.take_of_length_le (by simp;omega);simp -dsimp [hm2,m1,e1,es,hrl,hl0,ht,hjl,List.range,List.range.loop,-List.all_eq_true]
  ·have hme:m=e+1:=by omega
   simp -dsimp [hm2,wr wk,hkn];have hj2:j=e+1 - s:=by omega
   have hLD:(L++D).length=m:=by simp [es,hrl,em]
   refine ⟨L++D,(k:Int)+1,⟨by omega,by omega,?_,rfl⟩,⟨hLD.symm,rfl⟩,hLD.symm,by simp⟩;rw [←eD,hj2];exact z3
 ·rw [fillF_end _ _ _ _ _ (by omega)] at z3;subst z3;have hsE:¬s<E.length:=by omega
  have ht:List.take s (L.map intRow)=L.map intRow:=List.take_of_length_le (by simp [es]);simp -dsimp [hsE,es,ht]
end
section
set_option maxHeartbeats 1000000
attribute [local simp ↓] oneI oneSp oneBo onePl
attribute [local simp] ba_size
theorem x83d {Kc:AE→Fr→Prop} (w:Int) (n:Nat) (hn:n≤100) (T:List (Nat×Nat)) (LV Fs Ws ls X D:List Int) (rt:Bool) (hW:Ws.length=n) (hX:X.length=n)
  (b e:Nat) (hbe:b<e) (hen:e≤n) (hD:D.length=e - b) (x0:Int) (hx0:-4000000000001000000≤x0∧x0≤1000000) (hWb:∀ x∈Ws,0≤x∧x≤40000000000000000)
  (hK:∀ F',(Ghost.keep [3,9,10,12,15,16,18,19]).app F'=some ⟨[(3,.p (.int .i64 w)),(9,.p (.sl 2 (T.map spRow))),(10,.p (.sl 1 (Ws.map intRow))),(12,.p (.sl 1 (LV.map intRow))),(15,.p (.sl 1 (ls.map intRow))),(16,.ref (84,n) 6 0 n),(18,.p (.bool rt)),(19,.p (.int .i64 e))],
   [((84,n),.sl 60 6 ((plcL Fs ls (xK Ws X b (vsN D) x0 (e - b)).1 Ws n).map plcRow))]⟩→Kc .normal F') :
  awp Tryz.prog xc83d Kc ⟨[(3,.p (.int .i64 w)),(9,.p (.sl 2 (T.map spRow))),(10,.p (.sl 1 (Ws.map intRow))),(12,.p (.sl 1 (LV.map intRow))),(15,.p (.sl 1 (ls.map intRow))),(16,.ref (84,n) 6 0 n),(18,.p (.bool rt)),(19,.p (.int .i64 b)),(22,.p (.int .i64 e)),(23,.p (.int .i64 x0)),(24,.p (.sl 1 ((vsN D).map intRow)))],
   [((84,n),.sl 60 6 ((plcL Fs ls X Ws n).map plcRow))]⟩:=by
 have hvl:(vsN D).length=e - b:=by rw [show (vsN D).length=D.length from vsL_len D 9,hD]
 simp -dsimp [xc83d];refine loopC (e - b) (fun r=>⟨[(3,.p (.int .i64 w)),(9,.p (.sl 2 (T.map spRow))),(10,.p (.sl 1 (Ws.map intRow))),(12,.p (.sl 1 (LV.map intRow))),(15,.p (.sl 1 (ls.map intRow))),(16,.ref (84,n) 6 0 n),(18,.p (.bool rt)),(19,.p (.int .i64 b)),(22,.p (.int .i64 e)),(23,.p (.int .i64 (xK Ws X b (vsN D) x0 r).2)),(24,.p (.sl 1 ((vsN D).map intRow))),(25,.p (.int .i64 r))],
   [((84,n),.sl 60 6 ((plcL Fs ls (xK Ws X b (vsN D) x0 r).1 Ws n).map plcRow))]⟩) (fun _=>True) (fun r hr _=>?_) trivial (by simp [xK])
 by_cases h:r<e - b
 ·have hrv:r<(vsN D).length:=by omega
  obtain ⟨i,ei,hiD⟩:=vsL_mem (lv:=D) (j:=9) (x:=(vsN D)[r]) (List.getElem_mem hrv);have eid:(vsN D).getD r 0=(i:Int):=by rw [←getD_at hrv];exact ei
  have hxs:xK Ws X b (vsN D) x0 (r+1)=((xK Ws X b (vsN D) x0 r).1.set (b+i) (xK Ws X b (vsN D) x0 r).2,(xK Ws X b (vsN D) x0 r).2+Ws.getD (b+i) 0):=by rw [xK,eid];rfl
  have hxl:=xK_len Ws X b (vsN D) x0 r;have hxb:=xK_b (Ws:=Ws) (X:=X) (b:=b) (O:=vsN D) (x0:=x0) hWb r;rw [hxs];obtain ⟨X1,eX1⟩:=gn ((xK Ws X b (vsN D) x0 r).1);obtain ⟨x1,ex1⟩:=gn ((xK Ws X b (vsN D) x0 r).2);rw [eX1] at hxl;rw [ex1] at hxb;rw [eX1,ex1];obtain ⟨O,eO⟩:=gn (vsN D)
  simp only [eO] at hrv ei hvl ⊢;obtain ⟨p,ep⟩:=gn (b+i)
  have hidx:p<n:=by omega
  have hst:=plcL_set Fs ls X1 Ws n p x1 (by omega) hidx;have hpl:=plcL_len Fs ls X1 Ws n;have hWi:p<Ws.length:=by omega
  obtain ⟨wv,ewv⟩:=gn Ws[p];have ewd:Ws.getD p 0=wv:=by rw [←getD_at hWi];exact ewv
  have hwv:=hWb wv (by rw [←ewv];simp);have c0:(b:Int)+i=p:=by omega
  have wp:R (p:Int):=rO (by omega);have wx:R (x1+wv):=rO (by omega);have wr':R ((r:Int)+1):=rO (by omega);rw [ep,←hst,ewd];obtain ⟨P1,eP1⟩:=gn (plcL Fs ls X1 Ws n);have hrow:∀ h:p<P1.length,plcRow P1[p]=[.int .i64 0,.int .i64 p,.int .i64 (Fs.getD p 0),.int .i64 (ls.getD p 0),.int .i64 (X1.getD p 0),.int .i64 (Ws.getD p 0)]:=fun h=>by
   subst eP1;simp [plcL,plcRow]
  rw [eP1] at hpl;rw [eP1];have hiP:p<P1.length:=by omega
  simp -dsimp [hrv,ei,c0,wr wp,hiP,hpl,hidx,hrow hiP,hWi,hW,ewv,ewd,intRow,wr wx,wr wr',h,-List.all_eq_true,-List.map_set]
 ·have:r=e - b:=by omega
  subst this;have hrv:¬e - b<(vsN D).length:=by omega
  simp -dsimp [hrv];refine hK _ ?_;simp
theorem x83c {Kc:AE→Fr→Prop} (w:Int) (hw:-1000000≤w∧w≤1000000) (n:Nat) (hn:n≤100) (T:List (Nat×Nat)) (hT:T.length=n) (LV Fs Ws ls X:List Int) (hTL:∀ i (h:i<T.length),T[i].1<LV.length) (rt:Bool) (hW:Ws.length=n) (hls:ls.length=n) (hX:X.length=n)
  (b:Nat) (hb:b<n) (hWb:∀ x∈Ws,0≤x∧x≤40000000000000000)
  (hK:∀ F',(Ghost.keep [3,9,10,12,15,16,18,19]).app F'=some ⟨[(3,.p (.int .i64 w)),(9,.p (.sl 2 (T.map spRow))),(10,.p (.sl 1 (Ws.map intRow))),(12,.p (.sl 1 (LV.map intRow))),(15,.p (.sl 1 (ls.map intRow))),(16,.ref (84,n) 6 0 n),(18,.p (.bool rt)),(19,.p (.int .i64 (grpE ls b)))],
   [((84,n),.sl 60 6 ((plcL Fs ls (xK Ws X b (vsN (lvG LV T b (grpE ls b))) (if rt=true then w - sumI ((Ws.drop b).take (grpE ls b - b)) else 0) (grpE ls b - b)).1 Ws n).map plcRow))]⟩→Kc .normal F') :
  awp Tryz.prog xc83c Kc ⟨[(3,.p (.int .i64 w)),(9,.p (.sl 2 (T.map spRow))),(10,.p (.sl 1 (Ws.map intRow))),(12,.p (.sl 1 (LV.map intRow))),(15,.p (.sl 1 (ls.map intRow))),(16,.ref (84,n) 6 0 n),(18,.p (.bool rt)),(19,.p (.int .i64 b))],
   [((84,n),.sl 60 6 ((plcL Fs ls X Ws n).map plcRow))]⟩:=by
 obtain ⟨g1,g2⟩:=grpE_b (ls:=ls) (b:=b) (by omega);have gin:=fun j h1 h2=>@grpE_in ls b j h1 h2 (by omega)
 have gout:=@grpE_out ls b;have hDl:(lvG LV T b (grpE ls b)).length=grpE ls b - b:=by simp [lvG]
 have q134:=b134 (lvG LV T b (grpE ls b)) (by omega);have hSb:=sumI_b (l:=(Ws.drop b).take (grpE ls b - b)) (fun x hx=>hWb x (List.mem_of_mem_drop (List.mem_of_mem_take hx)));have hSl:((Ws.drop b).take (grpE ls b - b)).length≤100:=by simp;omega
 have hd:=fun Kc x0 hx0 h=>@x83d Kc w n hn T LV Fs Ws ls X (lvG LV T b (grpE ls b)) rt hW hX b (grpE ls b) g1 (by omega) hDl x0 hx0 hWb h
 obtain ⟨e,ee⟩:=gn (grpE ls b);simp only [ee] at g1 g2 gin gout hDl q134 hSb hSl hd hK;have hgb:ls.getD b 0=ls[b]'(by omega):=(getD_at (by omega)).symm
 simp -dsimp [xc83c,↓ awpC_of xc83d];refine loopC (e - b) (fun d=>⟨[(3,.p (.int .i64 w)),(9,.p (.sl 2 (T.map spRow))),(10,.p (.sl 1 (Ws.map intRow))),(12,.p (.sl 1 (LV.map intRow))),(15,.p (.sl 1 (ls.map intRow))),(16,.ref (84,n) 6 0 n),(18,.p (.bool rt)),(19,.p (.int .i64 b)),(20,.ref (117,d) 1 0 d),(21,.p (.int .i64 (sumI ((Ws.drop b).take d)))),(22,.p (.int .i64 ((b+d:Nat):Int)))],
   [((84,n),.sl 60 6 ((plcL Fs ls X Ws n).map plcRow)),((117,d),.sl 3 1 ((lvG LV T b (b+d)).map intRow))]⟩) (fun _=>True) (fun d hdd _=>?_) trivial (by simp [lvG,sumI])
 have hlv:=lvG_snoc LV T b d;have hlvl:(lvG LV T b (b+d)).length=d:=by simp [lvG]
 obtain ⟨j,ej⟩:=gn (b+d);have ej2:b+(d+1)=j+1:=by omega
 have hb2:b<ls.length:=by omega
 by_cases h:d<e - b
 ·have hjn:j<n:=by omega
  have hjT:j<T.length:=by omega
  have hjl:j<ls.length:=by omega
  have hjW:j<Ws.length:=by omega
  have he:=gin j (by omega) (by omega);rw [hgb,←getD_at hjl] at he;obtain ⟨⟨a,c⟩,eT⟩:=gn T[j]
  have haL:=hTL j hjT;rw [eT] at haL;dsimp only at haL;have eTd:T.getD j (0,0)=(a,c):=by simp [hjT,eT]
  obtain ⟨v,ev⟩:=gn LV[a];have evd:LV.getD a 0=v:=by rw [←getD_at haL];exact ev
  obtain ⟨wv,ewv⟩:=gn Ws[j];have hwv:=hWb wv (by rw [←ewv];simp);have hst:(Ws.drop b).take (d+1)=(Ws.drop b).take d++[wv]:=by
   rw [List.take_add_one,List.getElem?_drop,ej,List.getElem?_eq_getElem hjW,ewv];rfl
  have hsd:=sumI_b (l:=(Ws.drop b).take d) (fun x hx=>hWb x (List.mem_of_mem_drop (List.mem_of_mem_take hx)));have hsdl:((Ws.drop b).take d).length≤100:=by simp;omega
  rw [ej,ej2,eTd] at hlv;dsimp only at hlv;rw [evd] at hlv;rw [hst,sumI_snoc,ej2,hlv,ej];rw [ej] at hlvl;obtain ⟨Y,eY⟩:=gn (lvG LV T b j)
  obtain ⟨S,eS⟩:=gn (sumI ((Ws.drop b).take d));rw [eS] at hsd;rw [eY] at hlvl ⊢;rw [eS];have wS:R (S+wv):=rO (by omega)
  have wj:R ((j:Int)+1):=rO (by omega);have m1:d+1≤maxLen:=by unfold maxLen;omega
  have m2:(d+1)*8≤140737488355328:=by omega
  have hall:((Y.map intRow).all fun r=>r.all PV.one)=true:=oneI _;simp -dsimp [hjT,hjl,hb2,he,eT,spRow,haL,ev,hjW,ewv,intRow,wr wS,wr wj,h,m1,m2,hlvl,hall,List.range,List.range.loop,↓ awpC_of xc83d,-List.all_eq_true]
 ·have:d=e - b:=by omega
  subst this;have hje:j=e:=by omega
  subst hje;rw [ej];obtain ⟨S,eS⟩:=gn (sumI ((Ws.drop b).take (j - b)));rw [eS] at hSb hK ⊢;obtain ⟨D,eD⟩:=gn (lvG LV T b j)
  simp only [eD] at hDl q134 hd hK hlvl ⊢;have wS:R (w - S):=rO (by omega)
  have htD:List.take (j - b) (D.map intRow)=D.map intRow:=List.take_of_length_le (by simp;omega)
  by_cases c:j<T.length
  ·have hjl:j<ls.length:=by omega
   have hne:=gout (by omega);rw [hgb,←getD_at hjl] at hne;cases rt with
   | true=>
    simp -dsimp [c,hjl,hb2,hne,intRow,wr wS,↓ awpC_of xc83d,htD,hDl];refine cP q134 ?_;simp -dsimp [↓ awpC_of xc83d];exact awpC_in (hd _ (w - S) (by omega) fun F' q=>hK F' (by rw [q,if_pos rfl]))
   | false=>
    simp -dsimp [c,hjl,hb2,hne,intRow,wr wS,↓ awpC_of xc83d,htD,hDl];refine cP q134 ?_;simp -dsimp [↓ awpC_of xc83d];exact awpC_in (hd _ 0 (by omega) fun F' q=>hK F' (by rw [q,if_neg (by simp)]))
  ·cases rt with
   | true=>
    simp -dsimp [c,wr wS,↓ awpC_of xc83d,htD,hDl];refine cP q134 ?_;simp -dsimp [↓ awpC_of xc83d];exact awpC_in (hd _ (w - S) (by omega) fun F' q=>hK F' (by rw [q,if_pos rfl]))
   | false=>
    simp -dsimp [c,wr wS,↓ awpC_of xc83d,htD,hDl];refine cP q134 ?_;simp -dsimp [↓ awpC_of xc83d];exact awpC_in (hd _ 0 (by omega) fun F' q=>hK F' (by rw [q,if_neg (by simp)]))
theorem xsF_end (Ws LV:List Int) (T:List (Nat×Nat)) (ls:List Int) (rt:Bool) (w:Int) (m b:Nat) (X:List Int) (h:¬b<ls.length):xsF Ws LV T ls rt w m b X=X:=by
 cases m with
 | zero=>rfl
 | succ m=>rw [xsF,if_neg h]
theorem x83b (t:List UInt8) (hl:t.length≤1000000) (w:Int) (hw:-1000000≤w∧w≤1000000) (n:Nat) (hn:n≤100) (T:List (Nat×Nat)) (hT:T.length=n) (LV Fs Ws ls:List Int) (hTL:∀ i (h:i<T.length),T[i].1<LV.length) (hW:Ws.length=n) (hls:ls.length=n) (hWb:∀ x∈Ws,0≤x∧x≤40000000000000000) :
  awp Tryz.prog xc83b (retK [RO.tmp 8] (.p (.sl 6 ((plcL Fs ls (xsF Ws LV T ls (decide (baseN t=2)) w n 0 (zerosI n)) Ws n).map plcRow)))) ⟨[(1,.p (.str (ba t))),(3,.p (.int .i64 w)),(9,.p (.sl 2 (T.map spRow))),(10,.p (.sl 1 (Ws.map intRow))),(12,.p (.sl 1 (LV.map intRow))),(15,.p (.sl 1 (ls.map intRow))),(16,.ref (84,n) 6 0 n)],
   [((84,n),.sl 60 6 ((plcL Fs ls (zerosI n) Ws n).map plcRow))]⟩:=by
 have q133:=b133 t hl;obtain ⟨rt,ert⟩:=gn (decide (baseN t=2));rw [ert] at q133 ⊢;obtain ⟨V,eV⟩:=gn (xsF Ws LV T ls rt w n 0 (zerosI n))
 rw [eV];simp -dsimp [xc83b,↓ awpC_of xc83c];refine cP q133 ?_;simp -dsimp [↓ awpC_of xc83c];refine loopE n (fun k (z:Nat×List Int)=>⟨[(3,.p (.int .i64 w)),(9,.p (.sl 2 (T.map spRow))),(10,.p (.sl 1 (Ws.map intRow))),(12,.p (.sl 1 (LV.map intRow))),(15,.p (.sl 1 (ls.map intRow))),(16,.ref (84,n) 6 0 n),(18,.p (.bool rt)),(19,.p (.int .i64 z.1))],
   [((84,n),.sl 60 6 ((plcL Fs ls z.2 Ws n).map plcRow))]⟩) (fun k z=>xsF Ws LV T ls rt w (n - k) z.1 z.2=V∧k≤z.1∧z.1≤n∧z.2.length=n) (0,zerosI n) (fun k z hk hz=>?_) ⟨by simpa using eV,by omega,by omega,by simp [zerosI]⟩ (by simp)
 obtain ⟨b,X⟩:=z;obtain ⟨z1,z2,z3,z4⟩:=hz;dsimp only at z1 z2 z3 z4 ⊢
 by_cases h:b<n
 ·have hbT:b<T.length:=by omega
  rw [show n - k=(n - (k+1))+1 by omega,xsF,if_pos (by omega)] at z1;obtain ⟨g1,g2⟩:=grpE_b (ls:=ls) (b:=b) (by omega)
  simp -dsimp [hbT,↓ awpC_of xc83c];refine awpC_in ?_;refine x83c w hw n hn T hT LV Fs Ws ls X hTL rt hW hls z4 b h hWb ?_;intro F' q;refine ⟨by omega,(grpE ls b,_),⟨z1,by dsimp only;omega,by dsimp only;omega,?_⟩,q⟩;dsimp only;rw [xK_len,z4]
 ·have hbT:¬b<T.length:=by omega
  rw [xsF_end _ _ _ _ _ _ _ _ _ (by omega)] at z1;subst z1;have hpl:=plcL_len Fs ls X Ws n
  have ht:List.take n ((plcL Fs ls X Ws n).map plcRow)=(plcL Fs ls X Ws n).map plcRow:=List.take_of_length_le (by simp [hpl]);simp -dsimp [hbT,ht,hpl]
theorem b83 (cs:List Cor) (hcs:CorsOk2 cs) (t:List UInt8) (hl:t.length≤100) (s:Stg) (hs:s.at_.length≤1000) (w:Int) (hw:-1000000≤w∧w≤1000000) (h1:fitN s=true) :
  Bt 83 [.sl 9 (cs.map corRow),.str (ba t),.agg (stgRow s),.int .i64 w] (.p (.sl 6 ((placesN cs t s w).map plcRow))):=by
 refine best mixed fn83 ok83 (by simp [stgRow]) ?_;have q20:=b20 s hs;rw [h1] at q20;have q33:=b33 t (by omega)
 have q130:=b130 cs hcs t (by omega) s hs;have q34:=b34 cs hcs.one t (by omega);have q35:=b35 t (by omega);have q132:=b132 t (by omega);have hsl:=splT_len t;have hFl:(fontsN cs t).length=(splT t).length:=by simp [fontsN]
 have hWl:(widthsN cs t s).length=(splT t).length:=by simp [widthsN,h1]
 have hWb:=widthsN_b hcs (t:=t) h1;have hml:(mayL t).length=(splT t).length:=by simp [mayL]
 have hsp:(spcL t).length=(splT t).length:=by simp [spcL]
 have q131:=b131 (widthsN cs t s) (mayL t) (spcL t) w (splT t).length hWl hml hsp (by omega);have hlv:=levT_len t;have hTL:∀ i (h:i<(splT t).length),(splT t)[i].1<(levT t).length:=fun i h=>by
  have:=splT_mem (t:=t) (a:=(splT t)[i].1) (b:=(splT t)[i].2) (List.getElem_mem h);omega
 have q75:=fun i (h:i<(splT t).length)=>b75 t (splT t)[i].1 (splT t)[i].2 (by have:=splT_mem (t:=t) (a:=(splT t)[i].1) (b:=(splT t)[i].2) (List.getElem_mem h);omega) (by have:=splT_mem (t:=t) (a:=(splT t)[i].1) (b:=(splT t)[i].2) (List.getElem_mem h);omega) (by omega)
 have hspg:∀ i (h:i<(splT t).length) (h2:i<(spcL t).length),(spcL t)[i]=decide (clsT t (baseT t (splT t)[i].1 (splT t)[i].2)=2):=fun i h h2=>by simp [spcL]
 have hb:=x83b t (by omega) w hw (splT t).length (by omega) (splT t) rfl (levT t) (fontsN cs t) (widthsN cs t s) (linesN cs t s w) hTL hWl fillN_len hWb;have hll:(linesN cs t s w).length=(splT t).length:=fillN_len;have hpN:placesN cs t s w=plcL (fontsN cs t) (linesN cs t s w) (xsF (widthsN cs t s) (levT t) (splT t) (linesN cs t s w) (decide (baseN t=2)) w (splT t).length 0 (zerosI (splT t).length)) (widthsN cs t s) (splT t).length:=by
  unfold placesN;rw [if_pos h1]
 rw [hpN];have eL:fillN (widthsN cs t s) (mayL t) (spcL t) w (splT t).length=linesN cs t s w:=rfl;rw [eL] at q131;obtain ⟨Fs,eF⟩:=gn (fontsN cs t)
 obtain ⟨Ws,eW⟩:=gn (widthsN cs t s);obtain ⟨ls,els⟩:=gn (linesN cs t s w);obtain ⟨LV,eLV⟩:=gn (levT t);obtain ⟨SP,eSP⟩:=gn (spcL t);obtain ⟨MS,eMS⟩:=gn (mayL t);obtain ⟨T,eT⟩:=gn (splT t);simp only [eF,eW,els,eLV,eSP,eMS,eT] at q33 q130 q34 q35 q132 q131 q75 hsl hFl hWl hsp hspg hb hll ⊢;obtain ⟨V,eV⟩:=gn (plcL Fs ls (xsF Ws LV T ls (decide (baseN t=2)) w T.length 0 (zerosI T.length)) Ws T.length)
 simp only [eV] at hb ⊢;simp only [stgRow] at q20 q130;simp -dsimp [ac83,stgRow,↓ awpC_of xc83b];refine cP q20 ?_;simp -dsimp [↓ awpC_of xc83b];refine cP q33 ?_;simp -dsimp [↓ awpC_of xc83b];refine cP q130 ?_;simp -dsimp [↓ awpC_of xc83b];refine cP q34 ?_;simp -dsimp [↓ awpC_of xc83b];refine cP q35 ?_;simp -dsimp [↓ awpC_of xc83b];refine loopC T.length (fun k=>⟨[(1,.p (.str (ba t))),(3,.p (.int .i64 w)),(9,.p (.sl 2 (T.map spRow))),(10,.p (.sl 1 (Ws.map intRow))),(11,.p (.sl 1 (Fs.map intRow))),(12,.p (.sl 1 (LV.map intRow))),(13,.ref (55,k) 1 0 k),(14,.p (.int .i64 k))],
   [((55,k),.sl 4 1 ((SP.take k).map boolRow))]⟩) (fun _=>True) (fun k hk _=>?_) trivial (by simp)
 by_cases h:k<T.length
 ·obtain ⟨⟨a,c⟩,ex⟩:=gn T[k];have q:=q75 k h;have hg:=hspg k h (by omega);rw [ex] at q hg;dsimp only at q hg;have hs1:SP.take (k+1)=SP.take k++[decide (clsT t (baseT t a c)=2)]:=by rw [List.take_add_one,List.getElem?_eq_getElem (by omega:k<SP.length),hg];rfl
  have hYl:(SP.take k).length=k:=by simp;omega
  rw [hs1];obtain ⟨Y,eY⟩:=gn (SP.take k);rw [eY] at hYl ⊢;obtain ⟨cl,ecl⟩:=gn (clsT t (baseT t a c))
  rw [ecl] at q ⊢;have wk:R ((k:Int)+1):=rO (by omega)
  have m1:k+1≤maxLen:=by unfold maxLen;omega
  have m2:(k+1)*1≤140737488355328:=by omega
  have m3:k+1≤140737488355328:=by omega
  have hall:((Y.map boolRow).all fun r=>r.all PV.one)=true:=oneBo _;simp -dsimp [h,ex,spRow];refine call_p q (by simp [spRow]) (by simp) ?_
  by_cases c2:cl=2
  ·simp -dsimp [c2,h,m1,m2,m3,hYl,hall,wr wk,boolRow,List.range,List.range.loop,↓ awpC_of xc83b,-List.all_eq_true]
  ·simp -dsimp [c2,h,m1,m2,m3,hYl,hall,wr wk,boolRow,List.range,List.range.loop,↓ awpC_of xc83b,-List.all_eq_true]
 ·have:k=T.length:=by omega
  subst this;have t1:SP.take T.length=SP:=List.take_of_length_le (by omega);have t2:List.take T.length (SP.map boolRow)=SP.map boolRow:=List.take_of_length_le (by simp;omega);rw [t1];simp -dsimp [h,t2,hsp,↓ awpC_of xc83b];refine cP q132 ?_;simp -dsimp [↓ awpC_of xc83b];refine cP q131 ?_;simp -dsimp [↓ awpC_of xc83b];refine loopC T.length (fun i=>⟨[(1,.p (.str (ba t))),(3,.p (.int .i64 w)),(9,.p (.sl 2 (T.map spRow))),(10,.p (.sl 1 (Ws.map intRow))),(11,.p (.sl 1 (Fs.map intRow))),(12,.p (.sl 1 (LV.map intRow))),(15,.p (.sl 1 (ls.map intRow))),(16,.ref (84,i) 6 0 i),(17,.p (.int .i64 i))],
   [((84,i),.sl 60 6 ((plcL Fs ls (zerosI T.length) Ws i).map plcRow))]⟩) (fun _=>True) (fun i hi _=>?_) trivial (by simp [plcL])
  by_cases h2:i<T.length
  ·have k1:i<Fs.length:=by omega
   have k2:i<ls.length:=by omega
   have k3:i<Ws.length:=by omega
   obtain ⟨f,ef⟩:=gn Fs[i];obtain ⟨l,el⟩:=gn ls[i];obtain ⟨v,ev⟩:=gn Ws[i];have efd:Fs.getD i 0=f:=by rw [←getD_at k1];exact ef
   have eld:ls.getD i 0=l:=by rw [←getD_at k2];exact el
   have evd:Ws.getD i 0=v:=by rw [←getD_at k3];exact ev
   have ezd:(zerosI T.length).getD i 0=0:=by simp [zerosI,h2]
   have hps:=plcL_succ Fs ls (zerosI T.length) Ws i;rw [efd,eld,evd,ezd] at hps;have hpl:=plcL_len Fs ls (zerosI T.length) Ws i
   rw [hps];obtain ⟨Y,eY⟩:=gn (plcL Fs ls (zerosI T.length) Ws i);rw [eY] at hpl ⊢;have wi:R ((i:Int)+1):=rO (by omega)
   have m1:i+1≤maxLen:=by unfold maxLen;omega
   have m2:(i+1)*48≤140737488355328:=by omega
   have hall:((Y.map plcRow).all fun r=>r.all PV.one)=true:=onePl _;simp -dsimp [h2,k1,k2,k3,ef,el,ev,intRow,m1,m2,hpl,hall,wr wi,List.range,List.range.loop,↓ awpC_of xc83b,-List.all_eq_true]
  ·have:i=T.length:=by omega
   subst this;simp -dsimp [h2,↓ awpC_of xc83b];exact awpC_in hb
end
section
theorem cluT_eq {t:List UInt8} {i:Nat} (h:i<(splT t).length):cluT t i=(t.take (sA t (i+1))).drop (sA t i):=by
 simp only [cluT,Int.toNat_natCast,sA_get h]
def wS (ps:List Par):Nat→Int×List UInt8
 | 0=>(-1,[])
 | k+1=>match ps[k]? with
  | some p=>if p.t=[] then wS ps k else ((k:Int),(wS ps k).2++((if 0≤(wS ps k).1 then List.replicate ((k:Int) - (wS ps k).1).toNat 10 else [])++p.t))
  | none=>wS ps k
theorem docL_nn {cs:List Cor} {w:Int} {ps:List Par} (hp:ParsOk ps) {x:Dpl} (h:x∈docL cs w ps):0≤x.1∧x.1<ps.length:=by
 obtain ⟨k,hk,h2⟩:=List.mem_flatMap.1 h;have h1:=(paraK_mem hp h2).1;have hk:k<ps.length:=by simpa using hk
 omega
end
section
set_option maxHeartbeats 1000000
attribute [local simp ↓] oneI oneSp onePl oneD2 oneC onePa onePi
attribute [local simp] ba_size
theorem b39 (cs:List Cor) (hcs:CorsOk2 cs) (w:Int) (hw:0≤w∧w≤1000) (pn:List Cor) (ps:List Par) (hp:ParsOk ps):Bt 39 [.agg (docRow w pn ps),.sl 9 (cs.map corRow)] (.p (.sl 6 ((docL cs w ps).map dplRow))):=by
 refine best mixed fn39 ok39 (by simp) ?_;have h3:=hp.1;simp -dsimp [ac39,docRow];refine loopC ps.length (fun k=>⟨[(1,.p (.sl 9 (cs.map corRow))),(2,.ptr (2,0) 3 0 0),(5,.ref (58,(allK cs w ps k).length) 6 0 (allK cs w ps k).length),(6,.p (.int .i64 (lineK cs w ps k))),(7,.p (.int .i64 k))],[((2,0),.box [.p (.int .i64 w),.p (.sl 3 (pn.map pinRow)),.p (.sl 4 (ps.map parRow))]),((58,(allK cs w ps k).length),.sl 60 6 ((allK cs w ps k).map dplRow))]⟩) (fun _=>True) (fun k hk _=>?_) trivial (by simp [allK,lineK])
 by_cases h:k<ps.length
 ·obtain ⟨⟨t,s⟩,ex⟩:=gn ps[k];have hpk:=hp.2 ⟨t,s⟩ (by rw [←ex];simp);obtain ⟨ht,hs1,hs2⟩:=id hpk;dsimp only at ht hs1 hs2;have hb:=parV_b (cs:=cs) (w:=w) hpk
  have hlb:=lineK_b (cs:=cs) (w:=w) hp k hk;have q:=b83 cs hcs t (by omega) s (by omega) w ⟨by omega,by omega⟩ hs1;have eV:placesN cs t s w=parV cs w ⟨t,s⟩:=rfl;rw [eV] at q;have hsucc:lineK cs w ps (k+1)=lineK cs w ps k+maxL (parV cs w ⟨t,s⟩):=by
   simp only [lineK,List.getElem?_eq_getElem h,ex]
  have hal:=allK_len (cs:=cs) (w:=w) hp k;have hsl:allK cs w ps (k+1)=allK cs w ps k++(parV cs w ⟨t,s⟩).map (shiftP k (lineK cs w ps k)):=by
   rw [allK_succ];unfold paraK;rw [List.getElem?_eq_getElem h,ex]
  obtain ⟨V,eV2⟩:=gn (parV cs w ⟨t,s⟩);simp only [eV2] at q hb hsucc hsl;obtain ⟨line,el⟩:=gn (lineK cs w ps k)
  rw [el] at hlb hsucc hsl;obtain ⟨A,ea⟩:=gn (allK cs w ps k)
  rw [ea] at hsl hal;rw [el,hsucc,ea,hsl];simp -dsimp [h,ex,parRow];refine call_p q (by simp [stgRow]) (by simp) ?_;simp -dsimp;refine loopC V.length (fun i=>⟨[(1,.p (.sl 9 (cs.map corRow))),(2,.ptr (2,0) 3 0 0),(5,.ref (58,A.length+i) 6 0 (A.length+i)),(6,.p (.int .i64 line)),(7,.p (.int .i64 k)),(9,.p (.sl 6 (V.map plcRow))),(10,.p (.int .i64 (maxL (V.take i)))),(11,.p (.int .i64 i))],[((2,0),.box [.p (.int .i64 w),.p (.sl 3 (pn.map pinRow)),.p (.sl 4 (ps.map parRow))]),((58,A.length+i),.sl 60 6 ((A++(V.take i).map (shiftP k line)).map dplRow))]⟩) (fun _=>True) (fun i hi _=>?_) trivial (by simp [maxL]);have hmb:=maxL_b hb.2 i
  by_cases hi2:i<V.length
  ·obtain ⟨⟨pi,pf,pl,px,pw⟩,ep⟩:=gn V[i];have hpl:=hb.2 ⟨pi,pf,pl,px,pw⟩ (by rw [←ep];simp);dsimp only at hpl;have hmax:=maxL_succ V i hi2
   rw [ep] at hmax;dsimp only at hmax;have hs1':A++(V.take (i+1)).map (shiftP k line)=(A++(V.take i).map (shiftP k line))++[((k:Int),(⟨pi,pf,pl+line,px,pw⟩:Plc))]:=by
    rw [List.take_add_one,List.getElem?_eq_getElem hi2,ep,List.append_assoc];simp [shiftP]
   have hYl:(A++(V.take i).map (shiftP k line)).length=A.length+i:=by simp;omega
   rw [hs1',hmax];obtain ⟨Y,eY⟩:=gn (A++(V.take i).map (shiftP k line));rw [eY] at hYl ⊢;obtain ⟨mx,emx⟩:=gn (maxL (V.take i))
   rw [emx];obtain ⟨j,ej⟩:=gn (A.length+i);have ej2:A.length+(i+1)=j+1:=by omega
   rw [ej,ej2];rw [ej] at hYl;have wi:R ((i:Int)+1):=rO (by omega)
   have wl:R (pl+1):=rO (by omega);have wl2:R (pl+line):=rO (by omega);have m1:j+1≤maxLen:=by unfold maxLen;omega
   have m2:(j+1)*48≤140737488355328:=by omega
   have hall:((Y.map dplRow).all fun r=>r.all PV.one)=true:=oneD2 _;simp -dsimp [hi2,ep,plcRow,dplRow,wr wi,wr wl,wr wl2,m1,m2,hYl,hall,List.range,List.range.loop,-List.all_eq_true]
  ·have:i=V.length:=by omega
   subst this;have wk:R ((k:Int)+1):=rO (by omega);have hmm:=maxL_b hb.2 V.length;rw [List.take_length] at hmm;have wl:R (line+maxL V):=rO (by omega)
   simp -dsimp [hi2,wr wl,wr wk,h]
 ·have:k=ps.length:=by omega
  subst this;have edl:allK cs w ps ps.length=docL cs w ps:=rfl;rw [edl];have ht:List.take (docL cs w ps).length ((docL cs w ps).map dplRow)=(docL cs w ps).map dplRow:=List.take_of_length_le (by simp);simp -dsimp [h,ht]
theorem b38 (cs:List Cor) (hcs:CorsOk2 cs) (w:Int) (hw:0≤w∧w≤1000) (pn:List Cor) (ps:List Par) (hp:ParsOk ps) (line x:Int):Bt 38 [.agg (docRow w pn ps),.sl 9 (cs.map corRow),.int .i64 line,.int .i64 x] (.p (.tup [.int .i64 (max (pickI line x (docL cs w ps)) 0),.bool (decide (0≤pickI line x (docL cs w ps)))])):=by
 have q:=b39 cs hcs w hw pn ps hp;have hl:=allK_len (cs:=cs) (w:=w) hp ps.length;have h3:=hp.1;have hll:(docL cs w ps).length≤36:=by unfold docL;omega
 have hB:=docL_bnd hcs hw hp;obtain ⟨L,eL⟩:=gn (docL cs w ps);rw [eL] at q hll hB ⊢;refine best mixed fn38 ok38 (by simp [docRow]) ?_;simp only [docRow] at q;simp -dsimp [ac38,docRow];refine cP q ?_;simp -dsimp;refine loopC L.length (fun k=>⟨[(2,.p (.int .i64 line)),(3,.p (.int .i64 x)),(10,.p (.sl 6 (L.map dplRow))),(11,.p (.int .i64 k))],[]⟩) (fun k=>∀ j (q:j<L.length),j<k→hitB line x L[j]=false) (fun k hk hall=>?_) (by intro j q h;omega) (by simp)
 by_cases h:k<L.length
 ·obtain ⟨⟨n,pi,pf,pl,px,pw⟩,ep⟩:=gn L[k];obtain ⟨g1,g2,g3,g4⟩:=hB (n,⟨pi,pf,pl,px,pw⟩) (by rw [←ep];simp);dsimp only at g1 g2 g3 g4;have wk:R ((k:Int)+1):=rO (by omega)
  have w1:R (px+pw):=rO (by omega);have go:hitB line x L[k]=false→∀ j (q:j<L.length),j<k+1→hitB line x L[j]=false:=fun e j q1 q2=>by
   by_cases hjk:j=k
   ·subst hjk;exact e
   ·exact hall j q1 (by omega)
  by_cases c1:pl=line
  ·by_cases c2:px≤x
   ·by_cases c3:x<px+pw
    ·have hit:hitB line x L[k]=true:=by rw [ep];simp [hitB,c1,c2,c3];omega
     have hr:=pickI_at h hit (fun j q=>hall j (by omega) q);have e1:max (k:Int) 0=k:=by omega
     have e2:(0:Int)≤k:=by omega
     simp -dsimp [h,ep,dplRow,c1,c2,c3,wr w1,hr,e1,e2]
    ·have g:=go (by rw [ep];simp [hitB,c1,c2];omega);simp -dsimp [h,ep,dplRow,c1,c2,c3,wr w1,wr wk];exact g
   ·have g:=go (by rw [ep];simp [hitB,c1,c2]);simp -dsimp [h,ep,dplRow,c1,c2,wr wk];exact g
  ·have g:=go (by rw [ep];simp [hitB,c1]);simp -dsimp [h,ep,dplRow,c1,wr wk];exact g
 ·have:k=L.length:=by omega
  subst this;have hr:=pickI_none (line:=line) (x:=x) (fun j q=>hall j q q);simp -dsimp [h,hr];decide
theorem docL_row {cs:List Cor} {w:Int} {ps:List Par} (hp:ParsOk ps) {p:Dpl} (h:p∈docL cs w ps):∃ (j:Nat) (q:Par) (i:Nat),p.1=j∧ps[j]?=some q∧p.2.i=i∧i<(splT q.t).length:=by
 obtain ⟨j,hj,h2⟩:=List.mem_flatMap.1 h;have hj:j<ps.length:=by simpa using hj
 obtain ⟨i,hi⟩:=List.mem_iff_getElem?.1 h2;obtain ⟨a,b,c⟩:=paraK_at hp (List.getElem?_eq_getElem hj) hi;exact ⟨j,ps[j],i,a,List.getElem?_eq_getElem hj,b,c⟩
theorem b40 (cs:List Cor) (hcs:CorsOk2 cs) (w:Int) (hw:0≤w∧w≤1000) (pn:List Cor) (ps:List Par) (hp:ParsOk ps) (fr up:Int):Bt 40 [.agg (docRow w pn ps),.sl 9 (cs.map corRow),.int .i64 fr,.int .i64 up] (.p (.str (ba (copyN cs w ps fr up)))):=by
 have q:=b39 cs hcs w hw pn ps hp;have hl:=allK_len (cs:=cs) (w:=w) hp ps.length;have h3:=hp.1;have hll:(docL cs w ps).length≤36:=by unfold docL;omega
 have hrow:=fun p h=>@docL_row cs w ps hp p h
 have hnn:=fun x h=>@docL_nn cs w ps hp x h
 unfold copyN;obtain ⟨L,eL⟩:=gn (docL cs w ps);simp only [eL] at q hll hrow hnn ⊢;have hcf:=fun k=>cpF_b hp fr up 3 (by omega) (L.take k) ⟨0,-1,[]⟩ (fun p h=>by have:=hnn p (List.mem_of_mem_take h);omega) (Int.le_refl _) (by dsimp only;omega)
 have hstep:∀ k p,L[k]?=some p→cpF ps fr up (L.take (k+1))=cpS ps fr up (cpF ps fr up (L.take k)) p:=by
  intro k p e;rw [List.take_add_one,e];simp [cpF]
 refine best mixed fn40 ok40 (by simp [docRow]) ?_;simp only [docRow] at q;simp -dsimp [ac40,docRow];refine cP q ?_;simp -dsimp;refine loopC L.length (fun k=>⟨[(2,.p (.int .i64 fr)),(3,.p (.int .i64 up)),(4,.ptr (4,0) 3 0 0),(9,.p (.sl 6 (L.map dplRow))),(10,.p (.str (ba (cpF ps fr up (L.take k)).acc))),(11,.p (.int .i64 (cpF ps fr up (L.take k)).last)),(12,.p (.int .i64 k))],[((4,0),.box [.p (.int .i64 w),.p (.sl 3 (pn.map pinRow)),.p (.sl 4 (ps.map parRow))])]⟩) (fun _=>True) (fun k hk _=>?_) trivial (by simp [cpF,ba])
 by_cases h:k<L.length
 ·obtain ⟨p,ep⟩:=gn L[k];obtain ⟨j,q0,i,e1,e2,e3,e4⟩:=hrow p (by rw [←ep];simp);obtain ⟨⟨t,s⟩,eq0⟩:=gn q0;subst eq0;have ht12:=(hp.2 ⟨t,s⟩ (List.mem_of_getElem? e2)).1;obtain ⟨hjl,e2'⟩:=List.getElem?_eq_some_iff.1 e2;dsimp only at e4 ht12;have hs:=hstep k p (by rw [List.getElem?_eq_getElem h,ep])
  obtain ⟨b1,b2,b3,b4⟩:=hcf k;have ecp:(L.take k).foldl (cpS ps fr up) ⟨0,-1,[]⟩=cpF ps fr up (L.take k):=rfl;rw [ecp] at b1 b2 b3 b4;have hkl:(L.take k).length=k:=by simp;omega
  rw [hkl] at b1 b4;obtain ⟨p1,pi,pf,pl,px,pw⟩:=p
  dsimp only at e1 e3;subst e1 e3;rw [hs];obtain ⟨⟨n,last,acc⟩,eZ⟩:=gn (cpF ps fr up (L.take k))
  rw [eZ] at b1 b2 b3 b4 ⊢;dsimp only at b1 b2 b3 b4 ⊢;have hn:n=k:=by omega
  subst hn;simp only [List.length_nil,Nat.zero_add] at b4;have wk:R ((k:Int)+1):=rO (by omega)
  by_cases c1:(k:Int)<fr
  ·have hS:cpS ps fr up ⟨k,last,acc⟩ (j,⟨i,pf,pl,px,pw⟩)=⟨(k:Int)+1,last,acc⟩:=by
    simp only [cpS];rw [if_neg (by omega)]
   rw [hS];simp -dsimp [h,c1,wr wk]
  ·by_cases c2:up≤(k:Int)
   ·have hS:cpS ps fr up ⟨k,last,acc⟩ (j,⟨i,pf,pl,px,pw⟩)=⟨(k:Int)+1,last,acc⟩:=by
     simp only [cpS];rw [if_neg (by omega)]
    rw [hS];simp -dsimp [h,c1,c2,wr wk]
   ·have hgk:ps[((j:Nat):Int).toNat]?=some ⟨t,s⟩:=by rw [Int.toNat_natCast];exact e2
    have hS:cpS ps fr up ⟨k,last,acc⟩ (j,⟨i,pf,pl,px,pw⟩)=⟨(k:Int)+1,j,acc++((if 0≤last then List.replicate ((j:Int) - last).toNat 10 else [])++cluT t i)⟩:=by
     simp only [cpS];rw [if_pos (by omega),hgk]
    rw [hS];have hlt:=sA_lt e4;have hg:=sA_get e4;have hg2:=hg;rw [List.getD_eq_getElem?_getD,List.getElem?_eq_getElem e4,Option.getD_some] at hg2;have hclu:=cluT_eq e4
    obtain ⟨a,ea⟩:=gn (sA t i);obtain ⟨b,eb⟩:=gn (sA t (i+1));simp only [ea,eb] at hlt hg2 hclu;have hcut:=ba_cut t a b hlt.2.1
    have hab:a≤b:=by omega
    have hXl:((t.take b).drop a).length≤12:=by simp;omega
    obtain ⟨X,eX⟩:=gn ((t.take b).drop a);rw [eX] at hcut hclu hXl;rw [hclu];have q33:=b33 t (by omega)
    dsimp only
    by_cases c3:0≤last
    ·rw [if_pos c3];simp -dsimp [h,c1,c2,ep,dplRow,c3];refine loopC (((j:Int) - last).toNat) (fun m=>⟨[(2,.p (.int .i64 fr)),(3,.p (.int .i64 up)),(4,.ptr (4,0) 3 0 0),(9,.p (.sl 6 (L.map dplRow))),(10,.p (.str (ba (acc++List.replicate m 10)))),(12,.p (.int .i64 k)),(13,.ptr (13,0) 6 0 0),(14,.p (.int .i64 (last+m)))],[((4,0),.box [.p (.int .i64 w),.p (.sl 3 (pn.map pinRow)),.p (.sl 4 (ps.map parRow))]),((13,0),.box [.p (.int .i64 j),.p (.int .i64 i),.p (.int .i64 pf),.p (.int .i64 pl),.p (.int .i64 px),.p (.int .i64 pw)])]⟩) (fun _=>True) (fun m hm _=>?_) trivial (by simp)
     by_cases c4:m<((j:Int) - last).toNat
     ·have c5:last+(m:Int)<j:=by omega
      have b10:(⟨#[10]⟩:ByteArray)=ba [10]:=rfl;obtain ⟨Y,eY⟩:∃ Y:List UInt8,acc++List.replicate m 10=Y:=⟨_,rfl⟩;have hYl:Y.length=acc.length+m:=by rw [←eY];simp
      have hYs:acc++List.replicate (m+1) (10:UInt8)=Y++[10]:=by rw [List.replicate_succ',←List.append_assoc,eY]
      rw [eY,hYs];have l1:Y.length+1≤9223372036854775807:=by omega
      have wm:R (last+(m:Int)+1):=rO (by omega);simp -dsimp [c5,b10,ba_app,l1,wr wm,c4];omega
     ·have c6:m=((j:Int) - last).toNat:=by omega
      subst c6;obtain ⟨Y,eY⟩:∃ Y:List UInt8,acc++List.replicate ((j:Int) - last).toNat 10=Y:=⟨_,rfl⟩;have hYl:Y.length=acc.length+((j:Int) - last).toNat:=by rw [←eY];simp
      obtain ⟨q7,eq7⟩:=gn (last+((((j:Int) - last).toNat:Nat):Int));have c5:¬q7<(j:Int):=by omega
      have l2:Y.length+X.length≤9223372036854775807:=by omega
      rw [eY,←List.append_assoc,eY,eq7];simp -dsimp [c5,hjl,e2',parRow];refine cP q33 ?_;simp -dsimp [e4,hg2,spRow,hlt.2.1,hab,hcut,ba_app,l2,wr wk,h]
    ·rw [if_neg c3];have l2:acc.length+X.length≤9223372036854775807:=by omega
     simp -dsimp [h,c1,c2,ep,dplRow,c3,hjl,e2',parRow];refine cP q33 ?_;simp -dsimp [e4,hg2,spRow,hlt.2.1,hab,hcut,ba_app,l2,wr wk,h]
 ·have:k=L.length:=by omega
  subst this;rw [List.take_length];simp -dsimp [h]
end
section
set_option maxHeartbeats 1000000
attribute [local simp ↓] oneI oneS oneSS oneSp oneN oneC
attribute [local simp] ba_size wb ba_at w1
theorem pcF_last (t:List UInt8) (Fs LV:List Int) (k:Nat):(pcF t Fs LV (k+1)).2=kndK t Fs LV k:=rfl
theorem b13 (cs:List Cor) (hcs:CorsOk2 cs) (t:List UInt8) (hl:t.length≤1000):Bt 13 [.sl 9 (cs.map corRow),.str (ba t)] (.p (.sl 3 ((piecesN cs t).map i3Row))):=by
 refine best mixed fn13 ok13 (by simp) ?_;have q1:=b33 t (by omega);have q2:=b34 cs hcs.one t (by omega);have q3:=b35 t (by omega);have hsl:=splT_len t;have hFl:(fontsN cs t).length=(splT t).length:=by simp [fontsN]
 have hLl:=levT_len t;unfold piecesN;obtain ⟨Fs,eF⟩:=gn (fontsN cs t);obtain ⟨LV,eL⟩:=gn (levT t);rw [eF] at q2 hFl;rw [eL] at q3 hLl;rw [eF,eL];simp -dsimp [ac13];refine cP q1 ?_;simp -dsimp;refine cP q2 ?_;simp -dsimp;refine cP q3 ?_;simp -dsimp;refine loopE (splT t).length (fun k (c:Nat)=>⟨[(1,.p (.str (ba t))),(5,.p (.sl 2 ((splT t).map spRow))),(6,.p (.sl 1 (Fs.map intRow))),(7,.p (.sl 1 (LV.map intRow))),(8,.ref (98,c) 3 0 (pcF t Fs LV k).1.length),(9,.p (.bool (!(pcF t Fs LV k).2.1))),(10,.p (.int .i64 k))],[((98,c),.sl 80 3 ((pcF t Fs LV k).1.map i3Row))]⟩) (fun _ _=>True) 0 (fun k c hk _=>?_) trivial (by simp [pcF])
 by_cases h:k<(splT t).length
 ·obtain ⟨⟨a,b⟩,ex⟩:=gn ((splT t)[k]);obtain ⟨hab,hb,h6⟩:=splT_mem (t:=t) (a:=a) (b:=b) (by rw [←ex];simp);have exd:(splT t).getD k (0,0)=(a,b):=by simp [h,ex]
  have q4:=b37 t a b hab hb (by omega);have hbl:=baseT_le hab (t:=t);have wk:R ((k:Int)+1):=rO (by omega);have hkF:k<Fs.length:=by omega
  have haL:a<LV.length:=by omega
  obtain ⟨f,ef⟩:=gn Fs[k];obtain ⟨v,ev⟩:=gn LV[a];have hkn:kndK t Fs LV k=(decide (clsT t (baseT t a b)=1),f,v):=by unfold kndK;rw [exd];simp [hkF,ef,haL,ev]
  have hne:=pcF_ne t Fs LV k;have hpl:=pcF_len t Fs LV k;have hs:pcF t Fs LV (k+1)=(if (kndK t Fs LV k).1=true then (pcF t Fs LV k).1 else if kndK t Fs LV k=(pcF t Fs LV k).2 then setTo (pcF t Fs LV k).1 ((splT t).getD k (0,0)).2 else (pcF t Fs LV k).1++[((((splT t).getD k (0,0)).1:Int),(((splT t).getD k (0,0)).2:Int),(kndK t Fs LV k).2.1)],kndK t Fs LV k):=rfl;have hprev:(pcF t Fs LV k).2.1=false→∃ (p:Nat) (hp:p<(splT t).length) (a' b':Nat) (hpF:p<Fs.length) (haL':a'<LV.length),(k:Int) - 1=p∧(splT t)[p]=(a',b')∧Fs[p]=(pcF t Fs LV k).2.2.1∧LV[a']=(pcF t Fs LV k).2.2.2:=by
   intro hf;cases k with
   | zero=>simp [pcF] at hf
   | succ p=>
    obtain ⟨⟨a',b'⟩,ex'⟩:∃ x,(splT t)[p]=x:=⟨_,rfl⟩;obtain ⟨hab',hb',_⟩:=splT_mem (t:=t) (a:=a') (b:=b') (by rw [←ex'];simp);have exd':(splT t).getD p (0,0)=(a',b'):=by simp [show p<(splT t).length by omega,ex']
    have i1:p<Fs.length:=by omega
    have i2:a'<LV.length:=by omega
    refine ⟨p,by omega,a',b',i1,i2,by omega,ex',?_,?_⟩
    ·rw [pcF_last];unfold kndK;simp [i1]
    ·rw [pcF_last];unfold kndK;rw [exd'];simp [i2]
  rw [exd,hkn] at hs;obtain ⟨P,eP⟩:=gn (pcF t Fs LV k)
  obtain ⟨o,l1,l2,l3⟩:=P;rw [eP] at hs hne hpl hprev ⊢;dsimp only at hs hne hpl hprev ⊢;have hbt:baseT t a b<t.length:=by omega
  have hcl:clsN (cT t (baseT t a b))=clsT t (baseT t a b):=rfl;have q5:=b36 (cT t (baseT t a b));rw [hcl] at q5;have hcT:((bT t (baseT t a b)).toNat:Int)=cT t (baseT t a b):=rfl
  have wcT:IntKind.i64.wrap (cT t (baseT t a b))=cT t (baseT t a b):=wr ⟨by unfold cT;omega,by unfold cT;have:=(bT t (baseT t a b)).toNat_lt;omega⟩
  by_cases he:clsT t (baseT t a b)=1
  ·rw [if_pos (by simp [he])] at hs;rw [hs];simp -dsimp [h,ex,spRow];refine call_p q4 (by simp [spRow]) (by simp) ?_;simp -dsimp [hbt,hcT,wcT];refine cP q5 ?_;simp -dsimp [h,he,wr wk]
  ·have hd:decide (clsT t (baseT t a b)=1)=false:=by simp [he]
   rw [hd] at hs;simp only [Bool.false_eq_true,if_false] at hs;have m1:o.length+1≤maxLen:=by unfold maxLen;omega
   have m2:(o.length+1)*24≤140737488355328:=by omega
   cases l1 with
   | true=>
    rw [if_neg (by simp only [Prod.mk.injEq];exact fun q=>Bool.noConfusion q.1)] at hs;rw [hs];simp -dsimp [h,ex,spRow];refine call_p q4 (by simp [spRow]) (by simp) ?_;simp -dsimp [hbt,hcT,wcT];refine cP q5 ?_;simp -dsimp [h,ex,spRow,hkF,ef,he,intRow,wr wk,m1,m2,i3Row,List.range,List.range.loop]
   | false=>
    obtain ⟨p,hp,a',b',hpF,haL',ep,ex',ef',ev'⟩:=hprev rfl;have wp:R (p:Int):=rO (by omega)
    by_cases h1:f=l2
    ·by_cases h2:v=l3
     ·subst h1 h2;rw [if_pos rfl] at hs;obtain ⟨o',⟨x,y,z⟩,rfl⟩:∃ o' u,o=o'++[u]:=⟨o.dropLast,o.getLast (hne rfl),(List.dropLast_concat_getLast _).symm⟩
      have hset:setTo (o'++[(x,y,z)]) b=o'++[(x,(b:Int),z)]:=by simp [setTo]
      rw [hset] at hs;rw [hs];have wl:R ((o'.length:Int)+1 - 1):=⟨by omega,by simp at hpl;omega⟩
      have el:(o'.length:Int)+1 - 1=o'.length:=by omega
      have hlt:(o'.length:Int)<o'.length+1:=by omega
      have wl2:R (o'.length:Int):=⟨by omega,by simp at hpl;omega⟩;simp -dsimp [h,ex,spRow];refine call_p q4 (by simp [spRow]) (by simp) ?_;simp -dsimp [hbt,hcT,wcT];refine cP q5 ?_;simp -dsimp [h,ex,spRow,hkF,ef,haL,ev,he,intRow,wr wk,wr wl,el,wr wl2,hlt,i3Row,ep,wr wp,hp,ex',hpF,ef',haL',ev']
     ·rw [if_neg (by simp only [Prod.mk.injEq];exact fun q=>h2 q.2.2)] at hs;rw [hs];simp -dsimp [h,ex,spRow];refine call_p q4 (by simp [spRow]) (by simp) ?_;simp -dsimp [hbt,hcT,wcT];refine cP q5 ?_;simp -dsimp [h,ex,spRow,hkF,ef,haL,ev,he,intRow,wr wk,m1,m2,i3Row,List.range,List.range.loop,ep,wr wp,hp,ex',hpF,ef',haL',ev',h1,h2]
    ·rw [if_neg (by simp only [Prod.mk.injEq];exact fun q=>h1 q.2.1)] at hs;rw [hs];simp -dsimp [h,ex,spRow];refine call_p q4 (by simp [spRow]) (by simp) ?_;simp -dsimp [hbt,hcT,wcT];refine cP q5 ?_;simp -dsimp [h,ex,spRow,hkF,ef,haL,ev,he,intRow,wr wk,m1,m2,i3Row,List.range,List.range.loop,ep,wr wp,hp,ex',hpF,ef',haL',ev',h1]
 ·have:k=(splT t).length:=by omega
  subst this;have ht:List.take (pcF t Fs LV (splT t).length).1.length ((pcF t Fs LV (splT t).length).1.map i3Row)=(pcF t Fs LV (splT t).length).1.map i3Row:=List.take_of_length_le (by simp);simp -dsimp [h,ht]
end
section
set_option maxHeartbeats 1000000
attribute [local simp ↓] oneI oneSp onePl oneD2 oneC onePa onePi
attribute [local simp] ba_size
theorem b14 (cs:List Cor) (hcs:CorsOk2 cs) (w:Int) (hw:0≤w∧w≤1000) (pn:List Cor) (ps:List Par) (hp:ParsOk ps) (a b:Int):Bt 14 [.agg (docRow w pn ps),.sl 9 (cs.map corRow),.agg [.int .i64 a,.int .i64 b]] (.p (.bool true)):=by
 have q18:=b18 cs hcs w hw pn ps hp a b;have q38:=b38 cs hcs w hw pn ps hp a b;have q15:=b15 cs hcs w hw pn ps hp;have q39:=b39 cs hcs w hw pn ps hp;have hl:=allK_len (cs:=cs) (w:=w) hp ps.length;have h3:=hp.1;have hll:(docL cs w ps).length≤36:=by unfold docL;omega
 have q16:=b16 (docL cs w ps) (by omega);have q17:=b17 cs hcs w hw pn ps hp a b;have q40:=b40 cs hcs w hw pn ps hp a b;obtain ⟨C,eC⟩:=gn (copyN cs w ps a b);obtain ⟨m,em⟩:=gn (max (pickI a b (docL cs w ps)) 0);obtain ⟨d,ed⟩:=gn (decide (0≤pickI a b (docL cs w ps)));obtain ⟨L,eL⟩:=gn (docL cs w ps);rw [em,ed] at q18 q38;rw [eC] at q17 q40;rw [eL] at q15 q39 q16;obtain ⟨X,eX⟩:=gn (L.map dplRow)
 obtain ⟨Y,eY⟩:=gn (cs.map corRow);obtain ⟨Z,eZ⟩:=gn (ba C);have o1:(X.all fun r=>r.all PV.one)=true:=by rw [←eX];exact oneD2 _
 have o2:(Y.all fun r=>r.all PV.one)=true:=by rw [←eY];exact oneC _
 rw [eX] at q15 q39 q16;rw [eZ] at q17 q40;rw [eY] at q15 q39 q17 q40 q18 q38 ⊢;simp only [docRow] at q18 q38 q15 q39 q17 q40;refine best mixed fn14 ok14 (by simp [docRow]) ?_;simp -dsimp [ac14,docRow];refine cP q18 ?_;simp -dsimp;refine cP q38 ?_;simp -dsimp;refine cP q15 ?_;simp -dsimp;refine cP q39 ?_;simp -dsimp;refine cP q16 ?_;simp -dsimp;refine cP q17 ?_;simp -dsimp;refine cP q40 ?_;simp -dsimp
end
section
set_option maxHeartbeats 1000000
attribute [local simp ↓] oneI oneSp onePl oneD2 oneC onePa onePi oneI3
attribute [local simp] ba_size
theorem law3 (F:List (List (List Int))) (D:List (List Int)) (hF:∀ x∈F,x.length≤9223372036854775807∧∀ y∈x,∀ n∈y,R n) (hD:∀ x∈D,x.length≤9223372036854775807∧∀ n∈x,R n) (n0 n1 b0 b1:Int) (h0:-128≤b0∧b0<128) (h1:-128≤b1∧b1<128) :
  Bt 3 [.agg [.sl 1 (F.map lllRow),.sl 1 (D.map llRow)],.agg [.int .i64 n0,.int .i64 n1],.agg [.int .i8 b0,.int .i8 b1]] (.p (.bool true)):=by
 obtain ⟨cs,w,ps,⟨hc,hco,hw1,hw2,hps⟩,q10⟩:=b10 F D hF hD;have hcs:CorsOk2 cs:=⟨by omega,fun c h=>(hco c h).fine⟩;have q14:=b14 cs hcs w ⟨by omega,by omega⟩ cs ps hps;have w0:R b0:=⟨by omega,by omega⟩;have w1:R b1:=⟨by omega,by omega⟩;have h3:=hps.1;simp only [docRow] at q10 q14;refine best mixed fn3 ok3 (by simp) ?_;simp -dsimp [ac3];refine cP b9 ?_;simp -dsimp;refine cP q10 ?_;simp -dsimp;refine loopC ps.length (fun k=>⟨[(4,.ptr (4,0) 2 0 0),(5,.ptr (5,0) 2 0 0),(7,.p (.bool true)),(8,.ptr (8,0) 3 0 0),(9,.p (.sl 9 (cs.map corRow))),(19,.p (.sl 4 (ps.map parRow))),(20,.p (.int .i64 ps.length)),(21,.p (.int .i64 k))],
  [((4,0),.box [.p (.int .i64 n0),.p (.int .i64 n1)]),((5,0),.box [.p (.int .i8 b0),.p (.int .i8 b1)]),((8,0),.box [.p (.int .i64 w),.p (.sl 3 (cs.map pinRow)),.p (.sl 4 (ps.map parRow))])]⟩) (fun _=>True) (fun k hk _=>?_) trivial (by simp)
 by_cases h:k<ps.length
 ·obtain ⟨⟨t,s⟩,ex⟩:=gn ps[k];have ht12:=(hps.2 ⟨t,s⟩ (by rw [←ex];simp)).1;dsimp only at ht12;have wk:R ((k:Int)+1):=rO (by omega)
  have q12:=b12 cs hcs t (by omega);have q13:=b13 cs hcs t (by omega);have hpl:(piecesN cs t).length≤1000000:=by
   have:=pcF_len t (fontsN cs t) (levT t) (splT t).length;have:=splT_len t;unfold piecesN;omega
  have q11:=b11 (piecesN cs t) hpl;obtain ⟨X,eX⟩:=gn ((piecesN cs t).map i3Row);have o1:(X.all fun r=>r.all PV.one)=true:=by rw [←eX];exact oneI3 _
  rw [eX] at q12 q13 q11;simp -dsimp [h,ex,parRow];refine cP q12 ?_;simp -dsimp;refine cP q13 ?_;simp -dsimp;refine cP q11 ?_;simp -dsimp [wr wk,h]
 ·have:k=ps.length:=by omega
  subst this;simp -dsimp [h];refine cP (q14 n0 n1) ?_;simp -dsimp [wr w0,wr w1];refine cP (q14 b0 b1) ?_;simp -dsimp;obtain ⟨l0,e0⟩:=gn (IntKind.i64.wrap (((n0 % 2 ^ IntKind.i64.bits).toNat &&& 7 % 2 ^ IntKind.i64.bits:Nat):Int));obtain ⟨l1,e1⟩:=gn (IntKind.i64.wrap (((n1 % 2 ^ IntKind.i64.bits).toNat &&& 31 % 2 ^ IntKind.i64.bits:Nat):Int));rw [e0,e1];refine cP (q14 l0 l1) ?_;simp -dsimp
end
end Go.Abs.A30
