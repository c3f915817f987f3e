/- A part of the proof: an abstract reading of the model, contracts of functions. -/
import Derived.Test.YtlkbeomimbohlaaGreatL3x4
set_option linter.unusedVariables false
set_option linter.unusedSimpArgs false
namespace Go.Abs.A30
open Go Go.Abs Go.Proofs
set_option maxRecDepth 100000
set_option linter.unusedVariables false
set_option linter.unusedSimpArgs false
attribute [local simp ↓] awp_skip awp_seq awp_cond awp_block awp_exit awp_ret awp_reg awp_draw awp_ghost awp_loop awp_rfun awpR_nil awpR_cons awpX_nil awpX_0 awpX_1 awpX_2 awpI_eq awpI_t awpI_f awpStep_eq
attribute [local simp] condL_true condL_false condL_dec evDel evV evN evS evA initFr Ghost.app Fr.var Fr.blk Fr.ff FF.val Abs.look Fr.app Fr.erase Fr.noSlot AV.noSlot AV.noSlotL Blk.noSlot Fr.spoken AV.fz AV.fzL Blk.fz binV binI shI binS unV fillA FF.parts FF.vals headO intO boundO lenV scalarEq leavesEq AV.aggc AV.cells FF.read FF.rows AV.one PV.one chunk freshB newS pickV retK evRs evRl evR resOf mkTup mkAgg allP cloOf okP_nil okX_p okX okP addN Del.noSlot Del.owners Rnd reify_p normM insM Fr.back Fr.backV Fr.setPs normV insV
attribute [local simp] renF Fr.trim Blk.trim AV.rn AV.rnL Blk.rn AV.among AV.amongL Blk.among okF retM fixS BIG initFF
attribute [local simp] FF.reify FF.reifyL PV.flat
section
attribute [local simp] ba_size wb ba_at w1
set_option maxHeartbeats 400000
attribute [local simp] evC
attribute [local simp ↓] oneN oneI oneSp oneB
def d3K (t:List UInt8) (b:Int) (D:List Int) (k:Nat):List Int:=(List.range D.length).map fun i=>if i<k∧clsT t i=1 then b else D.getD i 0
theorem d3K_len {t:List UInt8} {b:Int} {D:List Int} {k:Nat}:(d3K t b D k).length=D.length:=by simp [d3K]
theorem d3K_0 (t:List UInt8) (b:Int) (D:List Int):d3K t b D 0=D:=by
 apply List.ext_getElem (by simp [d3K])
 intro i h1 h2;simp [d3K,h2]
theorem d3K_yes {t:List UInt8} {b:Int} {D:List Int} {k:Nat} (h:clsT t k=1):d3K t b D (k+1)=(d3K t b D k).set k b:=by
 apply List.ext_getElem (by simp [d3K])
 intro i h1 h2;have hi:i<D.length:=by simpa [d3K] using h1
 rw [List.getElem_set];simp only [d3K,List.getElem_map,List.getElem_range]
 by_cases e:k=i
 ·subst e;rw [if_pos ⟨by omega,h⟩,if_pos rfl]
 ·rw [if_neg e]
  by_cases e2:i<k∧clsT t i=1
  ·rw [if_pos ⟨by omega,e2.2⟩,if_pos e2]
  ·rw [if_neg (fun q=>e2 ⟨by omega,q.2⟩),if_neg e2]
theorem d3K_no {t:List UInt8} {b:Int} {D:List Int} {k:Nat} (h:¬clsT t k=1):d3K t b D (k+1)=d3K t b D k:=by
 unfold d3K
 apply List.map_congr_left
 intro i _
 by_cases e:i=k
 ·subst e;rw [if_neg (fun q=>h q.2),if_neg (fun q=>h q.2)]
 ·by_cases e2:i<k∧clsT t i=1
  ·rw [if_pos ⟨by omega,e2.2⟩,if_pos e2]
  ·rw [if_neg (fun q=>e2 ⟨by omega,q.2⟩),if_neg e2]
theorem x87c (t:List UInt8) (hl:t.length≤1000000) (b:Int) (D:List Int) (hD:D.length=t.length) :
  awp Tryz.prog xc63c (retK [RO.tmp 4] (.own (fun s=>.ref s 1 0 t.length) (.sl 3 1 ((d3K t b D t.length).map intRow)))) ⟨[(0,.p (.str (ba t))),(5,.ptr (5,0) 1 0 0),(6,.ptr (6,0) 1 0 0)],[((5,0),.box [.p (.int .i64 b)]),((6,0),.box [.ref (22,0) 1 0 t.length]),((22,0),.sl 3 1 (D.map intRow))]⟩:=by
 have hd:(ba t).data.toList=t:=by simp [ba]
 have h0:t.length≤9223372036854775807:=by omega
 simp -dsimp [xc63c,hd,h0];refine loopC t.length (fun k=>⟨[(5,.ptr (5,0) 1 0 0),(6,.ptr (6,0) 1 0 0),(88,.p (.sl 1 (t.map byteRow))),(89,.p (.int .i64 t.length)),(90,.p (.int .i64 k))],[((5,0),.box [.p (.int .i64 b)]),((6,0),.box [.ref (22,0) 1 0 t.length]),((22,0),.sl 3 1 ((d3K t b D k).map intRow))]⟩) (fun _=>True) (fun k hk _=>?_) trivial (by simp [d3K_0]);have hml:=map_set_row (d3K t b D k) k b;have hMl:(d3K t b D k).length=t.length:=by rw [d3K_len,hD]
 by_cases h:k<t.length
 ·obtain ⟨x,ex⟩:=gn t[k];have hx:cT t k=(x.toNat:Int):=by simp [cT,bT,h,ex]
  have wk:R ((k:Int)+1):=rO (by omega);have wx:R (x.toNat:Int):=⟨by omega,by have:=x.toNat_lt;omega⟩;have hyes:=d3K_yes (t:=t) (b:=b) (D:=D) (k:=k);have hno:=d3K_no (t:=t) (b:=b) (D:=D) (k:=k);have hcl:clsT t k=clsN x.toNat:=by rw [←hx];rfl
  rw [hcl] at hyes hno;obtain ⟨M,eM⟩:=gn (d3K t b D k)
  rw [eM] at hml hMl hyes hno ⊢;have hkM:k<M.length:=by omega
  have htl:(intRow M[k]).tail=[]:=rfl;simp -dsimp [h,ex,byteRow,wr wx];refine cP (b24 x.toNat) ?_
  by_cases h1:clsN x.toNat=1
  ·rw [hyes h1,←hml];simp -dsimp [h1,h,hkM,hMl,htl,wr wk,-List.all_eq_true,-List.map_set]
  ·rw [hno h1];simp -dsimp [h1,h,hkM,hMl,htl,wr wk,-List.all_eq_true,-List.map_set]
 ·have:k=t.length:=by omega
  subst this;simp -dsimp [h,resOf,hMl];exact okV_ref 1 0 _
theorem pcs_get {q:Int→Bool} {l:List Int} {k:Nat} {s e:Nat} {key:Bool} (h:(pcs q l)[k]?=some (s,e,key)):s<e∧e≤l.length:=by
 have hP:=pcsF_get q l l.length 0 (by omega) (by omega) k;have hpc:pcsF q l l.length 0=pcs q l:=rfl;rw [hpc] at hP;have hk:k<(pcs q l).length:=(List.getElem?_eq_some_iff.1 h).1
 have h1:=hP.2.1 hk;have h2:=hP.1 h1;rw [h2] at h;have h3:=Option.some.inj h
 have h4:=congrArg Prod.fst h3;have h5:=congrArg (fun x=>x.2.1) h3;simp only at h4 h5;have h6:=pnx_le q l (i:=pst q l k 0)
 rw [←pst_succ] at h6;have:=h6.2 h1
 omega
def d2V (b:Int) (D:List Int) (s e:Nat):Int:=
 if (if 0<s then D.getD (s - 1) 0 else b)=(if e<D.length then D.getD e 0 else b) then (if 0<s then D.getD (s - 1) 0 else b) else b
def d2S (b:Int) (D:List Int) (x:Nat×Nat×Bool):List Int:=if x.2.2=true then setR D x.1 x.2.1 (d2V b D x.1 x.2.1) else D
def d2K (b:Int) (P:List (Nat×Nat×Bool)) (D:List Int):Nat→List Int
 | 0=>D
 | k+1=>d2S b (d2K b P D k) (P.getD k (0,0,false))
theorem d2K_len (b:Int) (P:List (Nat×Nat×Bool)) (D:List Int):∀ k,(d2K b P D k).length=D.length
 | 0=>rfl
 | k+1=>by
  rw [d2K,d2S];split
  ·rw [setR_len,d2K_len b P D k]
  ·exact d2K_len b P D k
def neuN (x:Int):Bool:=decide (x=0)
theorem x87d {Kc:AE→Fr→Prop} (t:List UInt8) (hl:t.length≤1000000) (b v:Int) (M:List Int) (hM:M.length=t.length) (s e:Nat) (hse:s<e) (he:e≤t.length) (a0 a44:PV)
  (hK:Kc .normal ⟨[(0,.p a0),(5,.ptr (5,0) 1 0 0),(6,.ptr (6,0) 1 0 0),(10,.ptr (10,0) 2 0 0),(14,.p (.int .i64 v)),(15,.p (.int .i64 e)),(44,.p a44),(80,.p (.bool false))],[((5,0),.box [.p (.int .i64 b)]),((6,0),.box [.ref (22,0) 1 0 t.length]),((10,0),.box [.p (.int .i64 s),.p (.int .i64 e)]),((22,0),.sl 3 1 ((setR M s e v).map intRow))]⟩) :
  awp Tryz.prog xc63d Kc ⟨[(0,.p a0),(5,.ptr (5,0) 1 0 0),(6,.ptr (6,0) 1 0 0),(10,.ptr (10,0) 2 0 0),(14,.p (.int .i64 v)),(44,.p a44)],[((5,0),.box [.p (.int .i64 b)]),((6,0),.box [.ref (22,0) 1 0 t.length]),((10,0),.box [.p (.int .i64 s),.p (.int .i64 e)]),((22,0),.sl 3 1 (M.map intRow))]⟩:=by
 simp -dsimp [xc63d];refine loopC (e - s) (fun n=>⟨[(0,.p a0),(5,.ptr (5,0) 1 0 0),(6,.ptr (6,0) 1 0 0),(10,.ptr (10,0) 2 0 0),(14,.p (.int .i64 v)),(15,.p (.int .i64 ((s+n:Nat):Int))),(44,.p a44)],[((5,0),.box [.p (.int .i64 b)]),((6,0),.box [.ref (22,0) 1 0 t.length]),((10,0),.box [.p (.int .i64 s),.p (.int .i64 e)]),((22,0),.sl 3 1 ((setR M s (s+n) v).map intRow))]⟩) (fun _=>True) (fun n hn _=>?_) trivial (by simp [setR_self]);obtain ⟨j,ej⟩:=gn (s+n);have ej2:s+(n+1)=j+1:=by omega
 rw [ej,ej2]
 by_cases hj:j<e
 ·have hs:=setR_succ M (a:=s) (j:=j) v (by omega);have hml:=map_set_row (setR M s j v) j v;rw [←hs] at hml;have hl3:(setR M s j v).length=t.length:=by simp [hM]
  obtain ⟨L,eL⟩:=gn (setR M s j v);rw [eL] at hml hl3 ⊢;have hjM:j<L.length:=by omega
  have hjt:j<t.length:=by omega
  have wj:R ((j:Int)+1):=rO (by omega);have hn2:n<e - s:=by omega
  have htl:(intRow L[j]).tail=[]:=rfl;simp -dsimp [hj,hjM,hjt,hl3,htl,hml,wr wj,hn2,-List.all_eq_true,-List.map_set]
 ·have hjb:j=e:=by omega
  subst hjb;simp -dsimp [hK]
theorem x87b (t:List UInt8) (hl:t.length≤1000000) (K:List Int) (hK:K.length=t.length) (b:Int) (D:List Int) (hD:D.length=t.length) :
  awp Tryz.prog xc63b (retK [RO.tmp 4] (.own (fun s=>.ref s 1 0 t.length) (.sl 3 1 ((d3K t b (d2K b (pcs neuN K) D (pcs neuN K).length) t.length).map intRow)))) ⟨[(0,.p (.str (ba t))),(1,.p (.sl 1 (K.map intRow))),(5,.ptr (5,0) 1 0 0),(6,.ptr (6,0) 1 0 0)],[((5,0),.box [.p (.int .i64 b)]),((6,0),.box [.ref (22,0) 1 0 t.length]),((22,0),.sl 3 1 (D.map intRow))]⟩:=by
 have q126:=b109 K 110 [];have hG:=g154 K 110 [] neuN (fun x _=>b110 x) (by omega);simp -dsimp [xc63b,↓ awpC_of xc63c];refine cP q126 ?_;simp -dsimp [↓ awpC_of xc63c];have hlen:=d2K_len b (pcs neuN K) D;refine rfunL_rule rfl rfl hG (fun k F=>F=⟨[(0,.p (.str (ba t))),(5,.ptr (5,0) 1 0 0),(6,.ptr (6,0) 1 0 0),(44,.p (.clo (.func 154) [] [.ro [.sl 1 (K.map intRow)],.ro [.clo (.func 110) [] []]]))],[((5,0),.box [.p (.int .i64 b)]),((6,0),.box [.ref (22,0) 1 0 t.length]),((22,0),.sl 3 1 ((d2K b (pcs neuN K) D k).map intRow))]⟩) ?_ ?_ (by simp [d2K])
 ·rintro k z F hz rfl
  have hk:k<(pcs neuN K).length:=by have:=(List.getElem?_eq_some_iff.1 hz).1;simpa using this
  rw [List.getElem?_map,List.getElem?_eq_getElem hk] at hz;obtain ⟨⟨s,e,key⟩,ep⟩:=gn ((pcs neuN K)[k])
  rw [ep] at hz;simp at hz;subst hz;obtain ⟨hse,hen⟩:=pcs_get (q:=neuN) (l:=K) (k:=k) (s:=s) (e:=e) (key:=key) (by rw [List.getElem?_eq_getElem hk,ep])
  have hst:d2K b (pcs neuN K) D (k+1)=d2S b (d2K b (pcs neuN K) D k) (s,e,key):=by
   rw [d2K];simp [hk,ep]
  have hMl:(d2K b (pcs neuN K) D k).length=t.length:=by rw [hlen,hD]
  rw [hst];obtain ⟨M,eM⟩:=gn (d2K b (pcs neuN K) D k);rw [eM] at hMl ⊢;refine ⟨rfl,?_⟩;cases key with
  | false=>simp -dsimp [pcRow,d2S]
  | true=>
   have hv:d2S b M (s,e,true)=setR M s e (d2V b M s e):=rfl;rw [hv];have hen':e≤t.length:=by omega
   obtain ⟨v,ev⟩:=gn (d2V b M s e);rw [ev];unfold d2V at ev;rw [hMl] at ev;have ht4:List.take t.length (((setR M s e v).map intRow))=(setR M s e v).map intRow:=List.take_of_length_le (by simp [hMl])
   rcases Nat.eq_zero_or_pos s with h0 | h0
   ·have n0:¬0<s:=by omega
    have n1:¬0<(s:Int):=by omega
    rw [if_neg n0] at ev
    by_cases h1:e<t.length
    ·have h1':e<M.length:=by omega
     obtain ⟨w,ew⟩:=gn M[e];have ewd:M.getD e 0=w:=by simp [h1',ew]
     rw [if_pos h1,ewd] at ev
     by_cases h2:b=w
     ·rw [if_pos h2] at ev;subst h2;subst ev;simp -dsimp [pcRow,n0,n1,h1,h1',ew,intRow,↓ awpC_of xc63d];refine awpC_in (x87d t hl b _ M hMl _ e hse hen' _ _ ?_);simp -dsimp
     ·rw [if_neg h2] at ev;subst ev;simp -dsimp [pcRow,n0,n1,h1,h1',ew,intRow,h2,↓ awpC_of xc63d];refine awpC_in (x87d t hl b _ M hMl _ e hse hen' _ _ ?_);simp -dsimp
    ·rw [if_neg h1] at ev
     by_cases h2:b=b
     ·rw [if_pos h2] at ev;subst ev;simp -dsimp [pcRow,n0,n1,h1,intRow,h2,↓ awpC_of xc63d];refine awpC_in (x87d t hl b _ M hMl _ e hse hen' _ _ ?_);simp -dsimp
     ·rw [if_neg h2] at ev;subst ev;simp -dsimp [pcRow,n0,n1,h1,intRow,h2,↓ awpC_of xc63d];refine awpC_in (x87d t hl b _ M hMl _ e hse hen' _ _ ?_);simp -dsimp
   ·obtain ⟨p,rfl⟩:∃ p,s=p+1:=⟨s - 1,by omega⟩;have hp:p<M.length:=by omega
    have hpt:p<t.length:=by omega
    obtain ⟨u,eu⟩:=gn M[p];have eud:M.getD p 0=u:=by simp [hp,eu]
    have wp:R (p:Int):=rO (by omega);have p0:0<(p:Int)+1:=by omega
    rw [if_pos h0,Nat.add_sub_cancel,eud] at ev
    by_cases h1:e<t.length
    ·have h1':e<M.length:=by omega
     obtain ⟨w,ew⟩:=gn M[e];have ewd:M.getD e 0=w:=by simp [h1',ew]
     rw [if_pos h1,ewd] at ev
     by_cases h2:u=w
     ·rw [if_pos h2] at ev;subst h2;subst ev;simp -dsimp [pcRow,p0,hp,hpt,eu,wr wp,h1,h1',ew,intRow,↓ awpC_of xc63d];refine awpC_in (x87d t hl b _ M hMl _ e hse hen' _ _ ?_);simp -dsimp
     ·rw [if_neg h2] at ev;subst ev;simp -dsimp [pcRow,p0,hp,hpt,eu,wr wp,h1,h1',ew,intRow,h2,↓ awpC_of xc63d];refine awpC_in (x87d t hl b _ M hMl _ e hse hen' _ _ ?_);simp -dsimp
    ·rw [if_neg h1] at ev
     by_cases h2:u=b
     ·rw [if_pos h2] at ev;have h2':=h2.symm
      subst h2';subst ev;simp -dsimp [pcRow,p0,hp,hpt,eu,wr wp,h1,intRow,↓ awpC_of xc63d];refine awpC_in (x87d t hl b _ M hMl _ e hse hen' _ _ ?_);simp -dsimp
     ·rw [if_neg h2] at ev;subst ev;simp -dsimp [pcRow,p0,hp,hpt,eu,wr wp,h1,intRow,h2,↓ awpC_of xc63d];refine awpC_in (x87d t hl b _ M hMl _ e hse hen' _ _ ?_);simp -dsimp
 ·rintro F rfl
  simp -dsimp [↓ awpC_of xc63c];exact awpC_in (x87c t hl b _ (by rw [hlen,hD]))
def runK (K:List Int) (b:Int):Nat→Int
 | 0=>b
 | i+1=>if K.getD i 0=1∨K.getD i 0=2 then K.getD i 0 else runK K b i
def d1K (K:List Int) (b:Int) (k:Nat):List Int:=(List.range K.length).map fun i=>if i<k then runK K b (i+1) else 0
theorem d1K_len {K:List Int} {b:Int} {k:Nat}:(d1K K b k).length=K.length:=by simp [d1K]
theorem d1K_0 (K:List Int) (b:Int):d1K K b 0=zerosI K.length:=by
 apply List.ext_getElem (by simp [d1K,zerosI])
 intro i h1 h2;simp [d1K,zerosI]
theorem d1K_succ (K:List Int) (b:Int) (k:Nat):d1K K b (k+1)=(d1K K b k).set k (runK K b (k+1)):=by
 apply List.ext_getElem (by simp [d1K])
 intro i h1 h2;rw [List.getElem_set];simp only [d1K,List.getElem_map,List.getElem_range]
 by_cases e:k=i
 ·subst e;rw [if_pos (by omega),if_pos rfl]
 ·rw [if_neg e]
  by_cases e2:i<k
  ·rw [if_pos (by omega),if_pos e2]
  ·rw [if_neg (by omega),if_neg e2]
def dirT (t:List UInt8) (K:List Int):List Int:=d3K t (baseN t) (d2K (baseN t) (pcs neuN K) (d1K K (baseN t) K.length) (pcs neuN K).length) t.length
theorem dirT_len (t:List UInt8) (K:List Int):(dirT t K).length=K.length:=by unfold dirT;rw [d3K_len,d2K_len,d1K_len]
theorem b63 (t:List UInt8) (hl:t.length≤1000000) (K:List Int) (hK:K.length=t.length):Bt 63 [.str (ba t),.sl 1 (K.map intRow)] (.own (fun s=>.ref s 1 0 t.length) (.sl 3 1 ((dirT t K).map intRow))):=by
 refine best mixed fn63 ok63 (by simp) ?_;unfold dirT;obtain ⟨b,eb⟩:=gn (baseN t);have q86:=b62 t hl;rw [eb] at q86 ⊢;have m0:(t.length:Int)≤281474976710656:=by omega
 have e0:8*(t.length:Int)≤281474976710656:=by omega
 have f0:(t.length:Int)≤9223372036854775807:=by omega
 simp -dsimp [ac63,↓ awpC_of xc63b];refine cP q86 ?_;simp -dsimp [hK,m0,e0,f0,↓ awpC_of xc63b];have hz:=zerosI_rows t.length;refine loopC t.length (fun k=>⟨[(0,.p (.str (ba t))),(1,.p (.sl 1 (K.map intRow))),(5,.ptr (5,0) 1 0 0),(6,.ptr (6,0) 1 0 0),(7,.p (.int .i64 (runK K b k))),(24,.p (.sl 1 (K.map intRow))),(25,.p (.int .i64 t.length)),(26,.p (.int .i64 k))],[((5,0),.box [.p (.int .i64 b)]),((6,0),.box [.ref (22,0) 1 0 t.length]),((22,0),.sl 3 1 ((d1K K b k).map intRow))]⟩) (fun _=>True) (fun k hk _=>?_) trivial (by simp [d1K_0,runK,hK,hz])
 by_cases h:k<t.length
 ·have hkK:k<K.length:=by omega
  obtain ⟨x,ex⟩:=gn K[k];have exd:K.getD k 0=x:=by simp [hkK,ex]
  have wk:R ((k:Int)+1):=rO (by omega);have hs:=d1K_succ K b k;have hMl:(d1K K b k).length=t.length:=by rw [d1K_len,hK]
  have hr:runK K b (k+1)=if x=1∨x=2 then x else runK K b k:=by rw [runK,exd]
  have hml:=map_set_row (d1K K b k) k (runK K b (k+1));rw [←hs] at hml;obtain ⟨M,eM⟩:=gn (d1K K b k)
  rw [eM] at hml hMl ⊢;have hkM:k<M.length:=by omega
  have htl:(intRow M[k]).tail=[]:=rfl;obtain ⟨r,er⟩:=gn (runK K b k);obtain ⟨r',er'⟩:∃ r',runK K b (k+1)=r':=⟨_,rfl⟩;rw [er,er'] at hr;rw [er'] at hml;rw [er,er',←hml]
  by_cases h1:x=1
  ·rw [if_pos (.inl h1)] at hr;have:r'=1:=by rw [hr,h1]
   subst this;simp -dsimp [h,hkK,ex,intRow,h1,hMl,hkM,htl,wr wk,-List.all_eq_true,-List.map_set,↓ awpC_of xc63b]
  ·by_cases h2:x=2
   ·rw [if_pos (.inr h2)] at hr;have:r'=2:=by rw [hr,h2]
    subst this;simp -dsimp [h,hkK,ex,intRow,h1,h2,hMl,hkM,htl,wr wk,-List.all_eq_true,-List.map_set,↓ awpC_of xc63b]
   ·rw [if_neg (fun q=>q.elim h1 h2)] at hr;subst hr;simp -dsimp [h,hkK,ex,intRow,h1,h2,hMl,hkM,htl,wr wk,-List.all_eq_true,-List.map_set,↓ awpC_of xc63b]
 ·have:k=t.length:=by omega
  subst this;simp -dsimp [h,hK,↓ awpC_of xc63b];rw [hK];exact awpC_in (x87b t hl K hK b (d1K K b t.length) (by rw [d1K_len,hK]))
end
section
attribute [local simp] ba_size wb ba_at w1
set_option maxHeartbeats 400000
attribute [local simp] evC
attribute [local simp ↓] oneN oneI oneSp oneB
def levV (b k d:Int):Int:=if (d=2∧k=3)∨(d=1∧b=2) then 2 else if d=2 then 1 else 0
def levK (b:Int) (K D:List Int) (k:Nat):List Int:=(List.range D.length).map fun i=>if i<k then levV b (K.getD i 0) (D.getD i 0) else D.getD i 0
theorem levK_len {b:Int} {K D:List Int} {k:Nat}:(levK b K D k).length=D.length:=by simp [levK]
theorem levK_0 (b:Int) (K D:List Int):levK b K D 0=D:=by
 apply List.ext_getElem (by simp [levK])
 intro i h1 h2;simp [levK,h2]
theorem levK_at (b:Int) (K D:List Int) {k:Nat} (h:k<D.length):(levK b K D k)[k]'(by rw [levK_len];exact h)=D.getD k 0:=by simp [levK]
theorem levK_succ (b:Int) (K D:List Int) (k:Nat):levK b K D (k+1)=(levK b K D k).set k (levV b (K.getD k 0) (D.getD k 0)):=by
 apply List.ext_getElem (by simp [levK])
 intro i h1 h2;rw [List.getElem_set];simp only [levK,List.getElem_map,List.getElem_range]
 by_cases e:k=i
 ·subst e;rw [if_pos (by omega),if_pos rfl]
 ·rw [if_neg e]
  by_cases e2:i<k
  ·rw [if_pos (by omega),if_pos e2]
  ·rw [if_neg (by omega),if_neg e2]
theorem kinT_len (t:List UInt8):(kinT t).length=t.length:=kinK_len t _
def levT (t:List UInt8):List Int:=levK (baseN t) (kinT t) (dirT t (kinT t)) t.length
theorem levT_len (t:List UInt8):(levT t).length=t.length:=by unfold levT;rw [levK_len,dirT_len,kinT_len]
theorem b22 (t:List UInt8) (hl:t.length≤1000000):Bt 22 [.str (ba t)] (.p (.sl 1 ((levT t).map intRow))):=by
 refine best mixed fn22 ok22 (by simp) ?_;unfold levT;have q85:=b61 t hl;have q86:=b62 t hl;have hK:=kinT_len t;have q87:=b63 t hl (kinT t) hK;have hD:=dirT_len t (kinT t);rw [hK] at hD;obtain ⟨K,eK⟩:=gn (kinT t)
 obtain ⟨D,eD⟩:=gn (dirT t (kinT t));obtain ⟨b,eb⟩:=gn (baseN t);rw [eD] at q87 hD ⊢;rw [eK] at q85 q87 hK ⊢;rw [eb] at q86 ⊢;simp -dsimp [ac22];refine cP q85 ?_;simp -dsimp;refine cP q86 ?_;simp -dsimp;refine call_o q87 (by simp) (by simp) ?_;simp -dsimp;refine loopC t.length (fun k=>⟨[(3,.p (.sl 1 (K.map intRow))),(4,.p (.int .i64 b)),(5,.ref (14,0) 1 0 t.length),(15,.ref (14,0) 1 0 t.length),(16,.p (.int .i64 t.length)),(17,.p (.int .i64 k))],[((14,0),.sl 3 1 ((levK b K D k).map intRow))]⟩) (fun _=>True) (fun k hk _=>?_) trivial (by simp [levK_0]);have hMl:(levK b K D k).length=t.length:=by rw [levK_len,hD]
 by_cases h:k<t.length
 ·have hkK:k<K.length:=by omega
  obtain ⟨x,ex⟩:=gn K[k];have exd:K.getD k 0=x:=by simp [hkK,ex]
  obtain ⟨d,ed⟩:=gn (D.getD k 0);have wk:R ((k:Int)+1):=rO (by omega);have hs:=levK_succ b K D k;have hat:=levK_at b K D (k:=k) (by omega);rw [exd,ed] at hs;rw [ed] at hat;have hml:=map_set_row (levK b K D k) k (levV b x d)
  rw [←hs] at hml;obtain ⟨M,eM⟩:=gn (levK b K D k)
  simp only [eM] at hat;rw [eM] at hml hMl ⊢;have hkM:k<M.length:=by omega
  have htl:(intRow M[k]).tail=[]:=rfl;rw [←hml];have hrow:intRow M[k]=[.int .i64 d]:=by rw [hat];rfl
  unfold levV
  by_cases h1:d=2
  ·by_cases h2:x=3
   ·rw [if_pos (.inl ⟨h1,h2⟩)];simp -dsimp [h,hkK,hkM,hMl,hat,ex,intRow,h1,h2,wr wk,-List.all_eq_true,-List.map_set]
   ·rw [if_neg (fun q=>q.elim (fun q=>h2 q.2) (fun q=>by omega)),if_pos h1];simp -dsimp [h,hkK,hkM,hMl,hat,ex,intRow,h1,h2,wr wk,-List.all_eq_true,-List.map_set]
  ·by_cases h3:d=1
   ·by_cases h4:b=2
    ·rw [if_pos (.inr ⟨h3,h4⟩)];simp -dsimp [h,hkK,hkM,hMl,hat,ex,intRow,h3,h4,wr wk,-List.all_eq_true,-List.map_set]
    ·rw [if_neg (fun q=>q.elim (fun q=>h1 q.1) (fun q=>h4 q.2)),if_neg h1];simp -dsimp [h,hkK,hkM,hMl,hat,ex,intRow,h3,h4,wr wk,-List.all_eq_true,-List.map_set]
   ·rw [if_neg (fun q=>q.elim (fun q=>h1 q.1) (fun q=>h3 q.1)),if_neg h1];simp -dsimp [h,hkK,hkM,hMl,hat,ex,intRow,h1,h3,wr wk,-List.all_eq_true,-List.map_set]
 ·have:k=t.length:=by omega
  subst this;have ht:List.take t.length ((levK b K D t.length).map intRow)=(levK b K D t.length).map intRow:=List.take_of_length_le (by simp [hMl]);simp -dsimp [h,resOf,ht,hMl]
end
section
set_option maxHeartbeats 400000
attribute [local simp] evC w1
attribute [local simp ↓] oneN oneI oneSp oneB
def rv (L:List Int) (s n:Nat):Nat→List Int
 | 0=>L
 | k+1=>((rv L s n k).set (s+k) ((rv L s n k).getD (s+(n - 1 - k)) 0)).set (s+(n - 1 - k)) ((rv L s n k).getD (s+k) 0)
theorem rv_len (L:List Int) (s n:Nat):∀ k,(rv L s n k).length=L.length
 | 0=>rfl
 | k+1=>by rw [rv,List.length_set,List.length_set,rv_len L s n k]
theorem rv_perm (L:List Int) {s n:Nat} (h:s+n≤L.length):∀ k,2*k≤n→(rv L s n k).Perm L
 | 0,_=>List.Perm.refl _
 | k+1,hk=>by
  have ih:=rv_perm L h k (by omega);have hl:=rv_len L s n k;rw [rv];have h1:s+k<(rv L s n k).length:=by omega
  have h2:s+(n - 1 - k)<(rv L s n k).length:=by omega
  have e1:(rv L s n k).getD (s+(n - 1 - k)) 0=(rv L s n k)[s+(n - 1 - k)]:=by simp [h2]
  have e2:(rv L s n k).getD (s+k) 0=(rv L s n k)[s+k]:=by simp [h1]
  rw [e1,e2];exact (List.set_set_perm h1 h2).trans ih
def revT (L:List Int) (s n:Nat):List Int:=rv L s n (n / 2)
theorem revT_perm (L:List Int) {s n:Nat} (h:s+n≤L.length):(revT L s n).Perm L:=rv_perm L h _ (by omega)
theorem b148 (L:List Int) (s n:Nat) (h:s+n≤L.length) (hl:L.length≤1000000):BestF Tryz.prog 148 [((BIG,0),.sl 3 1 (L.map intRow))] [.ref (BIG,0) 1 s n] [(BIG,0)] (.p (.tup [])) [((BIG,0),.sl 3 1 ((revT L s n).map intRow))]:=by
 refine bestF mixed fn148 ok148 (by simp) (by simp) ?_;have w0:R ((n:Int) - 1):=rO (by omega);simp -dsimp [ac148,wr w0];refine loopC (n / 2) (fun k=>⟨[(0,.ref (1000000,0) 1 s n),(2,.p (.int .i64 k)),(3,.p (.int .i64 ((n:Int) - 1 - k)))],[((1000000,0),.sl 3 1 ((rv L s n k).map intRow))]⟩) (fun _=>True) (fun k hk _=>?_) trivial (by simp [rv]);obtain ⟨m,em⟩:∃ m:Int,(n:Int) - 1 - k=m:=⟨_,rfl⟩;have hMl:=rv_len L s n k
 by_cases hc:(k:Int)<m
 ·have hk2:k<n / 2:=by omega
  obtain ⟨j,ej⟩:∃ j:Nat,m=j:=⟨m.toNat,by omega⟩;subst ej;have hkj:k<j:=by omega
  have ejn:n - 1 - k=j:=by omega
  have wk:R ((k:Int)+1):=rO (by omega);have wj:R ((j:Int) - 1):=rO (by omega);have e2:(n:Int) - 1 - (k+1:Nat)=(j:Int) - 1:=by omega
  have hkn:k<n:=by omega
  have hjn:j<n:=by omega
  have hs:rv L s n (k+1)=((rv L s n k).set (s+k) ((rv L s n k).getD (s+j) 0)).set (s+j) ((rv L s n k).getD (s+k) 0):=by rw [rv,ejn]
  obtain ⟨M,eM⟩:=gn (rv L s n k);rw [eM] at hs hMl;rw [em,e2,eM];have h1:s+k<M.length:=by omega
  have h2:s+j<M.length:=by omega
  obtain ⟨x,ex⟩:=gn M[s+k];obtain ⟨y,ey⟩:=gn M[s+j];have exd:M.getD (s+k) 0=x:=by simp [h1,ex]
  have eyd:M.getD (s+j) 0=y:=by simp [h2,ey]
  rw [exd,eyd] at hs;have hml:=map_set_row M (s+k) y
  have hml2:=map_set_row (M.set (s+k) y) (s+j) x;rw [←hs] at hml2;rw [←hml2,←hml];have htl:∀ z:Int,(intRow z).tail=[]:=fun _=>rfl
  have htl2:∀ (hh:s+j<((M.map intRow).set (s+k) [PV.int .i64 y]).length),(((M.map intRow).set (s+k) [PV.int .i64 y])[s+j]'hh).tail=[]:=fun hh=>by
   rw [List.getElem_set];split
   ·rfl
   ·rw [List.getElem_map];rfl
  simp -dsimp [htl2,hkj,h1,h2,ex,ey,hkn,hjn,htl,intRow,wr wk,wr wj,hk2,-List.all_eq_true,-List.map_set]
 ·have hk3:k=n / 2:=by omega
  have hr:revT L s n=rv L s n k:=by rw [hk3];rfl
  rw [em,hr];simp -dsimp [hc,retF]
end
section
set_option maxHeartbeats 400000
attribute [local simp] evC w1
attribute [local simp ↓] oneN oneI oneSp oneB
theorem b148s (z:Slot) (L:List Int) (s n:Nat) (h:s+n≤L.length) (hl:L.length≤1000000):BestF Tryz.prog 148 [(z,.sl 3 1 (L.map intRow))] [.ref z 1 s n] [z] (.p (.tup [])) [(z,.sl 3 1 ((revT L s n).map intRow))]:=
 BestF.one (b148 L s n h hl) z rfl rfl
def ordI (n:Nat):List Int:=(List.range n).map fun (i:Nat)=>(i:Int)
def ioK (n k:Nat):List Int:=(List.range n).map fun i=>if i<k then (i:Int) else 0
theorem ioK_len {n k:Nat}:(ioK n k).length=n:=by simp [ioK]
theorem ioK_0 (n:Nat):ioK n 0=zerosI n:=by
 apply List.ext_getElem (by simp [ioK,zerosI])
 intro i h1 h2;simp [ioK,zerosI]
theorem ioK_end (n:Nat):ioK n n=ordI n:=by
 unfold ioK ordI
 apply List.map_congr_left
 intro i hi;rw [if_pos (by simpa using hi)]
theorem ioK_succ (n k:Nat):ioK n (k+1)=(ioK n k).set k (k:Int):=by
 apply List.ext_getElem (by simp [ioK])
 intro i h1 h2;rw [List.getElem_set];simp only [ioK,List.getElem_map,List.getElem_range]
 by_cases e:k=i
 ·subst e;rw [if_pos (by omega),if_pos rfl]
 ·rw [if_neg e]
  by_cases e2:i<k
  ·rw [if_pos (by omega),if_pos e2]
  ·rw [if_neg (by omega),if_neg e2]
def vsP (P:List (Nat×Nat×Bool)) (O:List Int):Nat→List Int
 | 0=>O
 | k+1=>if (P.getD k (0,0,false)).2.2=true then revT (vsP P O k) (P.getD k (0,0,false)).1 ((P.getD k (0,0,false)).2.1 - (P.getD k (0,0,false)).1) else vsP P O k
def vsQ (lv:List Int) (v:Int) (x:Int):Bool:=decide (v≤lv.getD x.toNat 0)
def vsL (lv:List Int):Nat→List Int
 | 0=>ordI lv.length
 | j+1=>vsP (pcs (vsQ lv (9 - j)) (vsL lv j)) (vsL lv j) (pcs (vsQ lv (9 - j)) (vsL lv j)).length
theorem vsP_perm {q:Int→Bool} {O:List Int}:∀ k,k≤(pcs q O).length→(vsP (pcs q O) O k).Perm O
 | 0,_=>List.Perm.refl _
 | k+1,hk=>by
  have ih:=vsP_perm (q:=q) (O:=O) k (by omega);rw [vsP];split
  ·obtain ⟨⟨s,e,key⟩,ep⟩:=gn ((pcs q O)[k]);have hg:=pcs_get (q:=q) (l:=O) (k:=k) (s:=s) (e:=e) (key:=key) (by rw [List.getElem?_eq_getElem (by omega),ep]);have exd:(pcs q O).getD k (0,0,false)=(s,e,key):=by rw [List.getD_eq_getElem?_getD,List.getElem?_eq_getElem (by omega),ep];rfl
   rw [exd];have hl:=ih.length_eq;exact (revT_perm _ (by dsimp only;omega)).trans ih
  ·exact ih
theorem vsL_perm (lv:List Int):∀ j,(vsL lv j).Perm (ordI lv.length)
 | 0=>List.Perm.refl _
 | j+1=>(vsP_perm _ (Nat.le_refl _)).trans (vsL_perm lv j)
theorem vsL_len (lv:List Int) (j:Nat):(vsL lv j).length=lv.length:=by rw [(vsL_perm lv j).length_eq];simp [ordI]
theorem vsL_mem {lv:List Int} {j:Nat} {x:Int} (h:x∈vsL lv j):∃ i:Nat,x=i∧i<lv.length:=by
 have:=(vsL_perm lv j).mem_iff.1 h;obtain ⟨i,hi,rfl⟩:=List.mem_map.1 this;exact ⟨i,rfl,by simpa using hi⟩
def vsN (lv:List Int):List Int:=vsL lv 9
theorem b146o (l:List Int) (h0:0<l.length) (hl:l.length≤1000000):Bt 146 [.sl 1 (l.map intRow)] (.own (fun s=>.ref s 1 0 l.length) (.sl 3 1 (l.map intRow))):=by
 refine best mixed fn146 ok146 (by simp) ?_;have m1:l.length≤maxLen:=by unfold maxLen;omega
 have e1:l.length*8≤140737488355328:=by omega
 simp -dsimp [ac146,h0,m1,e1,resOf,-List.all_eq_true];exact okV_ref 1 0 _
theorem flatI (l:List Int):((l.map intRow).all fun r=>r.all PV.flat)=true:=by
 rw [List.all_eq_true];intro r hr;obtain ⟨x,_,rfl⟩:=List.mem_map.1 hr;rfl
theorem b101 (lv:List Int) (h0:0<lv.length) (hl:lv.length≤1000000):Bt 101 [.sl 1 (lv.map intRow)] (.p (.sl 1 ((vsN lv).map intRow))):=by
 refine best mixed fn101 ok101 (by simp) ?_;obtain ⟨n,en⟩:=gn lv.length;have m0:(n:Int)≤281474976710656:=by omega
 have e0:8*(n:Int)≤281474976710656:=by omega
 have f0:(n:Int)≤9223372036854775807:=by omega
 have hz:=zerosI_rows n;simp -dsimp [ac101,en,m0,e0,f0];refine loopC n (fun k=>⟨[(1,.p (.ro [.sl 1 (lv.map intRow)])),(3,.ptr (3,0) 1 0 0),(12,.p (.int .i64 n)),(13,.p (.int .i64 k))],[((3,0),.box [.ref (10,0) 1 0 n]),((10,0),.sl 3 1 ((ioK n k).map intRow))]⟩) (fun _=>True) (fun k hk _=>?_) trivial (by simp [ioK_0,hz]);have hMl:(ioK n k).length=n:=ioK_len
 by_cases h:k<n
 ·have wk:R ((k:Int)+1):=rO (by omega);have hs:=ioK_succ n k;have hml:=map_set_row (ioK n k) k (k:Int);rw [←hs] at hml;obtain ⟨M,eM⟩:=gn (ioK n k)
  rw [eM] at hml hMl ⊢;have hkM:k<M.length:=by omega
  have htl:(intRow M[k]).tail=[]:=rfl;rw [←hml];simp -dsimp [h,hkM,hMl,htl,wr wk,-List.all_eq_true,-List.map_set]
 ·have:k=n:=by omega
  subst this;rw [ioK_end];simp -dsimp [h]
  clear hMl
  refine loopC 9 (fun j=>⟨[(1,.p (.ro [.sl 1 (lv.map intRow)])),(3,.ptr (3,0) 1 0 0),(5,.ptr (5,0) 1 0 0)],[((3,0),.box [.ref (10,0) 1 0 k]),((5,0),.box [.p (.int .i64 (9 - j))]),((10,0),.sl 3 1 ((vsL lv j).map intRow))]⟩) (fun _=>True) (fun j hj _=>?_) trivial (by simp [vsL,en]);have hVl:=vsL_len lv j;rw [en] at hVl
  by_cases h9:j<9
  ·have hc:(0:Int)<9 - j:=by omega
   have wj:R ((9:Int) - j - 1):=rO (by omega);have ej:(9:Int) - (j+1:Nat)=9 - j - 1:=by omega
   have hvs:vsL lv (j+1)=vsP (pcs (vsQ lv (9 - j)) (vsL lv j)) (vsL lv j) (pcs (vsQ lv (9 - j)) (vsL lv j)).length:=rfl;have q129:Bt 146 [.sl 1 ((vsL lv j).map intRow)] (.own (fun s=>.ref s 1 0 ((vsL lv j).map intRow).length) (.sl 3 1 ((vsL lv j).map intRow))):=by
    rw [List.length_map];exact b146o (vsL lv j) (by omega) (by omega)
   obtain ⟨v,ev⟩:∃ v:Int,9 - (j:Int)=v:=⟨_,rfl⟩;rw [ev] at hc wj ej hvs;have q126:=b109 (vsL lv j) 147 [.ro [.sl 1 (lv.map intRow)],.ro [.int .i64 v]]
   have hG:=g154 (vsL lv j) 147 [.ro [.sl 1 (lv.map intRow)],.ro [.int .i64 v]] (vsQ lv v) (fun x hx=>by
    obtain ⟨i,rfl,hi⟩:=vsL_mem hx;exact b147 lv v i hi) (by omega)
   have hpl:=fun k hk=>(vsP_perm (q:=vsQ lv v) (O:=vsL lv j) k hk).length_eq
   obtain ⟨O,eO⟩:=gn (vsL lv j);rw [eO] at hVl q129 q126 hG hvs hpl ⊢;rw [ev,hvs,ej];have ht0:List.take k (O.map intRow)=O.map intRow:=List.take_of_length_le (by simp [hVl])
   simp -dsimp [hc];refine call_c q129 (by simp [ht0,hVl]) (flatI O) (by simp) ?_;simp -dsimp;refine cP q126 ?_;simp -dsimp;refine rfunL_rule rfl rfl hG (fun r F=>F=⟨[(1,.p (.ro [.sl 1 (lv.map intRow)])),(3,.ptr (3,0) 1 0 0),(5,.p (.ro [.int .i64 v])),(28,.p (.clo (.func 154) [] [.ro [.sl 1 (O.map intRow)],.ro [.clo (.func 147) [] [.ro [.sl 1 (lv.map intRow)],.ro [.int .i64 v]]]]))],
    [((3,0),.box [.ref (10,0) 1 0 k]),((10,0),.sl 3 1 ((vsP (pcs (vsQ lv v) O) O r).map intRow))]⟩) ?_ ?_ (by simp [vsP])
   ·rintro r z F hz rfl
    have hr:r<(pcs (vsQ lv v) O).length:=by have:=(List.getElem?_eq_some_iff.1 hz).1;simpa using this
    rw [List.getElem?_map,List.getElem?_eq_getElem hr] at hz;obtain ⟨⟨s,e,key⟩,ep⟩:=gn ((pcs (vsQ lv v) O)[r])
    rw [ep] at hz;simp at hz;subst hz;obtain ⟨hse,hen⟩:=pcs_get (q:=vsQ lv v) (l:=O) (k:=r) (s:=s) (e:=e) (key:=key) (by rw [List.getElem?_eq_getElem hr,ep])
    have epd:(pcs (vsQ lv v) O).getD r (0,0,false)=(s,e,key):=by rw [List.getD_eq_getElem?_getD,List.getElem?_eq_getElem hr,ep];rfl
    have hst:vsP (pcs (vsQ lv v) O) O (r+1)=if key=true then revT (vsP (pcs (vsQ lv v) O) O r) s (e - s) else vsP (pcs (vsQ lv v) O) O r:=by rw [vsP,epd]
    have hMl:=hpl r (by omega);rw [hst];obtain ⟨M,eM⟩:=gn (vsP (pcs (vsQ lv v) O) O r);rw [eM] at hMl ⊢;refine ⟨rfl,?_⟩;have hek:e≤k:=by omega
    have hse':s≤e:=by omega
    cases key with
    | false=>simp -dsimp [pcRow]
    | true=>
     have q131:=b148s (10,0) M s (e - s) (by omega) (by omega);have hse2:(s:Int)≤e:=by omega
     have hek2:(e:Int)≤k:=by omega
     simp -dsimp [pcRow,hek,hse',hse2,hek2];refine call_m q131 (by simp) (by simp) (by simp) ?_;simp -dsimp
   ·rintro F rfl
    simp -dsimp [wr wj,h9]
  ·have:j=9:=by omega
   subst this;have ht:List.take k ((vsL lv 9).map intRow)=(vsL lv 9).map intRow:=List.take_of_length_le (by simp [hVl]);simp -dsimp [resOf,ht,vsN,hVl]
theorem b53 (lv:List Int) (h0:0<lv.length) (hl:lv.length≤1000000):Bt 53 [.sl 1 (lv.map intRow)] (.p (.clo (.func 145) [] [.ro [.sl 1 ((vsN lv).map intRow)]])):=by
 refine best mixed fn53 ok53 (by simp) ?_;simp -dsimp [ac53];refine cP (b101 lv h0 hl) ?_;simp -dsimp;refine cP (b100 (vsN lv)) ?_;simp -dsimp
end
section
attribute [local simp ↓] awp_scope awp_label
attribute [local simp] w1
set_option maxHeartbeats 400000
attribute [local simp] evC
attribute [local simp ↓] oneN oneI oneSp oneB oneBo
structure Plc where
 i:Int
 f:Int
 l:Int
 x:Int
 w:Int
def plcRow (p:Plc):List PV:=[.int .i64 0,.int .i64 p.i,.int .i64 p.f,.int .i64 p.l,.int .i64 p.x,.int .i64 p.w]
theorem onePl (z:List Plc):((z.map plcRow).all fun r=>r.all PV.one)=true:=by
 rw [List.all_eq_true];intro r hr;obtain ⟨x,_,rfl⟩:=List.mem_map.1 hr;rfl
attribute [local simp ↓] onePl
def plcL (Fs ls X Ws:List Int) (n:Nat):List Plc:=(List.range n).map fun (i:Nat)=>(⟨i,Fs.getD i 0,ls.getD i 0,X.getD i 0,Ws.getD i 0⟩:Plc)
theorem plcL_len (Fs ls X Ws:List Int) (n:Nat):(plcL Fs ls X Ws n).length=n:=by simp [plcL]
theorem plcL_succ (Fs ls X Ws:List Int) (n:Nat):(plcL Fs ls X Ws (n+1)).map plcRow=(plcL Fs ls X Ws n).map plcRow++[[.int .i64 0,.int .i64 n,.int .i64 (Fs.getD n 0),.int .i64 (ls.getD n 0),.int .i64 (X.getD n 0),.int .i64 (Ws.getD n 0)]]:=by
 simp [plcL,List.range_succ,plcRow]
def spcL (t:List UInt8):List Bool:=(splT t).map fun x=>decide (clsT t (baseT t x.1 x.2)=2)
def spcK (t:List UInt8) (k:Nat):List Bool:=(List.range (splT t).length).map fun i=>if i<k then decide (clsT t (baseT t ((splT t).getD i (0,0)).1 ((splT t).getD i (0,0)).2)=2) else false
theorem spcK_len {t:List UInt8} {k:Nat}:(spcK t k).length=(splT t).length:=by simp [spcK]
theorem spcK_0 (t:List UInt8):List.replicate (splT t).length [PV.bool false]=(spcK t 0).map boolRow:=by
 apply List.ext_getElem (by simp [spcK])
 intro i h1 h2;simp [spcK,boolRow]
theorem spcK_end (t:List UInt8):spcK t (splT t).length=spcL t:=by
 apply List.ext_getElem (by simp [spcK,spcL])
 intro i h1 h2;have hi:i<(splT t).length:=by simpa [spcK] using h1
 simp [spcK,spcL,hi]
theorem spcK_succ (t:List UInt8) (k:Nat):(spcK t (k+1)).map boolRow=((spcK t k).map boolRow).set k [.bool (decide (clsT t (baseT t ((splT t).getD k (0,0)).1 ((splT t).getD k (0,0)).2)=2))]:=by
 apply List.ext_getElem (by simp [spcK])
 intro i h1 h2;rw [List.getElem_set];simp only [spcK,List.getElem_map,List.getElem_range]
 by_cases e:k=i
 ·subst e;rw [if_pos (by omega),if_pos rfl];rfl
 ·rw [if_neg e]
  by_cases e2:i<k
  ·rw [if_pos (by omega),if_pos e2]
  ·rw [if_neg (by omega),if_neg e2]
noncomputable def linesN (cs:List Cor) (t:List UInt8) (s:Stg) (w:Int):List Int:=fillN (widthsN cs t s) (mayL t) (spcL t) w (splT t).length
def grpE (ls:List Int) (i:Nat):Nat:=runE (fun x=>decide (x=ls.getD i 0)) ls true i
def xK (Ws X:List Int) (b:Nat) (O:List Int) (x0:Int):Nat→List Int×Int
 | 0=>(X,x0)
 | k+1=>((xK Ws X b O x0 k).1.set (b+(O.getD k 0).toNat) (xK Ws X b O x0 k).2,(xK Ws X b O x0 k).2+Ws.getD (b+(O.getD k 0).toNat) 0)
def sumI (l:List Int):Int:=l.foldl (·+·) 0
def lvG (LV:List Int) (T:List (Nat×Nat)) (b e:Nat):List Int:=(List.range (e - b)).map fun d=>LV.getD (T.getD (b+d) (0,0)).1 0
def xsF (Ws LV:List Int) (T:List (Nat×Nat)) (ls:List Int) (rt:Bool) (w:Int):Nat→Nat→List Int→List Int
 | 0,_,X=>X
 | m+1,b,X=>if b<ls.length then xsF Ws LV T ls rt w m (grpE ls b) (xK Ws X b (vsN (lvG LV T b (grpE ls b))) (if rt=true then w - sumI ((Ws.drop b).take (grpE ls b - b)) else 0) (grpE ls b - b)).1 else X
noncomputable def placesN (cs:List Cor) (t:List UInt8) (s:Stg) (w:Int):List Plc:=
 if fitN s=true then plcL (fontsN cs t) (linesN cs t s w) (xsF (widthsN cs t s) (levT t) (splT t) (linesN cs t s w) (decide (baseN t=2)) w (splT t).length 0 (zerosI (splT t).length)) (widthsN cs t s) (splT t).length else []
def K17 (V:List Plc):AE→Fr→Prop:=retK [RO.cell 8 false 1] (.own (fun s=>.ref s 6 0 V.length) (.sl 60 6 (V.map plcRow)))
def V17 (Ws LV:List Int) (T:List (Nat×Nat)) (Fs ls:List Int) (rt:Bool) (w:Int) (n:Nat):List Plc:=plcL Fs ls (xsF Ws LV T ls rt w n 0 (zerosI n)) Ws n
theorem sumI_from (l:List Int) (a:Int):l.foldl (·+·) a=a+sumI l:=by
 unfold sumI
 induction l generalizing a with
 | nil=>simp
 | cons x l ih=>simp only [List.foldl_cons];rw [ih (a+x),ih (0+x)];omega
theorem sumI_snoc (l:List Int) (x:Int):sumI (l++[x])=sumI l+x:=by
 unfold sumI;rw [List.foldl_append];rfl
theorem sumI_b {l:List Int} (h:∀ x∈l,0≤x∧x≤40000000000000000):0≤sumI l∧sumI l≤40000000000000000*l.length:=by
 induction l with
 | nil=>simp [sumI]
 | cons x l ih=>
  have h1:=h x (by simp);have h2:=ih fun y hy=>h y (by simp [hy])
  have:sumI (x :: l)=x+sumI l:=by
   show (x :: l).foldl (·+·) 0=_;rw [List.foldl_cons,sumI_from];omega
  rw [this,List.length_cons];push_cast;omega
theorem lvG_snoc (LV:List Int) (T:List (Nat×Nat)) (b d:Nat):lvG LV T b (b+(d+1))=lvG LV T b (b+d)++[LV.getD (T.getD (b+d) (0,0)).1 0]:=by
 unfold lvG;rw [show b+(d+1) - b=d+1 by omega,show b+d - b=d by omega,List.range_succ];simp
theorem xK_len (Ws X:List Int) (b:Nat) (O:List Int) (x0:Int):∀ k,(xK Ws X b O x0 k).1.length=X.length
 | 0=>rfl
 | k+1=>by rw [xK];simp only [List.length_set];exact xK_len Ws X b O x0 k
theorem xK_b {Ws X:List Int} {b:Nat} {O:List Int} {x0:Int} (hWb:∀ x∈Ws,0≤x∧x≤40000000000000000):∀ k,x0≤(xK Ws X b O x0 k).2∧(xK Ws X b O x0 k).2≤x0+40000000000000000*k
 | 0=>by simp [xK]
 | k+1=>by
  have ih:=xK_b (Ws:=Ws) (X:=X) (b:=b) (O:=O) (x0:=x0) hWb k;rw [xK];have:0≤Ws.getD (b+(O.getD k 0).toNat) 0∧Ws.getD (b+(O.getD k 0).toNat) 0≤40000000000000000:=by
   rw [List.getD_eq_getElem?_getD];cases e:Ws[b+(O.getD k 0).toNat]? with
   | none=>simp
   | some y=>exact hWb y (List.mem_of_getElem? e)
  push_cast;omega
theorem plcL_set (Fs ls X Ws:List Int) (n i:Nat) (x:Int) (hX:X.length=n) (hi:i<n):((plcL Fs ls X Ws n).map plcRow).set i [.int .i64 0,.int .i64 i,.int .i64 (Fs.getD i 0),.int .i64 (ls.getD i 0),.int .i64 x,.int .i64 (Ws.getD i 0)]=(plcL Fs ls (X.set i x) Ws n).map plcRow:=by
 apply List.ext_getElem (by simp [plcL])
 intro j h1 h2;rw [List.getElem_set];simp only [plcL,List.getElem_map,List.getElem_range]
 by_cases e:i=j
 ·subst e;rw [if_pos rfl];have:(X.set i x).getD i 0=x:=by simp [hX,hi]
  rw [this];rfl
 ·rw [if_neg e];have:(X.set i x).getD j 0=X.getD j 0:=by simp [List.getElem?_set,e]
  rw [this]
theorem x17e {Kc:AE→Fr→Prop} (t:List UInt8) (hl:t.length≤100) (w:Int) (hw:-1000000≤w∧w≤1000000) (n:Nat) (hn:n≤100) (a9 a12 a16:PV) (Fs Ws ls X D:List Int) (hW:Ws.length=n) (hX:X.length=n)
  (b e:Nat) (hbe:b<e) (hen:e≤n) (hD:D.length=e - b) (S:Int) (hS:0≤S∧S≤4000000000000000000) (hWb:∀ x∈Ws,0≤x∧x≤40000000000000000)
  (hK:∀ x':Int,∀ a131:PV,Kc .normal ⟨[(1,.p (.str (ba t))),(3,.p (.int .i64 w)),(8,.ptr (8,0) 1 0 0),(9,.p a9),(10,.ptr (10,0) 1 0 0),(12,.p a12),(16,.p a16),(18,.ptr (18,0) 1 0 0),(19,.p (.int .i64 e)),(20,.ptr (20,0) 1 0 0),(131,.p a131)],
   [((8,0),.box [.ref (82,n) 6 0 n]),((10,0),.box [.p (.sl 1 (Ws.map intRow))]),((18,0),.box [.p (.int .i64 b)]),((20,0),.box [.p (.int .i64 x')]),((82,n),.sl 60 6 ((plcL Fs ls (xK Ws X b (vsN D) (if decide (baseN t=2)=true then w - S else 0) (e - b)).1 Ws n).map plcRow))]⟩) :
  awp Tryz.prog xc19e Kc ⟨[(1,.p (.str (ba t))),(3,.p (.int .i64 w)),(8,.ptr (8,0) 1 0 0),(9,.p a9),(10,.ptr (10,0) 1 0 0),(12,.p a12),(16,.p a16),(18,.ptr (18,0) 1 0 0),(19,.p (.int .i64 e)),(20,.ptr (20,0) 1 0 0),(21,.ref (117,e - b) 1 0 (e - b))],
   [((8,0),.box [.ref (82,n) 6 0 n]),((10,0),.box [.p (.sl 1 (Ws.map intRow))]),((18,0),.box [.p (.int .i64 b)]),((20,0),.box [.p (.int .i64 (-S))]),((82,n),.sl 60 6 ((plcL Fs ls X Ws n).map plcRow)),((117,e - b),.sl 3 1 (D.map intRow))]⟩:=by
 have q47:=b52 t (by omega);have q48:=b53 D (by omega) (by omega);have hvl:(vsN D).length=e - b:=by rw [show (vsN D).length=D.length from vsL_len D 9,hD]
 have hG:=g145 (vsN D) (by omega);have wS:R (-S+w):=rO (by omega);have htD:List.take (e - b) (D.map intRow)=D.map intRow:=List.take_of_length_le (by simp [hD]);obtain ⟨rt,ert⟩:=gn (decide (baseN t=2));rw [ert] at q47;rw [ert] at hK;obtain ⟨x0,ex0⟩:∃ x0:Int,(if rt=true then w - S else 0)=x0:=⟨_,rfl⟩
 rw [ex0] at hK;have hx0:-4000000000001000000≤x0∧x0≤1000000:=by rw [←ex0];split<;>omega
 simp -dsimp [xc19e,wr wS];refine cP q47 ?_;cases rt with
 | true=>
  have ex:-S+w=x0:=by rw [←ex0];simp;omega
  rw [ex];simp -dsimp [hD,htD];refine cP q48 ?_;simp -dsimp;refine rfunL_rule rfl rfl hG (fun r F=>F=⟨[(1,.p (.str (ba t))),(3,.p (.int .i64 w)),(8,.ptr (8,0) 1 0 0),(9,.p a9),(10,.ptr (10,0) 1 0 0),(12,.p a12),(16,.p a16),(18,.ptr (18,0) 1 0 0),(19,.p (.int .i64 e)),(20,.ptr (20,0) 1 0 0),(131,.p (.clo (.func 145) [] [.ro [.sl 1 ((vsN D).map intRow)]]))],
   [((8,0),.box [.ref (82,n) 6 0 n]),((10,0),.box [.p (.sl 1 (Ws.map intRow))]),((18,0),.box [.p (.int .i64 b)]),((20,0),.box [.p (.int .i64 (xK Ws X b (vsN D) x0 r).2)]),((82,n),.sl 60 6 ((plcL Fs ls (xK Ws X b (vsN D) x0 r).1 Ws n).map plcRow))]⟩) ?_ ?_ (by simp [xK])
  ·rintro r z F hz rfl
   have hr:r<(vsN D).length:=by have:=(List.getElem?_eq_some_iff.1 hz).1;simpa using this
   rw [List.getElem?_map,List.getElem?_eq_getElem hr] at hz;obtain ⟨i,ei,hiD⟩:=vsL_mem (lv:=D) (j:=9) (x:=(vsN D)[r]) (List.getElem_mem hr)
   rw [ei] at hz;simp at hz;subst hz;have eid:(vsN D).getD r 0=(i:Int):=by simp [hr,ei]
   have hxs:xK Ws X b (vsN D) x0 (r+1)=((xK Ws X b (vsN D) x0 r).1.set (b+i) (xK Ws X b (vsN D) x0 r).2,(xK Ws X b (vsN D) x0 r).2+Ws.getD (b+i) 0):=by rw [xK,eid];rfl
   have hxl:=xK_len Ws X b (vsN D) x0 r;have hxb:=xK_b (Ws:=Ws) (X:=X) (b:=b) (O:=vsN D) (x0:=x0) hWb r;rw [hxs];obtain ⟨X1,eX1⟩:=gn ((xK Ws X b (vsN D) x0 r).1);obtain ⟨x1,ex1⟩:=gn ((xK Ws X b (vsN D) x0 r).2);rw [eX1] at hxl;rw [ex1] at hxb;rw [eX1,ex1];have hidx:b+i<n:=by omega
   have hst:=plcL_set Fs ls X1 Ws n (b+i) x1 (by omega) hidx;have hpl:=plcL_len Fs ls X1 Ws n;have hWi:b+i<Ws.length:=by omega
   obtain ⟨wv,ewv⟩:=gn Ws[b+i];have ewd:Ws.getD (b+i) 0=wv:=by simp [hWi,ewv]
   have hwv:=hWb wv (by rw [←ewv];simp);have wbi:R ((b:Int)+i):=rO (by omega);have wx:R (x1+wv):=rO (by omega);refine ⟨rfl,?_⟩;dsimp only;rw [←hst,ewd];have c1:(0:Int)≤(b:Int)+i:=by omega
   have c2:(b:Int)+i<n:=by omega
   have c3:((b:Int)+i).toNat=b+i:=by omega
   obtain ⟨P1,eP1⟩:=gn (plcL Fs ls X1 Ws n);have hrow:∀ h:b+i<P1.length,plcRow P1[b+i]=[.int .i64 0,.int .i64 ((b+i:Nat):Int),.int .i64 (Fs.getD (b+i) 0),.int .i64 (ls.getD (b+i) 0),.int .i64 (X1.getD (b+i) 0),.int .i64 (Ws.getD (b+i) 0)]:=fun h=>by
    subst eP1;simp [plcL,plcRow]
   rw [eP1] at hpl;rw [eP1];have hiP:b+i<P1.length:=by omega
   simp -dsimp [wr wbi,c1,c2,c3,hiP,hpl,hrow hiP,hWi,hW,ewv,ewd,intRow,wr wx,hidx,-List.all_eq_true,-List.map_set]
  ·rintro F rfl
   rw [List.length_map,hvl];exact hK _ _
 | false=>
  have ex:x0=0:=by rw [←ex0];simp
  subst ex;simp -dsimp [hD,htD];refine cP q48 ?_;simp -dsimp;refine rfunL_rule rfl rfl hG (fun r F=>F=⟨[(1,.p (.str (ba t))),(3,.p (.int .i64 w)),(8,.ptr (8,0) 1 0 0),(9,.p a9),(10,.ptr (10,0) 1 0 0),(12,.p a12),(16,.p a16),(18,.ptr (18,0) 1 0 0),(19,.p (.int .i64 e)),(20,.ptr (20,0) 1 0 0),(131,.p (.clo (.func 145) [] [.ro [.sl 1 ((vsN D).map intRow)]]))],
   [((8,0),.box [.ref (82,n) 6 0 n]),((10,0),.box [.p (.sl 1 (Ws.map intRow))]),((18,0),.box [.p (.int .i64 b)]),((20,0),.box [.p (.int .i64 (xK Ws X b (vsN D) 0 r).2)]),((82,n),.sl 60 6 ((plcL Fs ls (xK Ws X b (vsN D) 0 r).1 Ws n).map plcRow))]⟩) ?_ ?_ (by simp [xK])
  ·rintro r z F hz rfl
   have hr:r<(vsN D).length:=by have:=(List.getElem?_eq_some_iff.1 hz).1;simpa using this
   rw [List.getElem?_map,List.getElem?_eq_getElem hr] at hz;obtain ⟨i,ei,hiD⟩:=vsL_mem (lv:=D) (j:=9) (x:=(vsN D)[r]) (List.getElem_mem hr)
   rw [ei] at hz;simp at hz;subst hz;have eid:(vsN D).getD r 0=(i:Int):=by simp [hr,ei]
   have hxs:xK Ws X b (vsN D) 0 (r+1)=((xK Ws X b (vsN D) 0 r).1.set (b+i) (xK Ws X b (vsN D) 0 r).2,(xK Ws X b (vsN D) 0 r).2+Ws.getD (b+i) 0):=by rw [xK,eid];rfl
   have hxl:=xK_len Ws X b (vsN D) 0 r;have hxb:=xK_b (Ws:=Ws) (X:=X) (b:=b) (O:=vsN D) (x0:=(0:Int)) hWb r;rw [hxs];obtain ⟨X1,eX1⟩:=gn ((xK Ws X b (vsN D) 0 r).1);obtain ⟨x1,ex1⟩:=gn ((xK Ws X b (vsN D) 0 r).2);rw [eX1] at hxl;rw [ex1] at hxb;rw [eX1,ex1];have hidx:b+i<n:=by omega
   have hst:=plcL_set Fs ls X1 Ws n (b+i) x1 (by omega) hidx;have hpl:=plcL_len Fs ls X1 Ws n;have hWi:b+i<Ws.length:=by omega
   obtain ⟨wv,ewv⟩:=gn Ws[b+i];have ewd:Ws.getD (b+i) 0=wv:=by simp [hWi,ewv]
   have hwv:=hWb wv (by rw [←ewv];simp);have wbi:R ((b:Int)+i):=rO (by omega);have wx:R (x1+wv):=rO (by omega);refine ⟨rfl,?_⟩;dsimp only;rw [←hst,ewd];have c1:(0:Int)≤(b:Int)+i:=by omega
   have c2:(b:Int)+i<n:=by omega
   have c3:((b:Int)+i).toNat=b+i:=by omega
   obtain ⟨P1,eP1⟩:=gn (plcL Fs ls X1 Ws n);have hrow:∀ h:b+i<P1.length,plcRow P1[b+i]=[.int .i64 0,.int .i64 ((b+i:Nat):Int),.int .i64 (Fs.getD (b+i) 0),.int .i64 (ls.getD (b+i) 0),.int .i64 (X1.getD (b+i) 0),.int .i64 (Ws.getD (b+i) 0)]:=fun h=>by
    subst eP1;simp [plcL,plcRow]
   rw [eP1] at hpl;rw [eP1];have hiP:b+i<P1.length:=by omega
   simp -dsimp [wr wbi,c1,c2,c3,hiP,hpl,hrow hiP,hWi,hW,ewv,ewd,intRow,wr wx,hidx,-List.all_eq_true,-List.map_set]
  ·rintro F rfl
   rw [List.length_map,hvl];exact hK _ _
theorem x17d (t:List UInt8) (hl:t.length≤100) (w:Int) (hw:-1000000≤w∧w≤1000000) (T:List (Nat×Nat)) (n:Nat) (hT:T.length=n) (hn:n≤100) (Fs Ws LV ls:List Int) (hF:Fs.length=n) (hW:Ws.length=n) (hL:LV.length=t.length) (hls:ls.length=n)
  (hm:∀ x∈T,x.1<x.2∧x.2≤t.length) (hWb:∀ x∈Ws,0≤x∧x≤40000000000000000) :
  awp Tryz.prog xc19d (K17 (V17 Ws LV T Fs ls (decide (baseN t=2)) w n)) ⟨[(1,.p (.str (ba t))),(3,.p (.int .i64 w)),(8,.ptr (8,0) 1 0 0),(9,.p (.sl 2 (T.map spRow))),(10,.ptr (10,0) 1 0 0),(12,.p (.sl 1 (LV.map intRow))),(16,.p (.sl 1 (ls.map intRow)))],
   [((8,0),.box [.ref (82,n) 6 0 n]),((10,0),.box [.p (.sl 1 (Ws.map intRow))]),((82,n),.sl 60 6 ((plcL Fs ls (zerosI n) Ws n).map plcRow))]⟩:=by
 obtain ⟨Xf,eXf⟩:=gn (xsF Ws LV T ls (decide (baseN t=2)) w n 0 (zerosI n));have eV:V17 Ws LV T Fs ls (decide (baseN t=2)) w n=plcL Fs ls Xf Ws n:=by unfold V17;rw [eXf]
 rw [eV];have hq47:=b52 t (by omega);obtain ⟨rt,ert⟩:=gn (decide (baseN t=2));rw [ert] at eXf hq47;simp -dsimp [xc19d,↓ awpC_of xc19e];refine loopE n (fun k (z:Nat×List Int)=>⟨[(1,.p (.str (ba t))),(3,.p (.int .i64 w)),(8,.ptr (8,0) 1 0 0),(9,.p (.sl 2 (T.map spRow))),(10,.ptr (10,0) 1 0 0),(12,.p (.sl 1 (LV.map intRow))),(16,.p (.sl 1 (ls.map intRow))),(18,.ptr (18,0) 1 0 0)],
   [((8,0),.box [.ref (82,n) 6 0 n]),((10,0),.box [.p (.sl 1 (Ws.map intRow))]),((18,0),.box [.p (.int .i64 z.1)]),((82,n),.sl 60 6 ((plcL Fs ls z.2 Ws n).map plcRow))]⟩)
  (fun k z=>k≤z.1∧z.1≤n∧z.2.length=n∧xsF Ws LV T ls rt w (n - k) z.1 z.2=Xf) (0,zerosI n) (fun k z hk hz=>?_) ⟨by simp,by simp,by simp [zerosI_len],by simpa using eXf⟩ (by simp)
 obtain ⟨b,X⟩:=z;obtain ⟨z1,z2,z3,z4⟩:=hz;dsimp only at z1 z2 z3 z4 ⊢
 by_cases h:b<n
 ·have hm1:n - k=(n - (k+1))+1:=by omega
  rw [hm1,xsF,if_pos (by omega)] at z4;have hb0:ls.getD b 0=ls[b]'(by omega):=by simp [hls,h]
  have hin:=fun j (h1:b≤j) h2 h3=>runE_in (q:=fun x=>decide (x=ls.getD b 0)) (l:=ls) (key:=true) (i:=b) (j:=j) h1 h2 h3
  have hout:=runE_out (q:=fun x=>decide (x=ls.getD b 0)) (l:=ls) (key:=true) (i:=b);have hel:=runE_le (q:=fun x=>decide (x=ls.getD b 0)) (l:=ls) (key:=true) (i:=b) (by omega);have hge:grpE ls b=runE (fun x=>decide (x=ls.getD b 0)) ls true b:=rfl;rw [←hge] at hin hout hel;obtain ⟨e,ee⟩:=gn (grpE ls b)
  rw [ee] at z4 hin hout hel;obtain ⟨lb,elb⟩:=gn (ls.getD b 0)
  have elb':ls[b]'(by omega)=lb:=by rw [←hb0,elb]
  rw [elb] at hin hout;have hbl:b<ls.length:=by omega
  have hbe:b<e:=by
   rcases Nat.lt_or_ge b e with q | q
   ·exact q
   ·have:e=b:=by omega
    subst this;have:=hout hbl;rw [elb] at this;simp at this
  simp -dsimp [h,hT,↓ awpC_of xc19e];refine loopC (e - b) (fun d=>⟨[(1,.p (.str (ba t))),(3,.p (.int .i64 w)),(8,.ptr (8,0) 1 0 0),(9,.p (.sl 2 (T.map spRow))),(10,.ptr (10,0) 1 0 0),(12,.p (.sl 1 (LV.map intRow))),(16,.p (.sl 1 (ls.map intRow))),(18,.ptr (18,0) 1 0 0),(19,.p (.int .i64 ((b+d:Nat):Int))),(20,.ptr (20,0) 1 0 0),(21,.ref (117,d) 1 0 d)],
   [((8,0),.box [.ref (82,n) 6 0 n]),((10,0),.box [.p (.sl 1 (Ws.map intRow))]),((18,0),.box [.p (.int .i64 b)]),((20,0),.box [.p (.int .i64 (-sumI ((Ws.drop b).take d)))]),((82,n),.sl 60 6 ((plcL Fs ls X Ws n).map plcRow)),((117,d),.sl 3 1 ((lvG LV T b (b+d)).map intRow))]⟩) (fun _=>True) (fun d hd _=>?_) trivial (by simp [sumI,lvG])
  obtain ⟨j,ej⟩:=gn (b+d);have ej2:((b+(d+1):Nat):Int)=(j:Int)+1:=by omega
  have hSb:=sumI_b (l:=(Ws.drop b).take d) (fun x hx=>hWb x (List.mem_of_mem_drop (List.mem_of_mem_take hx)));have hSl:((Ws.drop b).take d).length≤100:=by simp;omega
  by_cases hje:j<e
  ·have hjn:j<n:=by omega
   have hjl:j<ls.length:=by omega
   have hlj:=hin j (by omega) hje hjl;have elj:ls[j]=lb:=by
    have:ls.getD j 0=ls[j]:=by simp [hjl]
    rw [this] at hlj;simpa using hlj
   have hjT:j<T.length:=by omega
   have hjW:j<Ws.length:=by omega
   obtain ⟨⟨a,a2⟩,ea⟩:=gn T[j];have ham:=hm (a,a2) (by rw [←ea];simp);dsimp only at ham;have haL:a<LV.length:=by omega
   have hat:a<t.length:=by omega
   obtain ⟨v,ev⟩:=gn LV[a];obtain ⟨x,ex⟩:=gn Ws[j];have hxb:=hWb x (by rw [←ex];simp);have hsn:(Ws.drop b).take (d+1)=(Ws.drop b).take d++[x]:=by
    rw [List.take_add_one,List.getElem?_drop,ej,List.getElem?_eq_getElem hjW,ex];rfl
   have hss:=sumI_snoc ((Ws.drop b).take d) x;have hls:=lvG_snoc LV T b d;have d1:T.getD j (0,0)=(a,a2):=by simp [hjT,ea]
   have d2:LV.getD a 0=v:=by simp [haL,ev]
   rw [ej,d1] at hls;dsimp only at hls;rw [d2] at hls;rw [hsn,hss,hls,ej,ej2];obtain ⟨S,eS⟩:=gn (sumI ((Ws.drop b).take d))
   rw [eS] at hSb ⊢;have hLl:(lvG LV T b j).length=d:=by simp [lvG];omega
   obtain ⟨D,eD⟩:=gn (lvG LV T b j);rw [eD] at hLl ⊢;have wj:R ((j:Int)+1):=rO (by omega)
   have wS:R (-S - x):=rO (by omega);have hSx:-(S+x)=-S - x:=by omega
   have m1:d+1≤maxLen:=by unfold maxLen;omega
   have e1:(d+1)*8≤140737488355328:=by omega
   have hde:d<e - b:=by omega
   have ht:List.take (d+1) (D.map intRow++[[.int .i64 v]])=D.map intRow++[[.int .i64 v]]:=List.take_of_length_le (by simp;omega);have hjn':(j:Int)<n:=by omega
   rw [hSx];simp -dsimp [hjn,hjn',hT,hjl,elj,hbl,elb',hjT,ea,haL,hat,hL,ev,hjW,ex,hLl,ht,m1,e1,wr wj,wr wS,hde,spRow,intRow,List.range,List.range.loop,-List.all_eq_true,↓ awpC_of xc19e]
  ·have hje2:j=e:=by omega
   have hde:d=e - b:=by omega
   rw [ej,hje2];have hcond:¬((e:Int)<n)∨(∃ h:e<ls.length,ls[e]≠lb):=by
    by_cases he:e<ls.length
    ·right;refine ⟨he,?_⟩;have:=hout he;have hg:ls.getD e 0=ls[e]:=by simp [he]
     rw [hg] at this;simpa using this
    ·left;omega
   obtain ⟨S,eS⟩:=gn (sumI ((Ws.drop b).take d));rw [eS] at hSb ⊢;have hLl:(lvG LV T b e).length=d:=by simp [lvG];omega
   obtain ⟨D,eD⟩:=gn (lvG LV T b e);rw [←hde,eS] at z4;rw [eD] at hLl z4 ⊢;have q48:=b53 D (by omega) (by omega)
   have hG:=g145 (vsN D) (by rw [show (vsN D).length=D.length from vsL_len D 9];omega);have wS:R (-S+w):=rO (by omega);have htD:List.take d (D.map intRow)=D.map intRow:=List.take_of_length_le (by simp [hLl]);have hblz:b<ls.length:=hbl;have key:∀ (he1:(e:Int)<n→∃ h:e<ls.length,¬ls[e]=lb),True:=fun _=>trivial
   rcases hcond with hc | ⟨he,hne⟩
   ·have hc':¬e<n:=by omega
    simp -dsimp [hc,hc',hT,↓ awpC_of xc19e];subst hde;refine awpC_in (x17e t hl w hw n hn _ _ _ Fs Ws ls X D hW z3 b e hbe (by omega) hLl S (by omega) hWb (fun x' a131=>?_));simp -dsimp;have ez:(if baseN t=2 then w - S else 0)=(if rt=true then w - S else 0):=by rw [←ert];simp
    rw [ez];exact ⟨by omega,e,_,⟨by omega,by omega,by rw [xK_len];exact z3,z4⟩,rfl,rfl⟩
   ·have hc:(e:Int)<n:=by omega
    have hc':e<n:=by omega
    simp -dsimp [hc,hc',hT,he,hne,hbl,elb',intRow,↓ awpC_of xc19e];subst hde;refine awpC_in (x17e t hl w hw n hn _ _ _ Fs Ws ls X D hW z3 b e hbe (by omega) hLl S (by omega) hWb (fun x' a131=>?_));simp -dsimp;have ez:(if baseN t=2 then w - S else 0)=(if rt=true then w - S else 0):=by rw [←ert];simp
    rw [ez];exact ⟨by omega,e,_,⟨by omega,by omega,by rw [xK_len];exact z3,z4⟩,rfl,rfl⟩
 ·have hx:X=Xf:=by
   rw [←z4];cases n - k with
   | zero=>rfl
   | succ m=>rw [xsF,if_neg (by omega)]
  subst hx;have hl6:=plcL_len Fs ls X Ws n;have ht:List.take n ((plcL Fs ls X Ws n).map plcRow)=(plcL Fs ls X Ws n).map plcRow:=List.take_of_length_le (by simp [hl6]);simp -dsimp [h,hT,K17,resOf,hl6,ht,okV_ref,↓ awpC_of xc19e];exact ⟨82,n,⟨rfl,rfl⟩,by simp⟩
theorem zerosI_get (n i:Nat):(zerosI n).getD i 0=0:=by
 unfold zerosI;rw [List.getD_eq_getElem?_getD,List.getElem?_replicate];split<;>rfl
theorem x17c (t:List UInt8) (hl:t.length≤100) (w:Int) (hw:-1000000≤w∧w≤1000000) (T:List (Nat×Nat)) (n:Nat) (hT:T.length=n) (hn:n≤100) (Fs Ws LV ls:List Int) (hF:Fs.length=n) (hW:Ws.length=n) (hL:LV.length=t.length) (hls:ls.length=n)
  (hm:∀ x∈T,x.1<x.2∧x.2≤t.length) (hWb:∀ x∈Ws,0≤x∧x≤40000000000000000) :
  awp Tryz.prog xc19c (K17 (V17 Ws LV T Fs ls (decide (baseN t=2)) w n)) ⟨[(1,.p (.str (ba t))),(3,.p (.int .i64 w)),(8,.ptr (8,0) 1 0 0),(9,.p (.sl 2 (T.map spRow))),(10,.ptr (10,0) 1 0 0),(11,.p (.sl 1 (Fs.map intRow))),(12,.p (.sl 1 (LV.map intRow))),(16,.p (.sl 1 (ls.map intRow)))],
   [((8,0),.box [.ref (82,0) 6 0 0]),((10,0),.box [.p (.sl 1 (Ws.map intRow))]),((82,0),.sl 60 6 [])]⟩:=by
 have hd:=x17d t hl w hw T n hT hn Fs Ws LV ls hF hW hL hls hm hWb;obtain ⟨V,eV⟩:=gn (V17 Ws LV T Fs ls (decide (baseN t=2)) w n);rw [eV] at hd ⊢;simp -dsimp [xc19c,hT,↓ awpC_of xc19d];refine loopC n (fun k=>⟨[(1,.p (.str (ba t))),(3,.p (.int .i64 w)),(8,.ptr (8,0) 1 0 0),(9,.p (.sl 2 (T.map spRow))),(10,.ptr (10,0) 1 0 0),(11,.p (.sl 1 (Fs.map intRow))),(12,.p (.sl 1 (LV.map intRow))),(16,.p (.sl 1 (ls.map intRow))),(62,.p (.int .i64 n)),(63,.p (.int .i64 k))],
   [((8,0),.box [.ref (82,k) 6 0 k]),((10,0),.box [.p (.sl 1 (Ws.map intRow))]),((82,k),.sl 60 6 ((plcL Fs ls (zerosI n) Ws k).map plcRow))]⟩) (fun _=>True) (fun k hk _=>?_) trivial (by simp [plcL])
 by_cases h:k<n
 ·have wk:R ((k:Int)+1):=rO (by omega);have m1:k+1≤maxLen:=by unfold maxLen;omega
  have e1:(k+1)*48≤140737488355328:=by omega
  have hs:=plcL_succ Fs ls (zerosI n) Ws k;have hl1:=plcL_len Fs ls (zerosI n) Ws k;have hz:=zerosI_get n k;obtain ⟨f,ef⟩:=gn (Fs[k]'(by omega));obtain ⟨l,el⟩:=gn (ls[k]'(by omega));obtain ⟨x,ex⟩:=gn (Ws[k]'(by omega));have h1:k<Fs.length:=by omega
  have h2:k<ls.length:=by omega
  have h3:k<Ws.length:=by omega
  have d1:Fs.getD k 0=f:=by simp [h1,ef]
  have d2:ls.getD k 0=l:=by simp [h2,el]
  have d3:Ws.getD k 0=x:=by simp [h3,ex]
  rw [d1,d2,d3,hz] at hs;rw [hs];obtain ⟨M,eM⟩:=gn (plcL Fs ls (zerosI n) Ws k)
  rw [eM] at hl1 ⊢;simp -dsimp [h,h1,h2,h3,ef,el,ex,intRow,m1,e1,hl1,wr wk,List.range,List.range.loop,-List.all_eq_true,↓ awpC_of xc19d]
 ·have:k=n:=by omega
  subst this;simp -dsimp [h,↓ awpC_of xc19d];exact awpC_in hd
theorem widthsN_b {cs:List Cor} (hcs:CorsOk2 cs) {t:List UInt8} {s:Stg} (h1:fitN s=true):∀ x∈widthsN cs t s,0≤x∧x≤40000000000000000:=by
 intro x hx;unfold widthsN at hx;rw [if_pos h1] at hx;obtain ⟨i,hi,rfl⟩:=List.mem_map.1 hx
 have hi:i<(splT t).length:=by simpa using hi
 obtain ⟨f1,f2,f3⟩:=fitN_b h1;unfold wdN;split
 ·omega
 ·split
  ·have:s.size.tdiv 2=s.size / 2:=Int.tdiv_eq_ediv_of_nonneg (by omega);omega
  ·rename_i h2;obtain ⟨m,hm1,hm2⟩:=fontN_lt h2;have hc:=hcs.2 cs[m] (List.getElem_mem hm2);have hg:cs.getD (fontN cs t ((splT t).getD i (0,0))).toNat cor0=cs[m]:=by rw [hm1];simp [hm2]
   rw [hg];have hb:=sumW_b hc.prb s (codesT t ((splT t).getD i (0,0)).1 ((splT t).getD i (0,0)).2) (befN cs t i);have hl:=codesT_len (t:=t) (a:=((splT t).getD i (0,0)).1) (b:=((splT t).getD i (0,0)).2);have hm:=splT_mem (t:=t) (a:=((splT t).getD i (0,0)).1) (b:=((splT t).getD i (0,0)).2) (by
    have:(splT t).getD i (0,0)=(splT t)[i]:=by simp [hi]
    rw [this];exact List.getElem_mem hi)
   omega
theorem fillF_len {E:Nat→Int} {n:Nat} (hE:∀ s,s<n→(s:Int)≤E s∧E s<n):∀ (m:Nat) (L:List Int) (line:Int),n - L.length≤m→L.length≤n→(fillF E n m L line).length=n
 | 0,L,line,h1,h2=>by rw [fillF];omega
 | m+1,L,line,h1,h2=>by
  rw [fillF];split
  ·rename_i h;have:=hE L.length h;exact fillF_len hE m _ _ (by simp;omega) (by simp;omega)
  ·omega
theorem fillN_len {ws ms:List Int} {sp:List Bool} {W:Int} {n:Nat}:(fillN ws ms sp W n).length=n:=
 fillF_len (fun s h=>endN_range h) n [] 0 (by simp) (by simp)
theorem b19 (cs:List Cor) (hcs:CorsOk2 cs) (t:List UInt8) (hl:t.length≤100) (s:Stg) (hs:s.at_.length≤1000) (w:Int) (hw:-1000000≤w∧w≤1000000) (h1:fitN s=true) :
  Bt 19 [.sl 9 (cs.map corRow),.str (ba t),.agg (stgRow s),.int .i64 w] (.own (fun u=>.ref u 6 0 (placesN cs t s w).length) (.sl 60 6 ((placesN cs t s w).map plcRow))):=by
 refine best mixed fn19 ok19 (by simp [stgRow]) ?_;obtain ⟨V,eV⟩:=gn (placesN cs t s w);rw [eV];unfold placesN at eV;have q37:=b47 s hs
 simp -dsimp [ac19,stgRow,↓ awpC_of xc19b];refine call_p q37 (by simp [stgRow]) (by simp) ?_;rw [if_pos h1] at eV;obtain ⟨f1,f2,f3⟩:=fitN_b h1
 simp -dsimp [h1,↓ awpC_of xc19b];refine cP (b23 t (by omega)) ?_;simp -dsimp [↓ awpC_of xc19b];refine call_p (b48 cs hcs t (by omega) s hs) (by simp [stgRow]) (by simp) ?_;simp -dsimp [↓ awpC_of xc19b];refine cP (b21 cs hcs.one t (by omega)) ?_;simp -dsimp [↓ awpC_of xc19b];refine cP (b22 t (by omega)) ?_;simp -dsimp [↓ awpC_of xc19b];have hn:(splT t).length≤100:=by have:=splT_len t;omega
 have m0:((splT t).length:Int)≤281474976710656:=by omega
 have f0:((splT t).length:Int)≤9223372036854775807:=by omega
 have hm:∀ x∈splT t,x.1<x.2∧x.2≤t.length∧x.2 - x.1≤6:=fun x hx=>splT_mem hx
 simp -dsimp [m0,f0,↓ awpC_of xc19b];refine ⟨fun a b b1 e1 e2 _=>⟨fun e=>by omega,fun e=>by omega⟩,?_⟩;have q46:=b51 t (by omega);have hWl:(widthsN cs t s).length=(splT t).length:=by simp [widthsN,h1]
 have hWb:∀ x∈widthsN cs t s,0≤x∧x≤40000000000000000:=widthsN_b hcs h1;have hFl:(fontsN cs t).length=(splT t).length:=by simp [fontsN]
 have hLl:=levT_len t;have hMl:(mayL t).length=(splT t).length:=by simp [mayL]
 have hSl:(spcL t).length=(splT t).length:=by simp [spcL]
 have q45:=b50 (widthsN cs t s) (mayL t) (spcL t) w (splT t).length hWl hSl hMl (by omega);have hs0:=spcK_0 t;have hse:=spcK_end t;have hss:=spcK_succ t;have hsl:=fun k=>spcK_len (t:=t) (k:=k)
 have eL:fillN (widthsN cs t s) (mayL t) (spcL t) w (splT t).length=linesN cs t s w:=rfl;rw [eL] at q45;have hlsl:(linesN cs t s w).length=(splT t).length:=fillN_len
 obtain ⟨T,eT⟩:=gn (splT t);obtain ⟨Fs,eF⟩:=gn (fontsN cs t);obtain ⟨Ws,eW⟩:=gn (widthsN cs t s);obtain ⟨LV,eLV⟩:=gn (levT t);obtain ⟨ls,els⟩:=gn (linesN cs t s w);obtain ⟨ms,ems⟩:=gn (mayL t);simp only [eT,eF,eW,eLV,els,ems] at hlsl hm hn m0 f0 hWl hFl hLl hMl hSl q46 q45 hs0 hse hss hsl eV hWb ⊢;rw [hs0];refine loopC T.length (fun k=>⟨[(1,.p (.str (ba t))),(3,.p (.int .i64 w)),(8,.ptr (8,0) 1 0 0),(9,.p (.sl 2 (T.map spRow))),(10,.ptr (10,0) 1 0 0),(11,.p (.sl 1 (Fs.map intRow))),(12,.p (.sl 1 (LV.map intRow))),(13,.ref (39,0) 1 0 T.length),(40,.p (.sl 2 (T.map spRow))),(41,.p (.int .i64 T.length)),(42,.p (.int .i64 k))],
  [((8,0),.box [.p .nsl]),((10,0),.box [.p (.sl 1 (Ws.map intRow))]),((39,0),.sl 4 1 ((spcK t k).map boolRow))]⟩) (fun _=>True) (fun k hk _=>?_) trivial (by simp)
 by_cases h:k<T.length
 ·obtain ⟨⟨a,b⟩,ex⟩:=gn T[k];obtain ⟨hab,hb,h6⟩:=hm (a,b) (by rw [←ex];simp);dsimp only at hab hb h6;have exd:T.getD k (0,0)=(a,b):=by simp [h,ex]
  have hs1:=hss k;rw [exd] at hs1;dsimp only at hs1;have hl1:=hsl k
  obtain ⟨M,eM⟩:=gn (spcK t k);rw [eM] at hs1 hl1;rw [eM,hs1];have wk:R ((k:Int)+1):=rO (by omega)
  have hkM:k<M.length:=by omega
  have htl:(boolRow M[k]).tail=[]:=rfl;simp -dsimp [h,ex,spRow,↓ awpC_of xc19b];refine call_p (b49 t a b hab hb (by omega)) (by simp [spRow]) (by simp) ?_;simp -dsimp [h,hl1,hkM,htl,wr wk,-List.all_eq_true,↓ awpC_of xc19b]
 ·have:k=T.length:=by omega
  subst this;rw [hse];simp -dsimp [h,↓ awpC_of xc19b];refine awpC_in ?_;have hd:=x17c t hl w hw T T.length rfl hn Fs Ws LV ls hFl hWl hLl hlsl (fun x hx=>⟨(hm x hx).1,(hm x hx).2.1⟩) hWb;have eV2:V17 Ws LV T Fs ls (decide (baseN t=2)) w T.length=V:=eV;rw [eV2] at hd;have htk:List.take T.length ((spcL t).map boolRow)=(spcL t).map boolRow:=List.take_of_length_le (by simp [hSl])
  simp -dsimp [xc19b,hSl,htk,↓ awpC_of xc19c];refine cP q46 ?_;simp -dsimp [↓ awpC_of xc19c];refine call_p q45 (by simp [hSl,htk]) (by simp) ?_;simp -dsimp [↓ awpC_of xc19c];exact awpC_in hd
end
section
def LStep (L:List Int):Prop:=(∀ i,i+1<L.length→L.getD (i+1) 0=L.getD i 0∨L.getD (i+1) 0=L.getD i 0+1)∧(0<L.length→L.getD 0 0=0)
theorem fillF_step {E:Nat→Int} {n:Nat} (hE:∀ s,s<n→(s:Int)≤E s∧E s<n):∀ (m:Nat) (L:List Int) (line:Int),LStep L→(0<L.length→L.getD (L.length - 1) 0=line - 1)→(L.length=0→line=0)→LStep (fillF E n m L line)
 | 0,L,line,h1,_,_=>by rw [fillF];exact h1
 | m+1,L,line,h1,h2,h3=>by
  rw [fillF];split
  ·rename_i c;have a:=hE _ c;obtain ⟨k,ek⟩:=gn ((E L.length).toNat+1 - L.length);rw [ek];have hk:0<k:=by omega
   have g1:∀ j,j<L.length→(L++List.replicate k line).getD j 0=L.getD j 0:=fun j q=>by simp [List.getD_eq_getElem?_getD,List.getElem?_append_left q]
   have g2:∀ j,L.length≤j→j<L.length+k→(L++List.replicate k line).getD j 0=line:=fun j q q'=>by
    have:j - L.length<k:=by omega
    simp [List.getD_eq_getElem?_getD,List.getElem?_append_right q,this]
   refine fillF_step hE m _ _ ⟨fun i hi=>?_,fun _=>?_⟩ (fun _=>?_) (fun h=>by simp at h;omega)
   ·simp at hi
    by_cases q:i+1<L.length
    ·rw [g1 _ q,g1 i (by omega)];exact h1.1 i q
    ·rw [g2 (i+1) (by omega) (by omega)]
     by_cases q2:i<L.length
     ·rw [g1 i q2];have:=h2 (by omega);rw [show L.length - 1=i by omega] at this;omega
     ·rw [g2 i (by omega) (by omega)];omega
   ·by_cases q:0<L.length
    ·rw [g1 0 q];exact h1.2 q
    ·rw [g2 0 (by omega) (by omega)];exact h3 (by omega)
   ·rw [g2 _ (by simp;omega) (by simp;omega)];omega
  ·exact h1
theorem fillN_step {ws ms:List Int} {sp:List Bool} {W:Int} {n:Nat}:LStep (fillN ws ms sp W n):=
 fillF_step (fun s h=>endN_range h) n [] 0 ⟨fun i h=>by simp at h,fun h=>by simp at h⟩ (fun h=>by simp at h) (fun _=>rfl)
end
end Go.Abs.A30
