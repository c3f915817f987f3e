/- A part of the proof: an abstract reading of the model, contracts of functions. -/
import Derived.Test.YtlkbeomimbohlaaGreatC17
set_option linter.unusedVariables false
set_option linter.unusedSimpArgs false
namespace Go.Abs.A30
open Go Go.Abs Go.Proofs
set_option maxRecDepth 100000
set_option linter.unusedVariables false
set_option linter.unusedSimpArgs false
attribute [local simp ↓] awp_skip awp_seq awp_cond awp_block awp_exit awp_ret awp_reg awp_draw awp_ghost awp_loop awp_rfun awpR_nil awpR_cons awpX_nil awpX_0 awpX_1 awpX_2 awpI_eq awpI_t awpI_f awpStep_eq
attribute [local simp] condL_true condL_false condL_dec evDel evV evN evS evA initFr Ghost.app Fr.var Fr.blk Fr.ff FF.val Abs.look Fr.app Fr.erase Fr.noSlot AV.noSlot AV.noSlotL Blk.noSlot Fr.spoken AV.fz AV.fzL Blk.fz binV binI shI binS unV fillA FF.parts FF.vals headO intO boundO lenV scalarEq leavesEq AV.aggc AV.cells FF.read FF.rows AV.one PV.one chunk freshB newS pickV retK evRs evRl evR resOf mkTup mkAgg allP cloOf okP_nil okX_p okX okP addN Del.noSlot Del.owners Rnd reify_p normM insM Fr.back Fr.backV Fr.setPs normV insV
attribute [local simp] renF Fr.trim Blk.trim AV.rn AV.rnL Blk.rn AV.among AV.amongL Blk.among okF retM fixS BIG initFF
attribute [local simp] FF.reify FF.reifyL PV.flat
section
set_option maxHeartbeats 4000000
attribute [local simp] ba_size wb ba_at w1 w6
theorem b64 (t:List UInt8):Best Tryz.prog 64 [.str (ba t)] (.p (.clo (.func 111) [] [.ro [.str (ba t)]])):=by
 refine best mixed fn64 ok64 (by simp) ?_
 simp -dsimp [ac64]
def spQ (L:List Nat) (k n:Nat):List (Nat×Nat):=(List.range k).map fun j=>(L.getD j 0,if j+1<k then L.getD (j+1) 0 else n)
def spRow (x:Nat×Nat):List PV:=[.int .i64 x.1,.int .i64 x.2]
@[simp] theorem spQ_len {L:List Nat} {k n:Nat}:(spQ L k n).length=k:=by simp [spQ]
theorem spQ_get {L:List Nat} {k n j:Nat} (h:j<k):(spQ L k n)[j]'(by simpa using h)=(L.getD j 0,if j+1<k then L.getD (j+1) 0 else n):=by simp [spQ]
theorem spQ_succ {L:List Nat} {k n:Nat}:(spQ L (k+1) n).set k (L.getD k 0,L.getD (k+1) 0)++[(L.getD (k+1) 0,n)]=spQ L (k+2) n:=by
 apply List.ext_getElem
 ·simp
 ·intro i h1 h2
  simp at h1 h2
  rw [List.getElem_append]
  by_cases hi:i<k+1
  ·rw [dif_pos (by simpa using hi),List.getElem_set,spQ_get h2]
   by_cases hk:k=i
   ·subst hk;simp
   ·rw [if_neg hk,spQ_get hi]
    rw [if_pos (by omega),if_pos (by omega)]
  ·rw [dif_neg (by simpa using hi),spQ_get h2]
   have:i=k+1:=by omega
   subst this
   simp
def splT (t:List UInt8):List (Nat×Nat):=spQ (stT t t.length).1 (stT t t.length).1.length t.length
theorem oneSp (z:List (Nat×Nat)):((z.map spRow).all fun r=>r.all PV.one)=true:=by
 rw [List.all_eq_true];intro r hr;obtain ⟨x,_,rfl⟩:=List.mem_map.1 hr;rfl
attribute [local simp ↓] oneSp
theorem b23 (t:List UInt8) (hl:t.length≤1000000):Best Tryz.prog 23 [.str (ba t)] (.p (.sl 2 ((splT t).map spRow))):=by
 refine best mixed fn23 ok23 (by simp) ?_
 simp -dsimp [ac23]
 refine call_p (b64 t) (by simp) (by simp) ?_
 simp -dsimp
 obtain ⟨L,eL⟩:∃ L,(stT t t.length).1=L:=⟨_,rfl⟩
 have hG:=g111 t hl
 rw [eL] at hG
 have hLn:L.length≤t.length:=eL ▸ stT_len t t.length
 refine rfunL_rule rfl rfl hG (fun k F=>F=⟨[(1,.ptr (1,0) 1 0 0),(3,.ptr (3,0) 1 0 0),(7,.p (.clo (.func 111) [] [.ro [.str (ba t)]]))],[((1,0),.box [.p (.str (ba t))]),((3,0),.box [.ref (999980,k+1) 2 0 k]),((999980,k+1),.sl 76 2 ((spQ L k t.length).map spRow))]⟩) ?_ ?_ (by simp [spQ])
 ·rintro k z F hz rfl
  have hk:k<L.length:=by have:=(List.getElem?_eq_some_iff.1 hz).1;simpa using this
  rw [List.getElem?_map,List.getElem?_eq_getElem hk] at hz
  simp at hz;subst hz
  have m1:k+1≤maxLen:=by unfold maxLen;omega
  have e1:(k+1)*16≤140737488355328:=by omega
  have hg:L.getD k 0=L[k]:=by simp [hk]
  refine ⟨rfl,?_⟩
  cases k with
  | zero=>
   simp -dsimp [natRow,m1,e1,List.range,List.range.loop,-List.all_eq_true]
   simp [spQ,spRow,hk]
  | succ k=>
   have wk:R (k:Int):=⟨by omega,by omega⟩
   have hkk:(k:Int)<(k:Int)+1:=by omega
   have hk0:k<L.length:=by omega
   obtain ⟨a,ea⟩:∃ a,L[k]=a:=⟨_,rfl⟩
   have e2:(spQ L (k+1) t.length)[k]'(by simp)=(a,t.length):=by rw [spQ_get (by omega),if_neg (by omega)];simp [hk0,ea]
   have hs:=spQ_succ (L:=L) (k:=k) (n:=t.length)
   have hg0:L.getD k 0=a:=by simp [hk0,ea]
   rw [hg,hg0] at hs
   simp -dsimp [natRow,m1,e1,wr wk,hkk,e2,spRow,List.range,List.range.loop,-List.all_eq_true]
   rw [←hs,List.map_append,List.map_set]
   rfl
 ·rintro F rfl
  have ht:List.take L.length ((spQ L L.length t.length).map spRow)=(spQ L L.length t.length).map spRow:=List.take_of_length_le (by simp)
  simp -dsimp [ht,splT,eL]
def baseT (t:List UInt8) (a b:Nat):Nat:=((List.range b).find? fun i=>decide (a≤i) && !extN (cT t i)).getD a
theorem baseT_at {t:List UInt8} {a b i:Nat} (h1:a≤i) (h2:i<b) (h:extN (cT t i)=false) (hn:∀ j,a≤j→j<i→extN (cT t j)=true):baseT t a b=i:=by
 have:(List.range b).find? (fun i=>decide (a≤i) && !extN (cT t i))=some i:=by
  rw [List.find?_eq_some_iff_getElem]
  refine ⟨by simp [h1,h],i,by simpa using h2,by simp,fun j hj=>?_⟩
  by_cases haj:a≤j
  ·simp [hn j haj hj]
  ·simp [haj]
 unfold baseT;rw [this];rfl
theorem baseT_none {t:List UInt8} {a b:Nat} (hn:∀ j,a≤j→j<b→extN (cT t j)=true):baseT t a b=a:=by
 have:(List.range b).find? (fun i=>decide (a≤i) && !extN (cT t i))=none:=by
  rw [List.find?_eq_none]
  intro j hj
  have hj:j<b:=by simpa using hj
  by_cases haj:a≤j
  ·simp [hn j haj hj]
  ·simp [haj]
 unfold baseT;rw [this];rfl
theorem baseT_le {t:List UInt8} {a b:Nat} (h:a<b):a≤baseT t a b∧baseT t a b<b:=by
 by_cases hx:∃ i,a≤i∧i<b∧extN (cT t i)=false
 ·obtain ⟨i,h1,h2⟩:=least (p:=fun i=>a≤i∧i<b∧extN (cT t i)=false) hx
  rw [baseT_at h1.1 h1.2.1 h1.2.2 fun j h3 h4=>by
   cases e:extN (cT t j) with
   | true=>rfl
   | false=>exact absurd ⟨h3,by omega,e⟩ (h2 j h4)]
  exact ⟨h1.1,h1.2.1⟩
 ·rw [baseT_none fun j h1 h2=>by
   cases e:extN (cT t j) with
   | true=>rfl
   | false=>exact absurd ⟨j,h1,h2,e⟩ hx]
  exact ⟨Nat.le_refl _,h⟩
theorem b25 (t:List UInt8) (a b:Nat) (hab:a<b) (hb:b≤t.length) (hl:t.length≤1000000):Best Tryz.prog 25 [.str (ba t),.agg (spRow (a,b))] (.p (.int .i64 (baseT t a b))):=by
 refine best mixed fn25 ok25 (by simp [spRow]) ?_
 have n1:¬(a:Int)<0:=by omega
 have n2:¬(b:Int)≤a:=by omega
 have n3:¬(t.length:Int)<b:=by omega
 simp -dsimp [ac25,spRow,n1,n2,n3]
 refine loopC (b - a) (fun k=>⟨[(0,.p (.str (ba t))),(3,.ptr (3,0) 2 0 0),(5,.p (.int .i64 ((a+k:Nat):Int)))],[((3,0),.box [.p (.int .i64 a),.p (.int .i64 b)])]⟩) (fun k=>∀ j,a≤j→j<a+k→extN (cT t j)=true) (fun k hk hall=>?_) (by intro j h1 h2;omega) (by simp)
 obtain ⟨q,eq⟩:∃ q,a+k=q:=⟨_,rfl⟩
 rw [eq] at hall
 dsimp only
 rw [eq]
 by_cases h:q<b
 ·have h':(q:Int)<b:=by omega
  have hq:q<t.length:=by omega
  have wk:R ((q:Int)+1):=⟨by omega,by omega⟩
  simp -dsimp [h',h,hq]
  refine call_p (b66 (cT t q)) (by simp [cT]) (by simp) ?_
  cases e:extN (cT t q) with
  | false=>
   have hr:=baseT_at (a:=a) (b:=b) (by omega) h e hall
   simp -dsimp [hr]
   try omega
  | true=>
   simp -dsimp [wr wk]
   refine ⟨by omega,fun j h1 h2=>?_,by omega⟩
   by_cases hj:j=q
   ·rw [hj];exact e
   ·exact hall j h1 (by omega)
 ·have h':¬(q:Int)<b:=by omega
  have hr:=baseT_none (t:=t) (a:=a) (b:=b) fun j h1 h2=>hall j h1 (by omega)
  simp -dsimp [h',h,hr]
end
section
set_option maxHeartbeats 4000000
attribute [local simp] ba_size wb ba_at w1 w6
attribute [local simp ↓] oneSp
attribute [local simp ↓] oneI
def plP (t:List UInt8) (has:Bool) (cs:List Int) (i:Nat):Bool:=(cs.any fun c=>decide (clsT t i=c)) == has
def plT (t:List UInt8) (has:Bool) (cs:List Int) (a b:Nat):List Nat:=(List.range' a (b - a)).filter (plP t has cs)
theorem plT_succ {t:List UInt8} {has:Bool} {cs:List Int} {a k:Nat}:plT t has cs a (a+(k+1))=if plP t has cs (a+k) then plT t has cs a (a+k)++[a+k] else plT t has cs a (a+k):=by
 unfold plT
 rw [show a+(k+1) - a=k+1 by omega,show a+k - a=k by omega,List.range'_concat,List.filter_append]
 simp only [Nat.one_mul]
 by_cases h:plP t has cs (a+k)=true
 ·simp [h]
 ·simp [h]
theorem plT_len {t:List UInt8} {has:Bool} {cs:List Int} {a b:Nat}:(plT t has cs a b).length≤b - a:=by
 have:=List.length_filter_le (plP t has cs) (List.range' a (b - a))
 simpa [plT] using this
theorem b149' (t:List UInt8) (a b:Nat) (has:Bool) (cs:List Int) (hab:a≤b) (hb:b≤t.length) (hl:t.length≤1000000) (hc:cs.length≤1000) :
  BestF Tryz.prog 149 [((BIG,0),.sl 3 1 (cs.map intRow))] [.p (.str (ba t)),.p (.agg (spRow (a,b))),.p (.bool has),.ref (BIG,0) 1 0 cs.length] [(BIG,0)] (.ref (999980,0) 1 0 (plT t has cs a b).length) [((999980,0),.sl 3 1 ((plT t has cs a b).map natRow)),((BIG,0),.sl 3 1 (cs.map intRow))]:=by
 refine bestF mixed fn149 ok149 (by simp [spRow]) (by simp) ?_
 simp -dsimp [ac149,spRow,↓ awpC_of xc149b]
 refine loopC (b - a) (fun k=>⟨[(0,.p (.str (ba t))),(2,.p (.bool has)),(3,.ref (1000000,0) 1 0 cs.length),(5,.ptr (5,0) 2 0 0),(8,.ref (44,0) 1 0 (plT t has cs a (a+k)).length),(9,.p (.int .i64 ((a+k:Nat):Int)))],[((5,0),.box [.p (.int .i64 a),.p (.int .i64 b)]),((44,0),.sl 3 1 ((plT t has cs a (a+k)).map natRow)),((1000000,0),.sl 3 1 (cs.map intRow))]⟩) (fun _=>True) (fun k hk _=>?_) trivial (by simp [plT])
 obtain ⟨q,eq⟩:∃ q,a+k=q:=⟨_,rfl⟩
 have hs:=plT_succ (t:=t) (has:=has) (cs:=cs) (a:=a) (k:=k)
 have hpl:=plT_len (t:=t) (has:=has) (cs:=cs) (a:=a) (b:=a+k)
 have e1:a+(k+1)=q+1:=by omega
 rw [e1] at hs
 dsimp only
 rw [e1]
 rw [eq] at hs hpl ⊢
 by_cases h:q<b
 ·have h':(q:Int)<b:=by omega
  have hq:q<t.length:=by omega
  have wk:R ((q:Int)+1):=⟨by omega,by omega⟩
  simp -dsimp [h',h,↓ awpC_of xc149b]
  refine loopC cs.length (fun j=>⟨[(0,.p (.str (ba t))),(2,.p (.bool has)),(3,.ref (1000000,0) 1 0 cs.length),(5,.ptr (5,0) 2 0 0),(8,.ref (44,0) 1 0 (plT t has cs a q).length),(9,.p (.int .i64 (q:Int))),(10,.p (.bool ((cs.take j).any fun c=>decide (clsT t q=c)))),(21,.ref (1000000,0) 1 0 cs.length),(22,.p (.int .i64 cs.length)),(23,.p (.int .i64 j))],[((5,0),.box [.p (.int .i64 a),.p (.int .i64 b)]),((44,0),.sl 3 1 ((plT t has cs a q).map natRow)),((1000000,0),.sl 3 1 (cs.map intRow))]⟩) (fun _=>True) (fun j hj _=>?_) trivial (by simp)
  by_cases h2:j<cs.length
  ·obtain ⟨c,ec⟩:∃ c,cs[j]=c:=⟨_,rfl⟩
   have wj:R ((j:Int)+1):=⟨by omega,by omega⟩
   have hn:(cs.take (j+1)).any (fun c=>decide (clsT t q=c))=((cs.take j).any (fun c=>decide (clsT t q=c)) || decide (clsT t q=c)):=by
    rw [List.take_add_one,List.getElem?_eq_getElem h2,ec];simp
   rw [hn]
   obtain ⟨f,ef⟩:∃ f,(cs.take j).any (fun c=>decide (clsT t q=c))=f:=⟨_,rfl⟩
   rw [ef]
   cases f with
   | true=>simp -dsimp [h2,ec,intRow,wr wj]
   | false=>
    simp -dsimp [h2,ec,intRow,wr wj,hq]
    refine call_p (b24 (cT t q)) (by simp [cT]) (by simp) ?_
    simp -dsimp [h2,wr wj,clsT]
    rfl
  ·have:j=cs.length:=by omega
   subst this
   rw [List.take_length]
   simp -dsimp [h2,↓ awpC_of xc149b]
   refine awpC_in ?_
   obtain ⟨f,ef⟩:∃ f,cs.any (fun c=>decide (clsT t q=c))=f:=⟨_,rfl⟩
   rw [ef]
   obtain ⟨L,eL⟩:∃ L,plT t has cs a q=L:=⟨_,rfl⟩
   rw [eL] at hs hpl ⊢
   have m1:L.length+1≤maxLen:=by unfold maxLen;omega
   have e2:(L.length+1)*8≤140737488355328:=by omega
   have hp:plP t has cs q=(f == has):=by unfold plP;rw [ef]
   rw [hp] at hs
   rw [hs]
   have ht:List.take (L.length+1) (L.map natRow++[[.int .i64 (q:Int)]])=L.map natRow++[[.int .i64 (q:Int)]]:=List.take_of_length_le (by simp)
   have hone:((L.map natRow).all fun r=>r.all PV.one)=true:=by
    rw [List.all_eq_true];intro r hr;obtain ⟨x,_,rfl⟩:=List.mem_map.1 hr;rfl
   have ht0:List.take L.length (L.map natRow)=L.map natRow:=List.take_of_length_le (by simp)
   cases f<;>cases has
   all_goals
    simp -dsimp [xc149b,wr wk,m1,e2,ht,ht0,hone,List.range,List.range.loop,-List.all_eq_true]
    first | omega | exact ⟨by omega,rfl⟩
 ·have h':¬(q:Int)<b:=by omega
  have:q=b:=by omega
  subst this
  simp -dsimp [h',retF]
theorem b149 (t:List UInt8) (a b:Nat) (has:Bool) (cs:List Int) (hab:a≤b) (hb:b≤t.length) (hl:t.length≤1000000) (hc:cs.length≤1000) (s s':Slot) (hs:s≠s') :
  BestF Tryz.prog 149 [(s,.sl 3 1 (cs.map intRow))] [.p (.str (ba t)),.p (.agg (spRow (a,b))),.p (.bool has),.ref s 1 0 cs.length] [s] (.ref s' 1 0 (plT t has cs a b).length) [(s',.sl 3 1 ((plT t has cs a b).map natRow)),(s,.sl 3 1 (cs.map intRow))]:=by
 have g:=(b149' t a b has cs hab hb hl hc).ren (fun q=>if q=(BIG,0) then s else s') (fun q=>if q=s then (BIG,0) else (999980,0)) (by simp) (by simp;grind) (by simp) (by simp) (by simp)
 simpa [rnM,Blk.rnF,AV.rnFL,AV.rnF] using g
def ordT (t:List UInt8) (a b:Nat):List Nat:=plT t true [12] a b++plT t false [12,13,14] a b
theorem ordT_len {t:List UInt8} {a b:Nat}:(ordT t a b).length≤2*(b - a):=by
 have h1:=plT_len (t:=t) (has:=true) (cs:=[12]) (a:=a) (b:=b)
 have h2:=plT_len (t:=t) (has:=false) (cs:=[12,13,14]) (a:=a) (b:=b)
 simp [ordT];omega
theorem oneN (z:List Nat):((z.map natRow).all fun r=>r.all PV.one)=true:=by
 rw [List.all_eq_true];intro r hr;obtain ⟨x,_,rfl⟩:=List.mem_map.1 hr;rfl
attribute [local simp ↓] oneN
theorem b103 (t:List UInt8) (a b:Nat) (hab:a<b) (hb:b≤t.length) (hl:t.length≤1000000) :
  Best Tryz.prog 103 [.str (ba t),.agg (spRow (a,b))] (.own (fun s=>.ref s 1 0 (ordT t a b).length) (.sl 3 1 ((ordT t a b).map natRow))):=by
 refine best mixed fn103 ok103 (by simp [spRow]) ?_
 have n1:¬(a:Int)<0:=by omega
 have n2:¬(b:Int)≤a:=by omega
 have n3:¬(t.length:Int)<b:=by omega
 have q1:=b149 t a b true [12] (by omega) hb hl (by simp) (24,0) (25,0) (by decide)
 have q2:=b149 t a b false [12,13,14] (by omega) hb hl (by simp) (28,0) (29,0) (by decide)
 simp -dsimp [ac103,spRow,n1,n2,n3,List.range,List.range.loop]
 refine call_m q1 (by simp [intRow]) (by simp) (by simp) ?_
 have h1:=plT_len (t:=t) (has:=true) (cs:=[12]) (a:=a) (b:=b)
 have h2:=plT_len (t:=t) (has:=false) (cs:=[12,13,14]) (a:=a) (b:=b)
 have m1:(plT t true [12] a b).length+(plT t false [12,13,14] a b).length≤maxLen:=by unfold maxLen;omega
 have e1:((plT t true [12] a b).length+(plT t false [12,13,14] a b).length)*8≤140737488355328:=by omega
 have ht:List.take (plT t false [12,13,14] a b).length ((plT t false [12,13,14] a b).map natRow)=(plT t false [12,13,14] a b).map natRow:=List.take_of_length_le (by simp)
 simp -dsimp [List.range,List.range.loop]
 refine call_m q2 (by simp [intRow]) (by simp) (by simp) ?_
 simp -dsimp [m1,e1,ht,List.range,List.range.loop,-List.all_eq_true,resOf,ordT]
 exact okV_ref 1 0 _
end
end Go.Abs.A30
namespace Go.Abs.A30
open Go Go.Abs Go.Proofs
set_option maxRecDepth 100000
set_option maxHeartbeats 4000000
set_option linter.unusedVariables false
def ac151:AC:=by
 apply fun (y:AC) (_:@Eq AC (anF Tryz.prog 151 mu1 [] 0 0 []) y)=>y
 conv=>lhs;reduce;dsimp
theorem fn151:factOf Tryz.prog 151=some (ac151.strip,[.tmp 2],8):=by kernel_rfl
theorem ok151:ac151.okAll=true:=by kernel_rfl
def ac190:AC:=by
 apply fun (y:AC) (_:@Eq AC (anF Tryz.prog 190 mu1 [] 0 0 []) y)=>y
 conv=>lhs;reduce;dsimp
theorem fn190:factOf Tryz.prog 190=some (ac190.strip,[.tmp 2],25):=by kernel_rfl
theorem ok190:ac190.okAll=true:=by kernel_rfl
end Go.Abs.A30
namespace Go.Abs.A30
open Go Go.Abs Go.Proofs
set_option maxRecDepth 100000
set_option linter.unusedVariables false
set_option linter.unusedSimpArgs false
attribute [local simp ↓] awp_skip awp_seq awp_cond awp_block awp_exit awp_ret awp_reg awp_draw awp_ghost awp_loop awp_rfun awpR_nil awpR_cons awpX_nil awpX_0 awpX_1 awpX_2 awpI_eq awpI_t awpI_f awpStep_eq
attribute [local simp] condL_true condL_false condL_dec evDel evV evN evS evA initFr Ghost.app Fr.var Fr.blk Fr.ff FF.val Abs.look Fr.app Fr.erase Fr.noSlot AV.noSlot AV.noSlotL Blk.noSlot Fr.spoken AV.fz AV.fzL Blk.fz binV binI shI binS unV fillA FF.parts FF.vals headO intO boundO lenV scalarEq leavesEq AV.aggc AV.cells FF.read FF.rows AV.one PV.one chunk freshB newS pickV retK evRs evRl evR resOf mkTup mkAgg allP cloOf okP_nil okX_p okX okP addN Del.noSlot Del.owners Rnd reify_p normM insM Fr.back Fr.backV Fr.setPs normV insV
attribute [local simp] renF Fr.trim Blk.trim AV.rn AV.rnL Blk.rn AV.among AV.amongL Blk.among okF retM fixS BIG initFF
attribute [local simp] FF.reify FF.reifyL PV.flat
section
set_option maxHeartbeats 4000000
attribute [local simp] w1 w6
attribute [local simp ↓] oneN
theorem b219 (n:Int):Best Tryz.prog 219 [.int .i64 n] (.p (.bool false)):=by
 refine best mixed fn219 ok219 (by simp) ?_
 simp -dsimp [ac219]
theorem b186 (m n:Int):Best Tryz.prog 186 [.int .i64 m,.int .i64 n] (.p (.bool (decide (m<n)))):=by
 refine best mixed fn186 ok186 (by simp) ?_
 simp -dsimp [ac186]
 refine call_p (b219 m) (by simp) (by simp) ?_
 simp -dsimp
theorem swapL (A' B C:List Nat) (x y:Nat):(((A'++[y])++x :: (B++C)).set (A'.length+1) y).set A'.length x=A'++x :: (y :: B++C):=by
 simp [List.set_append]
def fr136 (n i j:Nat) (z:List Nat):Fr:=⟨[(0,.ref (1000000,0) 1 0 n),(1,.p (.int .i64 0)),(2,.p (.int .i64 n)),(6,.p (.int .i64 i)),(7,.p (.int .i64 j))],[((1000000,0),.sl 3 1 (z.map natRow))]⟩
attribute [local simp] fr136
theorem b180 (l:List Nat) (n:Nat) (hn:l.length=n) (hl:n≤1000):∃ l':List Nat,(l'.Perm l∧l'.Pairwise (·≤·)) ∧
  BestF Tryz.prog 180 [((BIG,0),.sl 3 1 (l.map natRow))] [.ref (BIG,0) 1 0 n,.p (.int .i64 0),.p (.int .i64 n)] [(BIG,0)] (.p (.tup [])) [((BIG,0),.sl 3 1 (l'.map natRow))]:=by
 refine bestEF mixed fn180 ok180 (by simp) (by simp) ?_
 simp -dsimp [ac180,↓ awpC_of xc180b]
 refine loopE n (fun k (z:List Nat)=>⟨[(0,.ref (1000000,0) 1 0 n),(1,.p (.int .i64 0)),(2,.p (.int .i64 n)),(6,.p (.int .i64 ((k:Int)+1)))],[((1000000,0),.sl 3 1 (z.map natRow))]⟩) (fun k z=>z.Perm l∧(z.take (k+1)).Pairwise (·≤·)) l (fun k z hk hz=>?_) ⟨List.Perm.refl _,by
  match l with
  | []=>simp
  | [a]=>simp
  | a :: b :: l=>simp⟩ (by simp)
 obtain ⟨hp,hs⟩:=hz
 have hzl:z.length=n:=by rw [hp.length_eq,hn]
 by_cases h:(k:Int)+1<n
 ·have hk1:k+1<z.length:=by omega
  have wk:R ((k:Int)+1+1):=⟨by omega,by omega⟩
  simp -dsimp [h,↓ awpC_of xc180b]
  refine loopE (k+1) (fun m (d:List Nat×Nat×List Nat)=>fr136 n (k+1) (k+1 - m) (d.1++d.2.1 :: (d.2.2++z.drop (k+2)))) (fun m d=>d.1.length=k+1 - m∧(d.1++d.2.1 :: (d.2.2++z.drop (k+2))).Perm l∧(d.1++d.2.2).Pairwise (·≤·)∧(∀ b∈d.2.2,d.2.1<b)∧d.2.2.length=m) (z.take (k+1),z[k+1],[]) (fun m d hm hd=>?_) ⟨by simp;omega,by simpa using hp,by simpa using hs,by simp,rfl⟩ (by simp)
  obtain ⟨A,x,B⟩:=d
  obtain ⟨d1,d2,d3,d4,d5⟩:=hd
  dsimp only at d1 d2 d3 d4 d5
  have wi:R ((k:Int)+1):=⟨by omega,by omega⟩
  rcases List.eq_nil_or_concat A with rfl | ⟨A',y,rfl⟩
  ·have hj:k+1 - m=0:=by simpa using d1.symm
   have hm1:m=k+1:=by omega
   have hts:(x :: (B++z.drop (k+2))).take (k+2)=x :: B:=by
    rw [List.take_succ_cons,List.take_append_of_le_length (by omega),List.take_of_length_le (by omega)]
   simp -dsimp [hj,wr wk]
   refine ⟨by omega,x :: (B++z.drop (k+2)),⟨by simpa using d2,?_⟩,by simp [List.map_drop]⟩
   rw [hts,List.pairwise_cons]
   exact ⟨fun b hb=>Nat.le_of_lt (d4 b hb),by simpa using d3⟩
  ·simp only [List.concat_eq_append] at d1 d2 d3 ⊢
   obtain ⟨a,ea⟩:∃ a,A'.length=a:=⟨_,rfl⟩
   have hj:k+1 - m=a+1:=by rw [←d1];simp [ea]
   obtain ⟨D,eD⟩:∃ D,z.drop (k+2)=D:=⟨_,rfl⟩
   rw [eD] at d2 ⊢
   have hsw:=swapL A' B D x y
   rw [ea] at hsw
   have hZ0:((A'++[y])++x :: (B++D))[a]?=some y:=by simp [List.getElem?_append,ea]
   have hZ1:((A'++[y])++x :: (B++D))[a+1]?=some x:=by simp [List.getElem?_append,ea]
   have hZp:=d2.length_eq
   obtain ⟨Z,eZ⟩:∃ Z,(A'++[y])++x :: (B++D)=Z:=⟨_,rfl⟩
   rw [eZ] at hsw hZ0 hZ1 hZp d2 ⊢
   have l1:a+1<Z.length:=(List.getElem?_eq_some_iff.1 hZ1).1
   have l0:a<Z.length:=by omega
   have g1:Z[a+1]=x:=(List.getElem?_eq_some_iff.1 hZ1).2
   have g0:Z[a]=y:=(List.getElem?_eq_some_iff.1 hZ0).2
   have l1n:a+1<n:=by omega
   have l0n:a<n:=by omega
   have wa:R (a:Int):=⟨by omega,by omega⟩
   have wa1:R ((a:Int)+1):=⟨by omega,by omega⟩
   have c1:(0:Int)<(a:Int)+1:=by omega
   have c2:(0:Int)≤(a:Int)+1:=by omega
   have c3:(a:Int)+1<n:=by omega
   have c4:((a:Int)+1).toNat=a+1:=by omega
   rw [hj]
   simp -dsimp [wr wa,wr wa1,c1,c2,c3,c4,l1,l0,l1n,l0n,g1,g0,natRow,↓ awpC_of xc180b]
   refine call_p (b186 x y) (by simp) (by simp) ?_
   by_cases hxy:(x:Int)<y
   ·simp -dsimp [hxy,↓ awpC_of xc180b]
    refine awpC_in ?_
    simp -dsimp [xc180b,wr wa,wr wa1,c1,c2,c3,c4,l1,l0,l1n,l0n,g1,g0,natRow]
    have hsp:(A'++x :: (y :: B++D)).Perm Z:=by
     rw [←eZ]
     have:=(List.Perm.swap y x (B++D)).append_left A'
     simpa using this
    refine ⟨by omega,A',x,y :: B,⟨by omega,hsp.trans d2,by simpa using d3,fun b hb=>?_,by simp [d5]⟩,by omega,?_⟩
    ·rcases List.mem_cons.1 hb with rfl | g
     ·omega
     ·exact d4 b g
    ·have:=congrArg (List.map natRow) hsw
     rw [List.map_set,List.map_set] at this
     simpa [natRow] using this
   ·simp -dsimp [hxy,wr wk]
    refine ⟨by omega,Z,⟨d2,?_⟩,rfl⟩
    have hts:Z.take (k+2)=(A'++[y])++x :: B:=by
     rw [←eZ,show (A'++[y])++x :: (B++D)=((A'++[y])++x :: B)++D by simp,List.take_append_of_le_length (by simp;omega),List.take_of_length_le (by simp;omega)]
    rw [show k+1+1=k+2 from rfl,hts,List.pairwise_append,List.pairwise_cons]
    rw [List.pairwise_append] at d3
    obtain ⟨p1,p2,p3⟩:=d3
    refine ⟨p1,⟨fun b hb=>Nat.le_of_lt (d4 b hb),p2⟩,fun u hu v hv=>?_⟩
    have huy:u≤y:=by
     rcases List.mem_append.1 hu with g | g
     ·rw [List.pairwise_append] at p1
      exact p1.2.2 u g y (by simp)
     ·simp at g;omega
    rcases List.mem_cons.1 hv with rfl | g
    ·omega
    ·exact p3 u hu v g
 ·simp -dsimp [h,retEF]
  exact ⟨z,rfl,hp,by rwa [List.take_of_length_le (by omega)] at hs⟩
theorem b151 (n:Nat) (h:n≤12):∃ v:Int,Best Tryz.prog 151 [.int .u64 n] (.p (.int .i64 v)):=by
 have key:∃ v:Int,Best Tryz.prog 190 [.int .u64 n] (.p (.int .i64 v)):=by
  obtain ⟨v,⟨x,rfl⟩,h⟩:=bestE (Q:=fun v=>∃ x:Int,v=.int .i64 x) mixed fn190 ok190 (args:=[.int .u64 n]) (by simp) (by
   have h1:¬(4294967296:Int)≤n:=by omega
   have h2:¬(65536:Int)≤n:=by omega
   have h3:¬(256:Int)≤n:=by omega
   have hw:IntKind.u8.wrap (n:Int)=n:=by
    have:n=0∨n=1∨n=2∨n=3∨n=4∨n=5∨n=6∨n=7∨n=8∨n=9∨n=10∨n=11∨n=12:=by omega
    rcases this with rfl | rfl | rfl | rfl | rfl | rfl | rfl | rfl | rfl | rfl | rfl | rfl | rfl<;>rfl
   obtain ⟨b,hb⟩:∃ b,(⟨#[0,1,2,2,3,3,3,3,4,4,4,4,4,4,4,4,5,5,5,5,5,5,5,5,5,5,5,5,5,5,5,5,6,6,6,6,6,6,6,6,6,6,6,6,6,6,6,6,6,6,6,6,6,6,6,6,6,6,6,6,6,6,6,6,7,7,7,7,7,7,7,7,7,7,7,7,7,7,7,7,7,7,7,7,7,7,7,7,7,7,7,7,7,7,7,7,7,7,7,7,7,7,7,7,7,7,7,7,7,7,7,7,7,7,7,7,7,7,7,7,7,7,7,7,7,7,7,7,8,8,8,8,8,8,8,8,8,8,8,8,8,8,8,8,8,8,8,8,8,8,8,8,8,8,8,8,8,8,8,8,8,8,8,8,8,8,8,8,8,8,8,8,8,8,8,8,8,8,8,8,8,8,8,8,8,8,8,8,8,8,8,8,8,8,8,8,8,8,8,8,8,8,8,8,8,8,8,8,8,8,8,8,8,8,8,8,8,8,8,8,8,8,8,8,8,8,8,8,8,8,8,8,8,8,8,8,8,8,8,8,8,8,8,8,8,8,8,8,8,8,8,8,8,8,8,8]⟩:ByteArray)[n]?=some b:=⟨_,getElem?_pos _ n (by show n<256;omega)⟩
   simp -dsimp [ac190,h1,h2,h3,hw,hb,retE])
  exact ⟨x,h⟩
 obtain ⟨v,h⟩:=key
 refine ⟨v,?_⟩
 refine best mixed fn151 ok151 (by simp) ?_
 simp -dsimp [ac151]
 refine call_p h (by simp) (by simp) ?_
 simp -dsimp
end
section
set_option maxHeartbeats 4000000
attribute [local simp] ba_size wb ba_at w1 w6
attribute [local simp ↓] oneN oneI oneSp
theorem b150 (l:List Nat) (n:Nat) (hn:l.length=n) (hl:n≤12) (v:Int):∃ l':List Nat,(l'.Perm l∧l'.Pairwise (·≤·)) ∧
  BestF Tryz.prog 150 [((BIG,0),.sl 3 1 (l.map natRow))] [.ref (BIG,0) 1 0 n,.p (.int .i64 0),.p (.int .i64 n),.p (.int .i64 v)] [(BIG,0)] (.p (.tup [])) [((BIG,0),.sl 3 1 (l'.map natRow))]:=by
 obtain ⟨l',h1,h2⟩:=b180 l n hn (by omega)
 refine ⟨l',h1,?_⟩
 refine bestF mixed fn150 ok150 (by simp) (by simp) ?_
 simp -dsimp [ac150,↓ awpC_of xc150b]
 refine loopE 0 (fun _ (_:Unit)=>⟨[(0,.ref (1000000,0) 1 0 n),(1,.p (.int .i64 0)),(2,.p (.int .i64 n)),(3,.p (.int .i64 v)),(8,.p (.bool true)),(9,.p (.bool true))],[((1000000,0),.sl 3 1 (l.map natRow))]⟩) (fun _ _=>True) () (fun k _ hk _=>?_) trivial (by simp)
 have w:R (n:Int):=⟨by omega,by omega⟩
 have h12:(n:Int)≤12:=by omega
 simp -dsimp [wr w,h12,hl,↓ awpC_of xc150b]
 refine call_m h2 (by simp) (by simp) (by simp) ?_
 simp -dsimp [retF]
theorem b104' (l:List Nat) (n:Nat) (hn:l.length=n) (hl:n≤12):∃ l':List Nat,(l'.Perm l∧l'.Pairwise (·≤·)) ∧
  BestF Tryz.prog 104 [((BIG,0),.sl 3 1 (l.map natRow))] [.ref (BIG,0) 1 0 n] [(BIG,0)] (.p (.tup [])) [((BIG,0),.sl 3 1 (l'.map natRow))]:=by
 obtain ⟨v,q⟩:=b151 n hl
 obtain ⟨l',h1,h2⟩:=b150 l n hn hl v
 refine ⟨l',h1,?_⟩
 refine bestF mixed fn104 ok104 (by simp) (by simp) ?_
 have hw:IntKind.u64.wrap (n:Int)=n:=by
  have:n=0∨n=1∨n=2∨n=3∨n=4∨n=5∨n=6∨n=7∨n=8∨n=9∨n=10∨n=11∨n=12:=by omega
  rcases this with h | h | h | h | h | h | h | h | h | h | h | h | h<;>(rw [h];rfl)
 simp -dsimp [ac104,hw]
 refine call_p q (by simp) (by simp) ?_
 simp -dsimp
 refine call_m h2 (by simp) (by simp) (by simp) ?_
 simp -dsimp [retF]
theorem b104 (l:List Nat) (hl:l.length≤12) (s:Slot):∃ l':List Nat,(l'.Perm l∧l'.Pairwise (·≤·)) ∧
  BestF Tryz.prog 104 [(s,.sl 3 1 (l.map natRow))] [.ref s 1 0 l.length] [s] (.p (.tup [])) [(s,.sl 3 1 (l'.map natRow))]:=by
 obtain ⟨l',h1,h2⟩:=b104' l l.length rfl hl
 refine ⟨l',h1,?_⟩
 have g:=h2.ren (fun _=>s) (fun _=>(BIG,0)) (by simp) (by simp) (by simp) (by simp) (by simp)
 simpa [rnM,Blk.rnF,AV.rnFL,AV.rnF] using g
def visP (t:List UInt8) (i:Nat):Bool:=!(decide (clsT t i=13) || decide (clsT t i=14))
def visT (t:List UInt8) (a b:Nat):List Nat:=(List.range' a (b - a)).filter (visP t)
theorem vis_perm (t:List UInt8) (a b:Nat):(ordT t a b).Perm (visT t a b):=by
 have h:=List.filter_append_perm (fun i=>decide (clsT t i=12)) (visT t a b)
 unfold visT at h ⊢
 rw [List.filter_filter,List.filter_filter] at h
 refine List.Perm.trans (List.Perm.of_eq ?_) h
 unfold ordT plT
 congr 1
 ·refine List.filter_congr fun i _=>?_
  unfold plP visP
  by_cases h:clsT t i=12
  ·simp [h]
  ·simp [h]
 ·refine List.filter_congr fun i _=>?_
  unfold plP visP
  by_cases h1:clsT t i=12
  ·simp [h1]
  ·by_cases h2:clsT t i=13
   ·simp [h2]
   ·simp [h1,h2]
theorem visT_sorted (t:List UInt8) (a b:Nat):(visT t a b).Pairwise (·≤·):=
 List.Pairwise.imp Nat.le_of_lt (List.Pairwise.filter _ List.pairwise_lt_range')
theorem vis_eq {t:List UInt8} {a b:Nat} {l:List Nat} (h1:l.Perm (ordT t a b)) (h2:l.Pairwise (·≤·)):l=visT t a b:=
 List.Perm.eq_of_pairwise (fun a b _ _ h1 h2=>Nat.le_antisymm h1 h2) h2 (visT_sorted t a b) (h1.trans (vis_perm t a b))
theorem visT_mem {t:List UInt8} {a b i:Nat} (h:i∈visT t a b):a≤i∧i<b:=by
 have:=(List.mem_filter.1 h).1
 rw [List.mem_range'_1] at this
 omega
theorem visT_len {t:List UInt8} {a b:Nat}:(visT t a b).length≤b - a:=by
 have:=List.length_filter_le (visP t) (List.range' a (b - a))
 simpa [visT] using this
def codesT (t:List UInt8) (a b:Nat):List Int:=(visT t a b).map (cT t)
theorem b55 (t:List UInt8) (a b:Nat) (hab:a<b) (hb:b≤t.length) (hl:t.length≤1000000) (h6:b - a≤6) :
  Best Tryz.prog 55 [.str (ba t),.agg (spRow (a,b))] (.p (.sl 1 ((codesT t a b).map intRow))):=by
 refine best mixed fn55 ok55 (by simp [spRow]) ?_
 have hol:=ordT_len (t:=t) (a:=a) (b:=b)
 obtain ⟨l,⟨g1,g2⟩,q⟩:=b104 (ordT t a b) (by omega) (10,0)
 have hvis:=vis_eq g1 g2
 subst hvis
 have hlen:(visT t a b).length=(ordT t a b).length:=g1.length_eq
 have ht:List.take (ordT t a b).length ((ordT t a b).map natRow)=(ordT t a b).map natRow:=List.take_of_length_le (by simp)
 have ht2:List.take (ordT t a b).length ((visT t a b).map natRow)=(visT t a b).map natRow:=List.take_of_length_le (by simp [hlen])
 simp -dsimp [ac55,spRow]
 refine call_o (b103 t a b hab hb hl) (by simp [spRow]) (by simp) ?_
 simp -dsimp [ht]
 refine call_m q (by simp) (by simp) (by simp) ?_
 obtain ⟨V,eV⟩:∃ V,visT t a b=V:=⟨_,rfl⟩
 have hm:∀ i∈V,i<t.length:=fun i hi=>by have:=visT_mem (eV ▸ hi);omega
 have hVl:V.length≤6:=by have:=visT_len (t:=t) (a:=a) (b:=b);rw [eV] at this;omega
 have hc:codesT t a b=V.map (cT t):=by unfold codesT;rw [eV]
 rw [eV] at hlen ht2
 rw [hc]
 simp -dsimp [ht2,←hlen,eV]
 have htV:List.take V.length (V.map natRow)=V.map natRow:=List.take_of_length_le (by simp)
 refine loopC V.length (fun k=>⟨[(0,.p (.str (ba t))),(4,.ref (25,0) 1 0 k),(13,.p (.sl 1 (V.map natRow))),(14,.p (.int .i64 V.length)),(15,.p (.int .i64 k))],[((25,0),.sl 3 1 (((V.take k).map (cT t)).map intRow))]⟩) (fun _=>True) (fun k hk _=>?_) trivial (by simp [htV])
 by_cases h:k<V.length
 ·obtain ⟨i,ei⟩:∃ i,V[k]=i:=⟨_,rfl⟩
  have hi:i<t.length:=hm i (by rw [←ei];simp)
  have wk:R ((k:Int)+1):=⟨by omega,by omega⟩
  have m1:k+1≤maxLen:=by unfold maxLen;omega
  have e1:(k+1)*8≤140737488355328:=by omega
  have hkl:(V.take k).length=k:=by simp;omega
  have hs:((V.take (k+1)).map (cT t)).map intRow=((V.take k).map (cT t)).map intRow++[[.int .i64 (cT t i)]]:=by
   rw [List.take_add_one,List.getElem?_eq_getElem h,ei];simp [intRow]
  obtain ⟨L,eL⟩:∃ L,(V.take k).map (cT t)=L:=⟨_,rfl⟩
  rw [eL] at hs
  have hLl:L.length=k:=by rw [←eL];simp;omega
  have ht3:List.take (k+1) (L.map intRow++[[.int .i64 (cT t i)]])=L.map intRow++[[.int .i64 (cT t i)]]:=List.take_of_length_le (by simp;omega)
  rw [eL,hs]
  simp only [cT] at ht3 ⊢
  simp -dsimp [h,natRow,ei,hi,m1,e1,hLl,ht3,wr wk,List.range,List.range.loop,-List.all_eq_true]
  skip
 ·have:k=V.length:=by omega
  subst this
  rw [List.take_length]
  have ht4:List.take V.length (((V.map (cT t))).map intRow)=(V.map (cT t)).map intRow:=List.take_of_length_le (by simp)
  obtain ⟨L,eL⟩:∃ L,V.map (cT t)=L:=⟨_,rfl⟩
  rw [eL] at ht4 ⊢
  have hLl:L.length=V.length:=by rw [←eL];simp
  simp -dsimp [h,resOf,hLl,ht4]
  skip
theorem b49 (t:List UInt8) (a b:Nat) (hab:a<b) (hb:b≤t.length) (hl:t.length≤1000000) :
  Best Tryz.prog 49 [.str (ba t),.agg (spRow (a,b))] (.p (.int .i64 (clsT t (baseT t a b)))):=by
 refine best mixed fn49 ok49 (by simp [spRow]) ?_
 have hbs:=baseT_le (t:=t) hab
 have hbl:baseT t a b<t.length:=by omega
 simp -dsimp [ac49,spRow]
 refine call_p (b25 t a b hab hb hl) (by simp [spRow]) (by simp) ?_
 simp -dsimp [hbl]
 refine call_p (b24 (cT t (baseT t a b))) (by simp [cT]) (by simp) ?_
 simp -dsimp [clsT]
end
section
set_option maxHeartbeats 4000000
attribute [local simp] ba_size wb ba_at w1 w6
attribute [local simp ↓] oneN oneI oneSp
theorem stT_inv (t:List UInt8):∀ i,i≤(stT t i).2+6∧(0<i→(stT t i).1.getLast?=some (stT t i).2)∧(stT t i).1.Pairwise (·<·)∧(∀ x∈(stT t i).1,x<i) ∧
  (∀ (j:Nat) (a b:Nat),(stT t i).1[j]?=some a→(stT t i).1[j+1]?=some b→b≤a+6)
 | 0=>by simp [stT]
 | i+1=>by
  obtain ⟨h1,h2,h3,h4,h5⟩:=stT_inv t i
  have hle:=stT_le t i
  by_cases hb:begT t i (stT t i).2=true
  ·have e:stT t (i+1)=((stT t i).1++[i],i):=by simp only [stT,hb,if_true]
   rw [e]
   refine ⟨by dsimp only;omega,fun _=>by simp,?_,fun x hx=>?_,fun j a b ha hb'=>?_⟩
   ·dsimp only
    rw [List.pairwise_append]
    exact ⟨h3,by simp,fun a ha b hb=>by simp at hb;have:=h4 a ha;omega⟩
   ·dsimp only at hx
    rcases List.mem_append.1 hx with g | g
    ·have:=h4 x g;omega
    ·simp at g;omega
   ·dsimp only at ha hb'
    have hj:=(List.getElem?_eq_some_iff.1 hb').1
    simp at hj
    by_cases hjl:j+1<(stT t i).1.length
    ·rw [List.getElem?_append_left hjl] at hb'
     rw [List.getElem?_append_left (by omega)] at ha
     exact h5 j a b ha hb'
    ·have hjl':j+1=(stT t i).1.length:=by omega
     rw [List.getElem?_append_right (by omega),hjl'] at hb'
     simp at hb';subst hb'
     rw [List.getElem?_append_left (by omega)] at ha
     have hi0:0<i:=by
      rcases Nat.eq_zero_or_pos i with h0 | h0
      ·subst h0;simp [stT] at hjl'
      ·exact h0
     have:=h2 hi0
     rw [List.getLast?_eq_getElem?,show (stT t i).1.length - 1=j by omega,ha] at this
     simp at this;omega
  ·have hb':begT t i (stT t i).2=false:=by simpa using hb
   have e:stT t (i+1)=stT t i:=by simp [stT,hb']
   rw [e]
   have hi0:0<i:=by
    rcases Nat.eq_zero_or_pos i with h0 | h0
    ·subst h0;simp [begT] at hb'
    ·exact h0
   have h6:¬((i:Int) - (stT t i).2=6):=fun q=>by simp [begT,q] at hb'
   refine ⟨by omega,fun _=>h2 hi0,h3,fun x hx=>by have:=h4 x hx;omega,h5⟩
theorem splT_mem {t:List UInt8} {a b:Nat} (h:(a,b)∈splT t):a<b∧b≤t.length∧b - a≤6:=by
 obtain ⟨h1,h2,h3,h4,h5⟩:=stT_inv t t.length
 unfold splT spQ at h
 obtain ⟨L,eL⟩:∃ L,(stT t t.length).1=L:=⟨_,rfl⟩
 rw [eL] at h h2 h3 h4 h5
 obtain ⟨j,hj,e⟩:=List.mem_map.1 h
 have hj:j<L.length:=by simpa using hj
 have g1:L.getD j 0=L[j]:=by simp [hj]
 rw [g1] at e
 by_cases hl:j+1<L.length
 ·have g2:L.getD (j+1) 0=L[j+1]:=by simp [hl]
  rw [if_pos hl,g2] at e
  simp only [Prod.mk.injEq] at e
  obtain ⟨rfl,rfl⟩:=e
  have p1:=List.pairwise_iff_getElem.1 h3 j (j+1) hj hl (by omega)
  have p2:=h4 L[j+1] (by simp)
  have p3:=h5 j L[j] L[j+1] (by simp [hj]) (by simp [hl])
  omega
 ·rw [if_neg hl] at e
  simp only [Prod.mk.injEq] at e
  obtain ⟨rfl,rfl⟩:=e
  have p2:=h4 L[j] (by simp)
  have h0:0<t.length:=by omega
  have p3:=h2 h0
  rw [List.getLast?_eq_getElem?,show L.length - 1=j by omega,List.getElem?_eq_getElem hj] at p3
  simp at p3
  omega
theorem splT_len (t:List UInt8):(splT t).length≤t.length:=by
 have:=stT_len t t.length
 simpa [splT] using this
theorem b153 (x:Ch) (code:Int):Best Tryz.prog 153 [.agg (chRow x),.ro [.int .i64 code]] (.p (.bool (decide (x.code=code)))):=by
 refine best mixed fn153 ok153 (by simp [chRow]) ?_
 simp -dsimp [ac153,chRow]
theorem b152 {f:FuncId} {c:PV} {q:Ch→Bool} (hf:∀ x:Ch,Best Tryz.prog f [.agg (chRow x),c] (.p (.bool (q x)))) (r:List Ch) (hl:r.length≤9223372036854775807):Best Tryz.prog 152 [.sl 4 (r.map chRow),.clo (.func f) [] [c]] (.p (.int .i64 (idxS q r))):=by
 refine best mixed fn152 ok152 (by simp) ?_
 simp -dsimp [ac152]
 refine loopC r.length (fun k=>⟨[(0,.p (.sl 4 (r.map chRow))),(1,.p (.clo (.func f) [] [c])),(7,.p (.int .i64 r.length)),(8,.p (.int .i64 k))],[]⟩) (fun k=>∀ y∈r.take k,q y=false) (fun k hk hall=>?_) (by simp) (by simp)
 by_cases h:k<r.length
 ·obtain ⟨x,ex⟩:∃ x,r[k]=x:=⟨_,rfl⟩
  have hx:r[k]?=some x:=by simp [h,ex]
  have w:R ((k:Int)+1):=⟨by omega,by omega⟩
  have hfx:=hf x
  have hit:q x=true→idxS q r=k:=fun h2=>idxS_hit hx hall h2
  have go:q x=false→∀ y∈r.take (k+1),q y=false:=fun h2=>take_succ_all (p:=fun y=>q y=false) hx hall h2
  generalize q x=b at *
  simp -dsimp [h,ex,chRow] at hfx ⊢
  refine call_p hfx rfl (by simp) ?_
  cases b with
  | true=>simp -dsimp [hit]
  | false=>simp -dsimp [wr w];exact ⟨h,go rfl⟩
 ·have:k=r.length:=by omega
  subst this
  rw [List.take_length] at hall
  simp -dsimp [idxS_none hall]
def findN (c:Cor) (code:Int):Option Ch:=c.ch.find? fun x=>decide (x.code=code)
def ch0:Ch:=⟨0,0,0,[]⟩
def hasN (c:Cor) (code:Int):Bool:=(findN c code).isSome
theorem idxS_find {α:Type} {q:α→Bool} {l:List α}:(∃ (k:Nat) (x:α),idxS q l=k∧l[k]?=some x∧l.find? q=some x)∨(idxS q l=-1∧l.find? q=none):=by
 by_cases h:∃ x∈l,q x=true
 ·left
  obtain ⟨x,hx⟩:=Option.isSome_iff_exists.1 (List.find?_isSome.2 h)
  obtain ⟨h1,k,h2,h3,h4⟩:=List.find?_eq_some_iff_getElem.1 hx
  have hk:l[k]?=some x:=by rw [List.getElem?_eq_getElem h2,h3]
  refine ⟨k,x,idxS_hit hk (fun y hy=>?_) h1,hk,hx⟩
  obtain ⟨j,hj,rfl⟩:=List.mem_take_iff_getElem.1 hy
  have:=h4 j (by omega)
  simpa using this
 ·right
  have hn:∀ x∈l,q x=false:=fun x hx=>by
   cases e:q x with
   | false=>rfl
   | true=>exact absurd ⟨x,hx,e⟩ h
  exact ⟨idxS_none hn,by rw [List.find?_eq_none];intro x hx;simp [hn x hx]⟩
theorem b107 (c:Cor) (hc:c.ch.length≤1000) (code:Int):Best Tryz.prog 107 [.agg (corRow c),.int .i64 code] (.p (.tup [.agg (chRow ((findN c code).getD ch0)),.bool (hasN c code)])):=by
 refine best mixed fn107 ok107 (by simp [corRow]) ?_
 have q:=b152 (c:=.ro [.int .i64 code]) (fun x=>b153 x code) c.ch (by omega)
 simp -dsimp [ac107,corRow]
 refine call_f q (by simp) (by simp) (by simp) ?_
 rcases idxS_find (q:=fun x:Ch=>decide (x.code=code)) (l:=c.ch) with ⟨k,x,h1,h2,h3⟩ | ⟨h1,h3⟩
 ·have hk:=(List.getElem?_eq_some_iff.1 h2).1
  have hx:=(List.getElem?_eq_some_iff.1 h2).2
  have hn:¬(k:Int)<0:=by omega
  have hf:findN c code=some x:=h3
  simp -dsimp [h1,hn,hk,hx,chRow,hf,hasN]
 ·have hf:findN c code=none:=h3
  simp -dsimp [h1,chRow,hf,hasN,ch0]
def glyN (c:Cor) (code:Int):Int:=((findN c code).getD ch0).glyph
theorem b60 (c:Cor) (hc:c.ch.length≤1000) (code:Int):Best Tryz.prog 60 [.agg (corRow c),.int .i64 code] (.p (.tup [.int .i64 (glyN c code),.bool (hasN c code)])):=by
 refine best mixed fn60 ok60 (by simp [corRow]) ?_
 simp -dsimp [ac60,corRow]
 refine call_p (b107 c hc code) (by simp [corRow]) (by simp) ?_
 simp -dsimp [chRow,glyN]
theorem b59 (c:Cor) (hc:c.ch.length≤1000) (code:Int):Best Tryz.prog 59 [.int .i64 code,.ro (corRow c)] (.p (.bool (!hasN c code))):=by
 refine best mixed fn59 ok59 (by simp) ?_
 simp -dsimp [ac59,corRow]
 refine call_p (b60 c hc code) (by simp [corRow]) (by simp) ?_
 cases e:hasN c code<;>simp -dsimp
theorem b106c {f:FuncId} {c:PV} {q:Int→Bool} (hf:∀ x:Int,Best Tryz.prog f [.int .i64 x,c] (.p (.bool (q x)))) (r:List Int) (hl:r.length≤9223372036854775807):Best Tryz.prog 106 [.sl 1 (r.map intRow),.clo (.func f) [] [c]] (.p (.int .i64 (idxS q r))):=by
 refine best mixed fn106 ok106 (by simp) ?_
 simp -dsimp [ac106]
 refine loopC r.length (fun k=>⟨[(0,.p (.sl 1 (r.map intRow))),(1,.p (.clo (.func f) [] [c])),(7,.p (.int .i64 r.length)),(8,.p (.int .i64 k))],[]⟩) (fun k=>∀ y∈r.take k,q y=false) (fun k hk hall=>?_) (by simp) (by simp)
 by_cases h:k<r.length
 ·obtain ⟨x,ex⟩:∃ x,r[k]=x:=⟨_,rfl⟩
  have hx:r[k]?=some x:=by simp [h,ex]
  have w:R ((k:Int)+1):=⟨by omega,by omega⟩
  have hfx:=hf x
  have hit:q x=true→idxS q r=k:=fun h2=>idxS_hit hx hall h2
  have go:q x=false→∀ y∈r.take (k+1),q y=false:=fun h2=>take_succ_all (p:=fun y=>q y=false) hx hall h2
  generalize q x=b at *
  simp -dsimp [h,ex,intRow] at hfx ⊢
  refine call_p hfx rfl (by simp) ?_
  cases b with
  | true=>simp -dsimp [hit]
  | false=>simp -dsimp [wr w];exact ⟨h,go rfl⟩
 ·have:k=r.length:=by omega
  subst this
  rw [List.take_length] at hall
  simp -dsimp [idxS_none hall]
theorem b58c {f:FuncId} {c:PV} {q:Int→Bool} (hf:∀ x:Int,Best Tryz.prog f [.int .i64 x,c] (.p (.bool (q x)))) (r:List Int) (hl:r.length≤9223372036854775807):Best Tryz.prog 58 [.sl 1 (r.map intRow),.clo (.func f) [] [c]] (.p (.bool (r.any q))):=by
 refine best mixed fn58 ok58 (by simp) ?_
 simp -dsimp [ac58]
 refine call_p (b106c hf r hl) rfl (by simp) ?_
 have:=idxS_ge (q:=q) (l:=r)
 by_cases h:0≤idxS q r<;>simp only [h,decide_true,decide_false] at this<;>simp -dsimp [h,←this]
def allN (codes:List Int) (c:Cor):Bool:=!(codes.any fun x=>!hasN c x)
theorem b57 (c:Cor) (hc:c.ch.length≤1000) (codes:List Int) (hl:codes.length≤1000):Best Tryz.prog 57 [.agg (corRow c),.ro [.sl 1 (codes.map intRow)]] (.p (.bool (allN codes c))):=by
 refine best mixed fn57 ok57 (by simp [corRow]) ?_
 have q:=b58c (c:=.ro (corRow c)) (fun x=>b59 c hc x) codes (by omega)
 simp -dsimp [ac57,corRow]
 refine call_f q (by simp [corRow]) (by simp) (by simp) ?_
 unfold allN
 cases e:codes.any fun x=>!hasN c x<;>simp -dsimp
def CorsOk (cs:List Cor):Prop:=cs.length≤1000∧∀ c∈cs,c.ch.length≤1000
theorem b105 {f:FuncId} {c:PV} {q:Cor→Bool} (r:List Cor) (hf:∀ x∈r,Best Tryz.prog f [.agg (corRow x),c] (.p (.bool (q x)))) (hl:r.length≤9223372036854775807):Best Tryz.prog 105 [.sl 9 (r.map corRow),.clo (.func f) [] [c]] (.p (.int .i64 (idxS q r))):=by
 refine best mixed fn105 ok105 (by simp) ?_
 simp -dsimp [ac105]
 refine loopC r.length (fun k=>⟨[(0,.p (.sl 9 (r.map corRow))),(1,.p (.clo (.func f) [] [c])),(7,.p (.int .i64 r.length)),(8,.p (.int .i64 k))],[]⟩) (fun k=>∀ y∈r.take k,q y=false) (fun k hk hall=>?_) (by simp) (by simp)
 by_cases h:k<r.length
 ·obtain ⟨x,ex⟩:∃ x,r[k]=x:=⟨_,rfl⟩
  have hx:r[k]?=some x:=by simp [h,ex]
  have w:R ((k:Int)+1):=⟨by omega,by omega⟩
  have hfx:=hf x (by rw [←ex];simp)
  have hit:q x=true→idxS q r=k:=fun h2=>idxS_hit hx hall h2
  have go:q x=false→∀ y∈r.take (k+1),q y=false:=fun h2=>take_succ_all (p:=fun y=>q y=false) hx hall h2
  generalize q x=b at *
  simp -dsimp [h,ex,corRow] at hfx ⊢
  refine call_p hfx rfl (by simp) ?_
  cases b with
  | true=>simp -dsimp [hit]
  | false=>simp -dsimp [wr w];exact ⟨h,go rfl⟩
 ·have:k=r.length:=by omega
  subst this
  rw [List.take_length] at hall
  simp -dsimp [idxS_none hall]
theorem b56 {f:FuncId} {c:PV} {q:Cor→Bool} (r:List Cor) (hf:∀ x∈r,Best Tryz.prog f [.agg (corRow x),c] (.p (.bool (q x)))) (hl:r.length≤9223372036854775807):Best Tryz.prog 56 [.sl 9 (r.map corRow),.clo (.func f) [] [c]] (.p (.int .i64 (idxS q r))):=by
 refine best mixed fn56 ok56 (by simp) ?_
 simp -dsimp [ac56]
 refine call_p (b105 r hf hl) rfl (by simp) ?_
 simp -dsimp
def fontN (cs:List Cor) (t:List UInt8) (x:Nat×Nat):Int:=if clsT t (baseT t x.1 x.2)=1 then -1 else idxS (allN (codesT t x.1 x.2)) cs
def fontsN (cs:List Cor) (t:List UInt8):List Int:=(splT t).map (fontN cs t)
theorem b21 (cs:List Cor) (hcs:CorsOk cs) (t:List UInt8) (hl:t.length≤1000000):Best Tryz.prog 21 [.sl 9 (cs.map corRow),.str (ba t)] (.p (.sl 1 ((fontsN cs t).map intRow))):=by
 refine best mixed fn21 ok21 (by simp) ?_
 have hsl:=splT_len t
 obtain ⟨T,eT⟩:∃ T,splT t=T:=⟨_,rfl⟩
 have hm:∀ x∈T,x.1<x.2∧x.2≤t.length∧x.2 - x.1≤6:=fun x hx=>splT_mem (eT ▸ hx)
 have q25:=b23 t hl
 unfold fontsN
 rw [eT] at q25 hsl ⊢
 simp -dsimp [ac21,↓ awpC_of xc21b]
 refine call_p q25 (by simp) (by simp) ?_
 simp -dsimp [↓ awpC_of xc21b]
 refine loopC T.length (fun k=>⟨[(0,.p (.sl 9 (cs.map corRow))),(1,.p (.str (ba t))),(4,.ref (29,0) 1 0 k),(10,.p (.sl 2 (T.map spRow))),(11,.p (.int .i64 T.length)),(12,.p (.int .i64 k))],[((29,0),.sl 3 1 (((T.take k).map (fontN cs t)).map intRow))]⟩) (fun _=>True) (fun k hk _=>?_) trivial (by simp)
 by_cases h:k<T.length
 ·obtain ⟨⟨a,b⟩,ex⟩:∃ x,T[k]=x:=⟨_,rfl⟩
  obtain ⟨hab,hb,h6⟩:=hm (a,b) (by rw [←ex];simp)
  dsimp only at hab hb h6
  have wk:R ((k:Int)+1):=⟨by omega,by omega⟩
  have m1:k+1≤maxLen:=by unfold maxLen;omega
  have e1:(k+1)*8≤140737488355328:=by omega
  have hcl:(codesT t a b).length≤1000:=by have:=visT_len (t:=t) (a:=a) (b:=b);simp [codesT];omega
  have q27:=b56 (c:=.ro [.sl 1 ((codesT t a b).map intRow)]) cs (fun x hx=>b57 x (hcs.2 x hx) (codesT t a b) hcl) (by have:=hcs.1;omega)
  have hs:((T.take (k+1)).map (fontN cs t)).map intRow=((T.take k).map (fontN cs t)).map intRow++[[.int .i64 (fontN cs t (a,b))]]:=by
   rw [List.take_add_one,List.getElem?_eq_getElem h,ex];simp [intRow]
  obtain ⟨L,eL⟩:∃ L,(T.take k).map (fontN cs t)=L:=⟨_,rfl⟩
  rw [eL] at hs
  have hLl:L.length=k:=by rw [←eL];simp;omega
  obtain ⟨fo,ef⟩:∃ fo,fontN cs t (a,b)=fo:=⟨_,rfl⟩
  rw [ef] at hs
  have ht:List.take (k+1) (L.map intRow++[[.int .i64 fo]])=L.map intRow++[[.int .i64 fo]]:=List.take_of_length_le (by simp;omega)
  rw [eL,hs]
  have key:awp Tryz.prog xc21b (fun e F'=>True) ⟨[],[]⟩∨True:=.inr trivial
  simp -dsimp [h,ex,spRow,↓ awpC_of xc21b]
  refine call_p (b55 t a b hab hb hl h6) (by simp [spRow]) (by simp) ?_
  simp -dsimp [↓ awpC_of xc21b]
  refine call_f q27 (by simp) (by simp) (by simp) ?_
  simp -dsimp [↓ awpC_of xc21b]
  refine call_p (b49 t a b hab hb hl) (by simp [spRow]) (by simp) ?_
  by_cases h1:clsT t (baseT t a b)=1
  ·have hfo:fo=-1:=by rw [←ef];simp [fontN,h1]
   subst hfo
   simp -dsimp [h1,↓ awpC_of xc21b]
   refine awpC_in ?_
   simp -dsimp [xc21b,m1,e1,hLl,ht,wr wk,h,List.range,List.range.loop,-List.all_eq_true]
  ·have hfo:idxS (allN (codesT t a b)) cs=fo:=by rw [←ef];simp [fontN,h1]
   simp -dsimp [h1,hfo,↓ awpC_of xc21b]
   refine awpC_in ?_
   simp -dsimp [xc21b,m1,e1,hLl,ht,wr wk,h,List.range,List.range.loop,-List.all_eq_true]
 ·have:k=T.length:=by omega
  subst this
  rw [List.take_length]
  obtain ⟨L,eL⟩:∃ L,T.map (fontN cs t)=L:=⟨_,rfl⟩
  have hLl:L.length=T.length:=by rw [←eL];simp
  have ht4:List.take T.length (L.map intRow)=L.map intRow:=List.take_of_length_le (by simp;omega)
  rw [eL]
  simp -dsimp [h,resOf,hLl,ht4]
  rw [←eL,List.map_map]
end
end Go.Abs.A30
namespace Go.Abs.A30
open Go Go.Abs Go.Proofs
set_option maxRecDepth 100000
set_option maxHeartbeats 4000000
set_option linter.unusedVariables false
def ac90:AC:=by
 apply fun (y:AC) (_:@Eq AC (anF Tryz.prog 90 mu1 [] 0 0 []) y)=>y
 conv=>lhs;reduce;dsimp
theorem fn90:factOf Tryz.prog 90=some (ac90.strip,[.tmp 2],9):=by kernel_rfl
theorem ok90:ac90.okAll=true:=by kernel_rfl
def ac47:AC:=by
 apply fun (y:AC) (_:@Eq AC (anF Tryz.prog 47 mu1 [] 0 0 []) y)=>y
 conv=>lhs;reduce;dsimp
theorem fn47:factOf Tryz.prog 47=some (ac47.strip,[.tmp 2],23):=by kernel_rfl
theorem ok47:ac47.okAll=true:=by kernel_rfl
def ac93:AC:=by
 apply fun (y:AC) (_:@Eq AC (anF Tryz.prog 93 mu1 [] 0 0 []) y)=>y
 conv=>lhs;reduce;dsimp
theorem fn93:factOf Tryz.prog 93=some (ac93.strip,[.cell 4 true 3],17):=by kernel_rfl
theorem ok93:ac93.okAll=true:=by kernel_rfl
end Go.Abs.A30
namespace Go.Abs.A30
open Go Go.Abs Go.Proofs
set_option maxRecDepth 100000
set_option maxHeartbeats 4000000
set_option linter.unusedVariables false
def ac20:AC:=by
 apply fun (y:AC) (_:@Eq AC (anF Tryz.prog 20 mu1 [] 0 0 []) y)=>y
 conv=>lhs;reduce;dsimp
theorem fn20:factOf Tryz.prog 20=some (ac20.strip,[.tmp 2],16):=by kernel_rfl
theorem ok20:ac20.okAll=true:=by kernel_rfl
end Go.Abs.A30
namespace Go.Abs.A30
open Go Go.Abs Go.Proofs
set_option maxRecDepth 100000
set_option linter.unusedVariables false
set_option linter.unusedSimpArgs false
attribute [local simp ↓] awp_skip awp_seq awp_cond awp_block awp_exit awp_ret awp_reg awp_draw awp_ghost awp_loop awp_rfun awpR_nil awpR_cons awpX_nil awpX_0 awpX_1 awpX_2 awpI_eq awpI_t awpI_f awpStep_eq
attribute [local simp] condL_true condL_false condL_dec evDel evV evN evS evA initFr Ghost.app Fr.var Fr.blk Fr.ff FF.val Abs.look Fr.app Fr.erase Fr.noSlot AV.noSlot AV.noSlotL Blk.noSlot Fr.spoken AV.fz AV.fzL Blk.fz binV binI shI binS unV fillA FF.parts FF.vals headO intO boundO lenV scalarEq leavesEq AV.aggc AV.cells FF.read FF.rows AV.one PV.one chunk freshB newS pickV retK evRs evRl evR resOf mkTup mkAgg allP cloOf okP_nil okX_p okX okP addN Del.noSlot Del.owners Rnd reify_p normM insM Fr.back Fr.backV Fr.setPs normV insV
attribute [local simp] renF Fr.trim Blk.trim AV.rn AV.rnL Blk.rn AV.among AV.amongL Blk.among okF retM fixS BIG initFF
attribute [local simp] FF.reify FF.reifyL PV.flat
section
set_option maxHeartbeats 4000000
attribute [local simp] w1 w6 evC
attribute [local simp ↓] oneN oneI oneSp
structure Stg where
 size:Int
 at_:List Int
 feat:Int
def stgRow (s:Stg):List PV:=[.int .i64 s.size,.sl 1 (s.at_.map intRow),.int .i64 s.feat]
def setN (n:Nat) (l:List Int):List Int:=(List.range n).map fun i=>l.getD i 0
def Stg.own (s:Stg) (n:Nat):Stg:={ s with at_:=setN n s.at_ }
theorem setN_rows (n:Nat) (l:List Int):(l.map intRow).take n++(List.replicate n [PV.int .i64 0]).drop l.length=(setN n l).map intRow:=by
 apply List.ext_getElem?
 intro i
 simp only [setN,List.getElem?_append,List.getElem?_take,List.getElem?_map,List.getElem?_drop,List.getElem?_replicate,List.length_take,List.length_map,List.getElem?_range]
 by_cases h1:i<l.length
 ·by_cases h2:i<n
  ·rw [if_pos (by omega),if_pos h2]
   simp [h1,h2]
  ·rw [if_neg (by omega),if_neg (by omega)]
   simp [List.getElem?_range,h2]
 ·rw [if_neg (by omega)]
  by_cases h2:i<n
  ·rw [if_pos (by omega)]
   simp [h1,h2,intRow]
  ·rw [if_neg (by omega)]
   simp [List.getElem?_range,h2]
theorem b93 (c:Cor) (hc:c.ax.length≤1000) (s:Stg) (hs:s.at_.length≤1000):Best Tryz.prog 93 [.agg (corRow c),.agg (stgRow s)] (.p (.agg (stgRow (s.own c.ax.length)))):=by
 refine best mixed fn93 ok93 (by simp [corRow,stgRow]) ?_
 have h1:(0:Int)≤c.ax.length:=by omega
 have h2:8*(c.ax.length:Int)≤281474976710656:=by omega
 have h3:(c.ax.length:Int)≤9223372036854775807:=by omega
 have hr:=setN_rows c.ax.length s.at_
 rw [List.drop_replicate] at hr
 have hcd:c.ax.length≤min c.ax.length s.at_.length+(c.ax.length - s.at_.length):=by omega
 have hl:(setN c.ax.length s.at_).length=c.ax.length:=by simp [setN]
 have ht:List.take c.ax.length ((setN c.ax.length s.at_).map intRow)=(setN c.ax.length s.at_).map intRow:=List.take_of_length_le (by simp [hl])
 simp -dsimp [ac93,corRow,stgRow,h2,h3,hr,-List.all_eq_true,resOf,ht,hcd,Stg.own,hl]
theorem b90 (n:Int):Best Tryz.prog 90 [.int .i64 n] (.p (.bool (decide (n < -64) || decide (64<n)))):=by
 refine best mixed fn90 ok90 (by simp) ?_
 by_cases h1:n < -64<;>simp -dsimp [ac90,h1]
def fitN (s:Stg):Bool:=decide (4≤s.size) && decide (s.size≤32) && decide (CL s.at_)
theorem any74 (l:List Int):(l.any fun n=>decide (n < -64) || decide (64<n))=!decide (∀ n∈l,CO n):=by
 rw [←anyCO]
 congr 1
 funext n
 have:(n < -64∨64<n)↔¬CO n:=⟨fun h q=>by obtain ⟨a,b⟩:=q;omega,fun h=>by unfold CO at h;omega⟩
 rw [Bool.eq_iff_iff,Bool.or_eq_true,decide_eq_true_eq,decide_eq_true_eq,Bool.not_eq_true',decide_eq_false_iff_not]
 exact this
theorem b47 (s:Stg) (hs:s.at_.length≤1000):Best Tryz.prog 47 [.agg (stgRow s)] (.p (.bool (fitN s))):=by
 refine best mixed fn47 ok47 (by simp [stgRow]) ?_
 unfold fitN
 by_cases h1:4≤s.size
 ·by_cases h2:s.size≤32
  ·by_cases h3:(s.at_.length:Int)≤3
   ·have h3':s.at_.length≤3:=by omega
    have q:=b58 (fun x=>b90 x) s.at_ (by omega)
    rw [any74] at q
    simp -dsimp [ac47,stgRow,h1,h2,h3]
    refine call_p q (by simp) (by simp) ?_
    by_cases h4:∀ n∈s.at_,CO n
    ·have h5:CL s.at_:=⟨h3',h4⟩
     simp -dsimp [h4,h5]
     first | done | exact h4
    ·have h5:¬CL s.at_:=fun h=>h4 h.2
     simp -dsimp [h4,h5]
   ·have h5:¬CL s.at_:=fun h=>h3 (by have:=h.1;omega)
    simp -dsimp [ac47,stgRow,h1,h2,h3,h5]
  ·simp -dsimp [ac47,stgRow,h1,h2]
 ·simp -dsimp [ac47,stgRow,h1]
theorem b20 (s:Stg) (hs:s.at_.length≤1000):Best Tryz.prog 20 [.agg (stgRow s)] (.p (.bool (fitN s))):=by
 refine best mixed fn20 ok20 (by simp [stgRow]) ?_
 unfold fitN
 by_cases h1:4≤s.size
 ·by_cases h2:s.size≤32
  ·simp -dsimp [ac20,stgRow,h1,h2]
   refine call_p (b54 s.at_ (by omega)) (by simp) (by simp) ?_
   simp -dsimp
  ·simp -dsimp [ac20,stgRow,h1,h2]
 ·simp -dsimp [ac20,stgRow,h1]
end
end Go.Abs.A30
