/- A part of the proof: an abstract reading of the model, contracts of functions. -/
import Derived.Test.YtlkbeomimbohlaaGreatL3x7
set_option linter.unusedVariables false
set_option linter.unusedSimpArgs false
namespace Go.Proofs.YtlkbeomimbohlaaGreat
open Go Go.Abs Go.ChangeShapes Go.WideShapes Go.RowKit Go.Proofs
set_option maxRecDepth 100000
set_option linter.unusedVariables false
theorem own:ownKnob Tryz.prog.godebug=none:=by kernel_rfl
theorem outB:laidOutB Tryz.prog=true:=by kernel_rfl
noncomputable def restWorld (os:Os):World:=World.holding Tryz.prog os ⟨#[],#[],[]⟩
theorem args_stay {H:Type} {enc:TypeId×Value→H} {W W':World} (hb:Below W.heap.size W W'):∀ {ts:List TypeId} {vs:List Value} {ds:List (DataW H)} {ps:List MemPlace},
  (∀ t∈ts,Tryz.prog.readableRec t=true∧t<Tryz.prog.types.size)→DataW.TrodAll enc Tryz.prog W 0 (fun _=>true) true ts vs ds ps→(∀ x∈ps,x.block<W.heap.size)→DataW.TrodAll enc Tryz.prog W' 0 (fun b=>decide (b<W.heap.size)) true ts vs ds ps
 | [],vs,ds,ps,_,h,_=>by
  obtain ⟨rfl,rfl,rfl⟩:=trodAll_nil h
  exact trodAll_mk0
 | t :: ts,vs,ds,ps,ht,h,hlt=>by
  obtain ⟨v,vs',d,ds',p,q,rfl,rfl,rfl,h1,h2⟩:=trodAll_cons h
  refine trodAll_cons_mk ?_ ?_
  ·exact Below.trod outB (ht t (by simp)).1 (ht t (by simp)).2 h1 hb fun x hx=>hlt x (by simp [hx])
  ·exact args_stay hb (fun t' h'=>ht t' (by simp [h'])) h2 fun x hx=>hlt x (by simp [hx])
theorem keep_below {W W':World} (h:Keep W W'):Below W.heap.size W W':=⟨h.os,h.tape,h.output,h.size,h.heap⟩
theorem law_step {H:Type} {enc:TypeId×Value→H} {fn:Func} {spec:ChangeSpec} {W:World} {args:Array Value} {ds gs:List (DataW H)} {before:List MemPlace} {f:FuncId} {ps:List PV}
  (hvars:spec.vars=[]) (hfn:fn.resultTypes=#[4]) (hW:DataW.Whole enc Tryz.prog fn.params.toList spec.vars false W args.toList ds gs before)
  (hspec:spec.fn H (ds++[])={ results:=[.lit (.bool true)],args:=ds })
  (hread:∀ t∈fn.params.toList,Tryz.prog.readableRec t=true∧t<Tryz.prog.types.size)
  (hb:Best Tryz.prog f ps (.p (.bool true))) (hps:Ps (full W) ps args.toList) :
  Calls Tryz.prog f args W fun e W'=>∃ v,e=.returned v∧spec.post enc Tryz.prog fn false true false false W args v W':=by
 have hc:=hb.2 (full W) W args.toList (fun a v h=>h) hps
 rw [Array.toArray_toList] at hc
 refine hc.mono ?_
 rintro e W' ⟨x,S',rfl,hk,_,_,_,hres⟩
 have hx:x=.bool true:=by
  cases hres;rfl
 subst hx
 have hW':=hW
 obtain ⟨p,q,hA,hV,rfl,_,_⟩:=hW
 rw [hvars] at hV
 obtain ⟨rfl,rfl⟩:=trodVars_none hV
 have hbel:=keep_below hk
 refine ⟨_,rfl,ds,[],_,[],p,[],hW',?_,?_,?_,hbel.frame _,fun h=>by cases h⟩
 ·rw [hspec,hfn]
  exact trodAll_mk1 (shut_bool Tryz.underlying4 true)
 ·rw [hspec]
  exact args_stay hbel hread hA fun y hy=>hW'.lt y (by simp [hy])
 ·rw [hspec,hvars];rfl
end Go.Proofs.YtlkbeomimbohlaaGreat
namespace Go.Proofs.YtlkbeomimbohlaaGreat
open Go Go.Abs Go.ChangeShapes Go.WideShapes Go.RowKit Go.Proofs Go.Abs.A30
set_option maxRecDepth 100000
set_option linter.unusedVariables false
theorem Rd.to {P:Program} {w:World} {t:TypeId} {α β:Type} {f:α→List PV} {g:β→List PV} {ok:α→Prop} {ok':β→Prop} (h:α→β) (hf:∀ a,ok a→f a=g (h a)) (hk:∀ a,ok a→ok' (h a)) (r:Rd P w t f ok):Rd P w t g ok':=by
 intro H en base sp hd fuel cs x hx
 obtain ⟨a,ha,h2⟩:=r H en base sp hd fuel cs x hx
 exact ⟨h a,hk a ha,by rw [←hf a ha];exact h2⟩
theorem wfR {n:Int} (h:(Lit.int .i64 n).wf=true):R n:=by
 simp [Lit.wf,IntKind.min,IntKind.max,IntKind.bits,IntKind.signed] at h
 exact ⟨by omega,by omega⟩
theorem wf8S {n:Int} (h:(Lit.int .i8 n).wf=true):-128≤n∧n<128:=by
 simp [Lit.wf,IntKind.min,IntKind.max,IntKind.bits,IntKind.signed] at h
 omega
variable {w:World}
theorem rd_int:Rd Tryz.prog w 3 (fun n:Int=>[.int .i64 n]) fun n=>R n:=Rd.to id (fun _ _=>rfl) (fun _ h=>wfR h) (Rd.int Tryz.underlying3)
theorem rd_i8:Rd Tryz.prog w 27 (fun n:Int=>[.int .i8 n]) fun n=>-128≤n∧n<128:=Rd.to id (fun _ _=>rfl) (fun _ h=>wf8S h) (Rd.int Tryz.underlying27)
theorem rd_ints:Rd Tryz.prog w 37 (fun l:List Int=>[.sl 1 (l.map intRow)]) fun l=>(∀ a∈l,R a)∧l.length≤maxLen:=
 Rd.slice Tryz.underlying37 (by kernel_rfl) rd_int fun _=>rfl
theorem rd_ll:Rd Tryz.prog w 23 (fun l:List (List Int)=>[.sl 1 (l.map llRow)]) fun l=>(∀ x∈l,(∀ a∈x,R a)∧x.length≤maxLen)∧l.length≤maxLen:=
 Rd.slice Tryz.underlying23 (by kernel_rfl) rd_ints fun _=>rfl
theorem rd_lll:Rd Tryz.prog w 22 (fun l:List (List (List Int))=>[.sl 1 (l.map lllRow)]) fun l=>(∀ y∈l,(∀ x∈y,(∀ a∈x,R a)∧x.length≤maxLen)∧y.length≤maxLen)∧l.length≤maxLen:=
 Rd.slice Tryz.underlying22 (by kernel_rfl) rd_ll fun _=>rfl
abbrev CaseA:=List (List (List Int))×List (List Int)
def caseRow (x:CaseA):List PV:=[.sl 1 (x.1.map lllRow),.sl 1 (x.2.map llRow)]
def CaseOk (x:CaseA):Prop:=(∀ y∈x.1,y.length≤9223372036854775807∧∀ z∈y,∀ n∈z,R n)∧(∀ y∈x.2,y.length≤9223372036854775807∧∀ n∈y,R n)
theorem rd_case:Rd Tryz.prog w 25 caseRow CaseOk:=by
 have h:RdF Tryz.prog w [{ name:= "Fonts",type:=22,offset:=0,embedded:=false,tag:= "",pkgPath:= "",byteOffset:=0 },{ name:= "Doc",type:=23,offset:=1,embedded:=false,tag:= "",pkgPath:= "",byteOffset:=24 }] _ _:=RdF.cons rd_lll (RdF.cons rd_ll RdF.nil)
 refine Rd.to (fun (x:List (List (List Int))×List (List Int)×Unit)=>(x.1,x.2.1)) (fun x hx=>rfl) (fun x hx=>?_) (Rd.struct (t:=25) Tryz.underlying25 (by kernel_rfl) h)
 obtain ⟨h1,h2,_⟩:=hx
 exact ⟨fun y hy=>⟨(h1.1 y hy).2,fun z hz=>((h1.1 y hy).1 z hz).1⟩,fun y hy=>⟨(h2.1 y hy).2,(h2.1 y hy).1⟩⟩
theorem rd_n2:Rd Tryz.prog w 26 (fun x:Int×Int=>[.int .i64 x.1,.int .i64 x.2]) fun x=>R x.1∧R x.2:=
 Rd.arr2 Tryz.underlying26 (sz:=1) (by kernel_rfl) (by kernel_rfl) rd_int
theorem rd_b2:Rd Tryz.prog w 28 (fun x:Int×Int=>[.int .i8 x.1,.int .i8 x.2]) fun x=>(-128≤x.1∧x.1<128)∧(-128≤x.2∧x.2<128):=
 Rd.arr2 Tryz.underlying28 (sz:=1) (by kernel_rfl) (by kernel_rfl) rd_i8
end Go.Proofs.YtlkbeomimbohlaaGreat
namespace Go.Abs.A30
open Go Go.Abs Go.Proofs
set_option maxRecDepth 100000
set_option linter.unusedVariables false
set_option linter.unusedSimpArgs false
attribute [local simp ↓] awp_skip awp_seq awp_cond awp_block awp_exit awp_ret awp_reg awp_draw awp_ghost awp_loop awp_rfun awpR_nil awpR_cons awpX_nil awpX_0 awpX_1 awpX_2 awpI_eq awpI_t awpI_f awpStep_eq
attribute [local simp] condL_true condL_false condL_dec evDel evV evN evS evA initFr Ghost.app Fr.var Fr.blk Fr.ff FF.val Abs.look Fr.app Fr.erase Fr.noSlot AV.noSlot AV.noSlotL Blk.noSlot Fr.spoken AV.fz AV.fzL Blk.fz binV binI shI binS unV fillA FF.parts FF.vals headO intO boundO lenV scalarEq leavesEq AV.aggc AV.cells FF.read FF.rows AV.one PV.one chunk freshB newS pickV retK evRs evRl evR resOf mkTup mkAgg allP cloOf okP_nil okX_p okX okP addN Del.noSlot Del.owners Rnd reify_p normM insM Fr.back Fr.backV Fr.setPs normV insV
attribute [local simp] renF Fr.trim Blk.trim AV.rn AV.rnL Blk.rn AV.among AV.amongL Blk.among okF retM fixS BIG initFF
attribute [local simp] FF.reify FF.reifyL PV.flat
section
attribute [local simp] ba_size wb ba_at w1 w6
theorem kind_out {c:Int} (h:c<0∨255<c):kindN c=(0,0):=by
 have:blkL.find? (inB c)=none:=by
  rw [List.find?_eq_none];intro b hb;have h2:∀ b∈blkL,0≤b.1∧b.2.1≤255:=by decide
  have:=h2 b hb;simp only [inB,Bool.and_eq_true,decide_eq_true_eq];omega
 simp only [kindN,this]
def scrF (c:Int):Int:=if 64≤c∧c≤103 then 1 else if 104≤c∧c≤151 then 2 else if 152≤c∧c≤207 then 3 else 0
theorem scr_eq (c:Int):scrN c=scrF c:=by
 by_cases h:c<0∨255<c
 ·unfold scrN scrF;rw [kind_out h,if_neg (by omega),if_neg (by omega),if_neg (by omega)]
 ·have key:∀ n:Fin 256,scrN ((n.val:Nat):Int)=scrF ((n.val:Nat):Int):=by decide +kernel
  have:=key ⟨c.toNat,by omega⟩
  rwa [show ((c.toNat:Nat):Int)=c by omega] at this
theorem strong_eq (c:Int):strongN c=if clsN c=3 then 3 else if scrN c=2 then 2 else if scrN c=0 then 0 else 1:=by
 by_cases h:c<0∨255<c
 ·simp only [strongN,clsN,scrN,kind_out h];rfl
 ·have key:∀ n:Fin 256,strongN ((n.val:Nat):Int)=if clsN ((n.val:Nat):Int)=3 then 3 else if scrN ((n.val:Nat):Int)=2 then 2 else if scrN ((n.val:Nat):Int)=0 then 0 else 1:=by decide +kernel
  have:=key ⟨c.toNat,by omega⟩
  rwa [show ((c.toNat:Nat):Int)=c by omega] at this
theorem b200 (c:Int):Bt 200 [.int .i64 c] (.p (.int .i64 (scrN c))):=by
 refine best mixed fn200 ok200 (by simp) ?_;rw [scr_eq];unfold scrF;simp -dsimp [ac200];refine cP (b81 c 64 103) ?_
 by_cases g1:64≤c∧c≤103
 ·simp -dsimp [g1.1,g1.2]
 have e1:(decide ((64:Int)≤c) && decide (c≤103))=false:=by simpa using g1
 rw [if_neg g1];simp -dsimp [e1];refine cP (b81 c 104 151) ?_
 by_cases g2:104≤c∧c≤151
 ·simp -dsimp [g2.1,g2.2]
 have e2:(decide ((104:Int)≤c) && decide (c≤151))=false:=by simpa using g2
 rw [if_neg g2];simp -dsimp [e2];refine cP (b81 c 152 207) ?_
 by_cases g3:152≤c∧c≤207
 ·simp -dsimp [g3.1,g3.2]
 have e3:(decide ((152:Int)≤c) && decide (c≤207))=false:=by simpa using g3
 rw [if_neg g3];simp -dsimp [e3]
theorem b165 (c:Int):Bt 165 [.int .i64 c] (.p (.int .i64 (strongN c))):=by
 refine best mixed fn165 ok165 (by simp) ?_;rw [strong_eq];have q:=b200 c;simp -dsimp [ac165];refine cP (b36 c) ?_
 by_cases h:clsN c=3
 ·simp -dsimp [h]
 rw [if_neg h];simp -dsimp [h,List.range,List.range.loop];refine cP q ?_;have hs:=scr_eq c;unfold scrF at hs;have:scrN c=0∨scrN c=1∨scrN c=2∨scrN c=3:=by
  rw [hs];split
  ·omega
  ·split
   ·omega
   ·split<;>omega
 rcases this with e | e | e | e<;>simp -dsimp [e]
theorem b129 (t:List UInt8) (i:Nat) (h:i<t.length):Bt 129 [.str (ba t),.int .i64 i] (.p (.int .i64 (strongN (cT t i)))):=by
 refine best mixed fn129 ok129 (by simp) ?_;have q:=b165 (cT t i);have hcT:((bT t i).toNat:Int)=cT t i:=rfl;simp -dsimp [ac129,h,hcT];have wcT:IntKind.i64.wrap (cT t i)=cT t i:=wr ⟨by unfold cT;omega,by unfold cT;have:=(bT t i).toNat_lt;omega⟩;simp -dsimp [wcT];refine cP q ?_;simp -dsimp
end
section
theorem stT_first (t:List UInt8) {i:Nat} (h:0<i):(stT t i).1[0]?=some 0:=by
 obtain ⟨r,hr⟩:=stT_pre t 1 i h;rw [←hr];simp [stT,begT]
def sA (t:List UInt8) (i:Nat):Nat:=if i<(splT t).length then ((splT t).getD i (0,0)).1 else t.length
theorem sA_get {t:List UInt8} {i:Nat} (h:i<(splT t).length):(splT t).getD i (0,0)=(sA t i,sA t (i+1)):=by
 have hl:(splT t).length=(stT t t.length).1.length:=by simp [splT]
 have key:∀ j,j<(splT t).length→(splT t).getD j (0,0)=((stT t t.length).1.getD j 0,if j+1<(splT t).length then (stT t t.length).1.getD (j+1) 0 else t.length):=fun j hj=>by
  rw [List.getD_eq_getElem?_getD,List.getElem?_eq_getElem hj,hl];exact spQ_get (by omega)
 unfold sA;rw [if_pos h,key i h]
 congr 1
 by_cases h2:i+1<(splT t).length
 ·rw [if_pos h2,if_pos h2,key (i+1) h2]
 ·rw [if_neg h2,if_neg h2]
theorem sA_0 (t:List UInt8):sA t 0=0:=by
 have hl:(splT t).length=(stT t t.length).1.length:=by simp [splT]
 by_cases h:0<t.length
 ·have h0:=stT_first t h;have hlt:0<(splT t).length:=by rw [hl];exact (List.getElem?_eq_some_iff.1 h0).1
  unfold sA;rw [if_pos hlt,List.getD_eq_getElem?_getD,List.getElem?_eq_getElem hlt];have:(splT t)[0]=((stT t t.length).1.getD 0 0,if 0+1<(stT t t.length).1.length then (stT t t.length).1.getD (0+1) 0 else t.length):=spQ_get (by omega);rw [this,List.getD_eq_getElem?_getD,h0];rfl
 ·have ht:t=[]:=List.eq_nil_of_length_eq_zero (by omega);subst ht;rfl
theorem sA_lt {t:List UInt8} {i:Nat} (h:i<(splT t).length):sA t i<sA t (i+1)∧sA t (i+1)≤t.length∧sA t (i+1)≤sA t i+6:=by
 have:=splT_mem (t:=t) (a:=sA t i) (b:=sA t (i+1)) (by
  rw [←sA_get h,List.getD_eq_getElem?_getD,List.getElem?_eq_getElem h];simp)
 omega
theorem sA_end (t:List UInt8):sA t (splT t).length=t.length:=by simp [sA]
theorem sA_mono {t:List UInt8} (i d:Nat) (h:i+d≤(splT t).length):sA t i+d≤sA t (i+d):=by
 induction d with
 | zero=>exact Nat.le_refl _
 | succ d ih=>
  have:=ih (by omega);have h2:=(sA_lt (t:=t) (i:=i+d) (by omega)).1;rw [show i+(d+1)=i+d+1 by omega];omega
end
section
attribute [local simp] ba_size wb ba_at w1 w6
attribute [local simp ↓] oneI oneSp
theorem b80 (t:List UInt8) (hl:t.length≤1000000):Bt 80 [.str (ba t)] (.p (.int .i64 (baseN t))):=by
 refine best mixed fn80 ok80 (by simp) ?_;simp -dsimp [ac80];refine loopC t.length (fun k=>⟨[(0,.p (.str (ba t))),(3,.p (.int .i64 k))],[]⟩) (fun k=>∀ y∈t.take k,strongB y=false) (fun k hk hall=>?_) (by simp) (by simp)
 by_cases h:k<t.length
 ·obtain ⟨x,ex⟩:=gn t[k];have hx:t[k]?=some x:=by simp [h,ex]
  have wk:R ((k:Int)+1):=rO (by omega);have hxc:cT t k=(x.toNat:Int):=by simp [cT,bT,h,ex]
  have hit:strongB x=true→baseN t=strongN x.toNat:=fun h2=>by
   unfold baseN;have:t.find? strongB=some x:=by
    rw [List.find?_eq_some_iff_getElem];refine ⟨h2,k,h,ex,fun j hj=>?_⟩;have:=hall (t[j]'(by omega)) (List.mem_take_iff_getElem.2 ⟨j,by omega,rfl⟩);simp only [this,Bool.not_false]
   rw [this]
  have go:strongB x=false→∀ y∈t.take (k+1),strongB y=false:=fun h2=>take_succ_all (p:=fun y=>strongB y=false) hx hall h2
  have q:=b129 t k h;rw [hxc] at q;simp -dsimp [h];refine cP q ?_
  by_cases h1:strongN x.toNat=1
  ·have:=hit (by simp [strongB,h1]);simp -dsimp [h1];refine cP q ?_;simp -dsimp [this]
  simp -dsimp [h1];refine cP q ?_
  by_cases h2:strongN x.toNat=2
  ·have:=hit (by simp [strongB,h2]);simp -dsimp [h2];refine cP q ?_;simp -dsimp [this]
  have:=go (by simp [strongB,h1,h2]);simp -dsimp [h,h1,h2,wr wk]
  first | done | exact this | exact ⟨h,this⟩
 ·have:k=t.length:=by omega
  subst this;rw [List.take_length] at hall;have:baseN t=1:=by
   unfold baseN;rw [List.find?_eq_none.2 (fun y hy=>by simp only [hall y hy,Bool.false_eq_true,not_false_eq_true])]
  simp -dsimp [h,this]
theorem b133 (t:List UInt8) (hl:t.length≤1000000):Bt 133 [.str (ba t)] (.p (.bool (decide (baseN t=2)))):=by
 refine best mixed fn133 ok133 (by simp) ?_;simp -dsimp [ac133];refine cP (b80 t hl) ?_;simp -dsimp
theorem setR_get (L:List Int) (a b:Nat) (v:Int) (i:Nat) (h:i<L.length):(setR L a b v).getD i 0=if a≤i∧i<b then v else L.getD i 0:=by
 simp [setR,h]
theorem kinT_get {t:List UInt8} {k i:Nat} (hk:k<(splT t).length) (h1:sA t k≤i) (h2:i<sA t (k+1)):(kinT t).getD i 0=strongN (cT t (baseT t (sA t k) (sA t (k+1)))):=by
 have key:∀ m,m≤(splT t).length→k<m→(kinK t m).getD i 0=strongN (cT t (baseT t (sA t k) (sA t (k+1)))):=by
  intro m
  induction m with
  | zero=>intro _ h;omega
  | succ m ih=>
   intro hm hkm;have hil:i<(kinK t m).length:=by
    rw [kinK_len];have:=(sA_lt hk).2.1;omega
   rw [kinK,sA_get (by omega:m<(splT t).length)];rw [setR_get _ _ _ _ _ hil]
   by_cases e:k=m
   ·subst e;rw [if_pos ⟨h1,h2⟩]
   ·have:=sA_mono (t:=t) (k+1) (m - (k+1)) (by omega);rw [show k+1+(m - (k+1))=m by omega] at this;rw [if_neg (by dsimp only;omega)];exact ih (by omega) (by omega)
 exact key _ (Nat.le_refl _) hk
theorem b78 (t:List UInt8) (hl:t.length≤1000000):Bt 78 [.str (ba t)] (.p (.sl 1 ((kinT t).map intRow))):=by
 refine best mixed fn78 ok78 (by simp) ?_;have q33:=b33 t hl;have hsl:=splT_len t;have hKl:(kinT t).length=t.length:=kinK_len t _;have h0:=sA_0 t;have hend:=sA_end t;have hlt:=fun k hk=>@sA_lt t k hk
 have hget:=fun k hk=>@sA_get t k hk
 have hkg:=fun k i hk=>@kinT_get t k i hk
 obtain ⟨T,eT⟩:=gn (splT t);obtain ⟨K,eK⟩:=gn (kinT t);obtain ⟨A,eA⟩:=gn (sA t);simp only [eT,eK,eA] at *;simp -dsimp [ac78];refine cP q33 ?_;simp -dsimp;refine loopC T.length (fun k=>⟨[(0,.p (.str (ba t))),(3,.ref (41,A k) 1 0 (A k)),(4,.p (.sl 2 (T.map spRow))),(5,.p (.int .i64 k))],[((41,A k),.sl 3 1 ((K.take (A k)).map intRow))]⟩) (fun k=>True) (fun k hk _=>?_) trivial (by simp [h0])
 by_cases h:k<T.length
 ·obtain ⟨⟨a,b⟩,ex⟩:=gn T[k];have hg:=hget k h;have exd:T.getD k (0,0)=(a,b):=by simp [h,ex]
  rw [exd] at hg;obtain ⟨ha,hb⟩:a=A k∧b=A (k+1):=by simpa using hg
  obtain ⟨l1,l2,l3⟩:=hlt k h;have hv:=fun i=>hkg k i h
  rw [←ha] at l1 l3;rw [←hb] at l1 l2 l3;rw [←ha,←hb];rw [←ha,←hb] at hv;have wk:R ((k:Int)+1):=rO (by omega)
  have hbt:=baseT_le (t:=t) l1;have q37:=b37 t a b l1 l2 hl;obtain ⟨m,em⟩:=gn (baseT t a b);rw [em] at hv hbt q37;have q129:=b129 t m (by omega)
  obtain ⟨v,ev⟩:=gn (strongN (cT t m));rw [ev] at hv q129;simp -dsimp [h,ex,spRow];refine call_p q37 (by simp [spRow]) (by simp) ?_;simp -dsimp;refine cP q129 ?_;simp -dsimp [h,ex,spRow];refine loopC (b - a) (fun n=>⟨[(0,.p (.str (ba t))),(3,.ref (41,a+n) 1 0 (a+n)),(4,.p (.sl 2 (T.map spRow))),(5,.p (.int .i64 k)),(6,.p (.int .i64 v)),(7,.p (.int .i64 ((a+n:Nat):Int)))],[((41,a+n),.sl 3 1 ((K.take (a+n)).map intRow))]⟩) (fun _=>True) (fun n hn _=>?_) trivial (by simp);obtain ⟨j,ej⟩:=gn (a+n)
  have ej2:a+(n+1)=j+1:=by omega
  rw [ej,ej2]
  by_cases hj:j<b
  ·have hv2:=hv j (by omega) hj;have hjK:j<K.length:=by omega
   have e5:K[j]=v:=by
    rw [List.getD_eq_getElem?_getD,List.getElem?_eq_getElem hjK] at hv2;exact hv2
   have hs:K.take (j+1)=K.take j++[v]:=by rw [List.take_add_one,List.getElem?_eq_getElem hjK,e5];rfl
   have hlm:min j K.length=j:=by omega
   have hj':(j:Int)<b:=by omega
   have wj:R ((j:Int)+1):=rO (by omega);have m1:j+1≤maxLen:=by unfold maxLen;omega
   have e1:(j+1)*8≤140737488355328:=by omega
   have hall:(((K.take j).map intRow).all fun r=>r.all PV.one)=true:=oneI _;simp -dsimp [h,ex,spRow,hj',wr wj,m1,e1,hs,hlm,List.range,List.range.loop,hall,intRow,-List.all_eq_true,-List.map_take];omega
  ·have hjb:j=b:=by omega
   subst hjb;have hj':¬(j:Int)<j:=by omega
   simp -dsimp [h,ex,spRow,wr wk]
 ·have:k=T.length:=by omega
  subst this;rw [hend];have ht:K.take t.length=K:=List.take_of_length_le (by omega);have ht2:List.take t.length (K.map intRow)=K.map intRow:=List.take_of_length_le (by simp;omega);simp -dsimp [h,ht,ht2];omega
end
section
def D1 (K:List Int) (b:Int) (j:Nat):Int:=runK K b (j+1)
structure MR (K:List Int) (s e:Nat):Prop where
 lt:s<e
 le:e≤K.length
 mid:∀ j,s≤j→j<e→K.getD j 0=0
 lo:s=0∨K.getD (s - 1) 0≠0
 hi:e=K.length∨K.getD e 0≠0
theorem MR.one {K:List Int} {s e s' e' j:Nat} (h:MR K s e) (k:MR K s' e') (h1:s≤j) (h2:j<e) (k1:s'≤j) (k2:j<e'):s=s'∧e=e':=by
 constructor
 ·rcases Nat.lt_trichotomy s s' with q | q | q
  ·rcases k.lo with z | z
   ·omega
   ·exact absurd (h.mid (s' - 1) (by omega) (by omega)) z
  ·exact q
  ·rcases h.lo with z | z
   ·omega
   ·exact absurd (k.mid (s - 1) (by omega) (by omega)) z
 ·rcases Nat.lt_trichotomy e e' with q | q | q
  ·rcases h.hi with z | z
   ·have:=k.le;omega
   ·exact absurd (k.mid e (by omega) q) z
  ·exact q
  ·rcases k.hi with z | z
   ·have:=h.le;omega
   ·exact absurd (h.mid e' (by omega) q) z
def nvV (K:List Int) (b:Int) (s e:Nat):Int:=
 if (if 0<s then D1 K b (s - 1) else b)=(if e<K.length then D1 K b e else b) then (if 0<s then D1 K b (s - 1) else b) else b
structure DOk (K:List Int) (b:Int) (p:Nat) (L:List Int):Prop where
 len:L.length=K.length
 non:∀ j,j<K.length→K.getD j 0≠0→L.getD j 0=D1 K b j
 neu:∀ j s e,MR K s e→s≤j→j<e→j<p→L.getD j 0=nvV K b s e
 bhd:∀ j,p≤j→j<K.length→L.getD j 0=D1 K b j
theorem DOk.zero (K:List Int) (b:Int):DOk K b 0 (d1K K b K.length):=by
 have h:∀ j,j<K.length→(d1K K b K.length).getD j 0=D1 K b j:=fun j hj=>by
  simp [d1K,hj,D1]
 exact ⟨d1K_len,fun j hj _=>h j hj,fun j s e _ _ _ h=>by omega,fun j _ hj=>h j hj⟩
theorem DOk.skip {K:List Int} {b:Int} {p p':Nat} {L:List Int} (h:DOk K b p L) (hp:p≤p') (hn:∀ j,p≤j→j<p'→j<K.length→K.getD j 0≠0):DOk K b p' L:=
 ⟨h.len,h.non,fun j s e hm h1 h2 h3=>by
  rcases Nat.lt_or_ge j p with q | q
  ·exact h.neu j s e hm h1 h2 q
  ·exact absurd (hm.mid j h1 h2) (hn j q h3 (by have:=hm.le;omega)),fun j h1 h2=>h.bhd j (by omega) h2⟩
theorem DOk.run {K:List Int} {b:Int} {s e:Nat} {L:List Int} (h:DOk K b s L) (hm:MR K s e):DOk K b e (setR L s e (nvV K b s e))∧d2V b L s e=nvV K b s e:=by
 have h1:=hm.lt;have h2:=hm.le;have hl:=h.len;constructor
 ·refine ⟨by rw [setR_len,hl],fun j hj hk=>?_,fun j s' e' hm' h3 h4 h5=>?_,fun j h3 h4=>?_⟩
  ·rw [setR_get _ _ _ _ _ (by omega),if_neg (fun q=>hk (hm.mid j q.1 q.2))];exact h.non j hj hk
  ·have:=hm'.le;rw [setR_get _ _ _ _ _ (by omega)];rcases Nat.lt_or_ge j s with q | q
   ·rw [if_neg (by omega)];exact h.neu j s' e' hm' h3 h4 q
   ·rw [if_pos ⟨q,h5⟩];obtain ⟨rfl,rfl⟩:=hm.one hm' q h5 h3 h4;rfl
  ·rw [setR_get _ _ _ _ _ (by omega),if_neg (by omega)];exact h.bhd j (by omega) h4
 ·unfold d2V nvV;have e1:(if 0<s then L.getD (s - 1) 0 else b)=if 0<s then D1 K b (s - 1) else b:=by
   split
   ·rename_i q;rcases hm.lo with z | z
    ·omega
    ·exact h.non (s - 1) (by omega) z
   ·rfl
  have e2:(if e<L.length then L.getD e 0 else b)=if e<K.length then D1 K b e else b:=by
   rw [hl];split
   ·rename_i q;exact h.bhd e (by omega) q
   ·rfl
  rw [e1,e2]
theorem neuN_t {x:Int}:neuN x=true↔x=0:=by simp [neuN]
theorem d2K_ok (K:List Int) (b:Int):∀ k,DOk K b (pst neuN K k 0) (d2K b (pcs neuN K) (d1K K b K.length) k)∧(pst neuN K k 0=0∨pst neuN K k 0=K.length∨(neuN (K.getD (pst neuN K k 0 - 1) 0))≠neuN (K.getD (pst neuN K k 0) 0)):=by
 intro k
 induction k with
 | zero=>exact ⟨DOk.zero K b,.inl rfl⟩
 | succ k ih=>
  obtain ⟨h1,h2⟩:=ih;have hg:=pcsF_get neuN K K.length 0 (by omega) (by omega) k;have hle:=pst_le neuN K k 0 (by omega);rw [pst_succ]
  by_cases hlt:pst neuN K k 0<K.length
  ·have hgk:=hg.1 hlt;have eP:(pcs neuN K).getD k (0,0,false)=(pst neuN K k 0,pst neuN K (k+1) 0,neuN (K.getD (pst neuN K k 0) 0)):=by
    unfold pcs;rw [List.getD_eq_getElem?_getD,hgk];rfl
   rw [d2K,eP,pst_succ];obtain ⟨s,es⟩:=gn (pst neuN K k 0);rw [es] at h1 h2 hlt hle ⊢;have epn:pnx neuN K s=runE neuN K (neuN (K.getD s 0)) (s+1):=by simp only [pnx,hlt,if_true]
   have hre:=runE_le (q:=neuN) (l:=K) (key:=neuN (K.getD s 0)) (i:=s+1) (by omega);have hin:=fun j a c d=>@runE_in neuN K (neuN (K.getD s 0)) (s+1) j a c d
   have hout:=@runE_out neuN K (neuN (K.getD s 0)) (s+1);obtain ⟨e,ee⟩:=gn (pnx neuN K s);rw [←epn,ee] at hre hout;rw [ee];have hin2:∀ j,s≤j→j<e→neuN (K.getD j 0)=neuN (K.getD s 0):=by
    intro j a c
    by_cases q:j=s
    ·rw [q]
    ·exact hin j (by omega) (by rw [←epn,ee];exact c) (by omega)
   refine ⟨?_,?_⟩
   ·unfold d2S;dsimp only;cases hk:neuN (K.getD s 0) with
    | false=>
     rw [if_neg (by simp)];exact h1.skip (by omega) fun j a c d q=>by
      have:=hin2 j a c;rw [hk,q] at this;simp [neuN] at this
    | true=>
     rw [if_pos rfl];have hm:MR K s e:=by
      refine ⟨by omega,by omega,fun j a c=>neuN_t.1 (by rw [hin2 j a c,hk]),?_,?_⟩
      ·rcases h2 with q | q | q
       ·exact .inl q
       ·omega
       ·right;rw [hk] at q;intro z;exact q (neuN_t.2 z)
      ·rcases Nat.lt_or_ge e K.length with q | q
       ·right;have:=hout q;rw [hk] at this;intro z;exact this (neuN_t.2 z)
       ·left;omega
     obtain ⟨g1,g2⟩:=h1.run hm;rw [g2];exact g1
   ·rcases Nat.lt_or_ge e K.length with q | q
    ·right;right;have:=hout q;rw [hin2 (e - 1) (by omega) (by omega)];exact fun z=>this z.symm
    ·right;left;omega
  ·have es:pst neuN K k 0=K.length:=by omega
   have epn:pnx neuN K K.length=K.length:=by simp [pnx]
   rw [es] at h1 ⊢;rw [epn];have hnone:(pcs neuN K)[k]?=none:=by
    rw [List.getElem?_eq_none];have:=hg.2;unfold pcs;omega
   have eP:(pcs neuN K).getD k (0,0,false)=(0,0,false):=by rw [List.getD_eq_getElem?_getD,hnone];rfl
   rw [d2K,eP];exact ⟨h1,.inr (.inl rfl)⟩
theorem DOk.uniq {K:List Int} {b:Int} {L L':List Int} (h:DOk K b K.length L) (h':DOk K b K.length L'):L=L':=by
 apply List.ext_getElem (by rw [h.len,h'.len])
 intro j h1 h2;have hj:j<K.length:=by rw [←h.len];exact h1
 have e1:L.getD j 0=L[j]:=by simp [h1]
 have e2:L'.getD j 0=L'[j]:=by simp [h2]
 rw [←e1,←e2]
 by_cases hz:K.getD j 0=0
 ·obtain ⟨s,e,hm,a,c⟩:∃ s e,MR K s e∧s≤j∧j<e:=by
   obtain ⟨s,⟨s1,s2⟩,s3⟩:=least (p:=fun s=>s≤j∧∀ i,s≤i→i≤j→K.getD i 0=0) ⟨j,Nat.le_refl _,fun i a c=>by rw [show i=j by omega];exact hz⟩;obtain ⟨e,⟨e1,e2⟩,e3⟩:=least (p:=fun e=>j<e∧(e=K.length∨K.getD e 0≠0)) ⟨K.length,hj,.inl rfl⟩;refine ⟨s,e,⟨by omega,?_,fun i a c=>?_,?_,e2⟩,s1,e1⟩
   ·rcases e2 with q | q
    ·omega
    ·rcases Nat.lt_or_ge K.length e with z | z
     ·exact absurd ⟨hj,.inl rfl⟩ (e3 K.length z)
     ·exact z
   ·rcases Nat.lt_or_ge j i with q | q
    ·rcases Nat.lt_or_ge i e with z | z
     ·have:=e3 i z
      by_cases y:K.getD i 0=0
      ·exact y
      ·exact absurd ⟨q,.inr y⟩ this
     ·omega
    ·exact s2 i a q
   ·by_cases y:s=0
    ·exact .inl y
    ·right;intro z;refine s3 (s - 1) (by omega) ⟨by omega,fun i a c=>?_⟩
     by_cases q:i=s - 1
     ·rw [q];exact z
     ·exact s2 i (by omega) c
  rw [h.neu j s e hm a c hj,h'.neu j s e hm a c hj]
 ·rw [h.non j hj hz,h'.non j hj hz]
theorem dirT_of {t:List UInt8} {K L:List Int} (h:DOk K (baseN t) K.length L):dirT t K=d3K t (baseN t) L t.length:=by
 obtain ⟨h1,_⟩:=d2K_ok K (baseN t) (pcs neuN K).length;have hg:=pcsF_get neuN K K.length 0 (by omega) (by omega) (pcs neuN K).length;have e:pst neuN K (pcs neuN K).length 0=K.length:=by
  have:=pst_le neuN K (pcs neuN K).length 0 (by omega);have h2:=hg.2;unfold pcs at h2 this ⊢;omega
 rw [e] at h1;unfold dirT;rw [h1.uniq h]
end
section
attribute [local simp] ba_size wb ba_at w1 w6
attribute [local simp ↓] oneI oneSp
def rfL (K:List Int) (i:Nat) (L:List Int):List Int:=(List.range K.length).map fun j=>if j<i∨K.getD j 0≠0 then L.getD j 0 else 0
theorem rfL_len (K:List Int) (i:Nat) (L:List Int):(rfL K i L).length=K.length:=by simp [rfL]
theorem rfL_get (K:List Int) (i:Nat) (L:List Int) (j:Nat) (h:j<K.length):(rfL K i L).getD j 0=if j<i∨K.getD j 0≠0 then L.getD j 0 else 0:=by simp [rfL,h]
theorem ext_getD {L L':List Int} (h:L.length=L'.length) (k:∀ j,j<L.length→L.getD j 0=L'.getD j 0):L=L':=by
 apply List.ext_getElem h
 intro j h1 h2;have:=k j h1;simpa [h1,h2] using this
theorem rfL_next (K:List Int) (i:Nat) (L:List Int) (h:i<K.length) (hz:K.getD i 0≠0):rfL K (i+1) L=rfL K i L:=by
 unfold rfL;refine List.map_congr_left fun j hj=>?_
 by_cases e:j=i
 ·subst e;rw [if_pos (.inr hz),if_pos (.inr hz)]
 ·by_cases e2:j<i∨K.getD j 0≠0
  ·rw [if_pos e2,if_pos (e2.imp (fun q=>by omega) id)]
  ·rw [if_neg e2,if_neg (fun q=>e2 (q.imp (fun q=>by omega) id))]
theorem rfL_run {K:List Int} {s e:Nat} {L:List Int} (hl:L.length=K.length) (hm:MR K s e) (v:Int):setR (rfL K s L) s e v=rfL K e (setR L s e v):=by
 apply ext_getD (by simp [rfL_len])
 intro j hj;have hj:j<K.length:=by simpa [rfL_len] using hj
 rw [setR_get _ _ _ _ _ (by rw [rfL_len];exact hj),rfL_get _ _ _ _ hj,rfL_get _ _ _ _ hj,setR_get _ _ _ _ _ (by omega)]
 by_cases c1:s≤j∧j<e
 ·rw [if_pos c1,if_pos c1,if_pos (.inl c1.2)]
 ·rw [if_neg c1,if_neg c1]
  by_cases c2:j<s
  ·rw [if_pos (.inl c2),if_pos (.inl (by have:=hm.lt;omega))]
  ·by_cases c3:K.getD j 0≠0
   ·rw [if_pos (.inr c3),if_pos (.inr c3)]
   ·rw [if_neg (fun q=>q.elim c2 c3),if_neg (fun q=>q.elim (fun z=>c1 ⟨by omega,z⟩) c3)]
theorem rfL_end (K:List Int) (L:List Int) (h:L.length=K.length):rfL K K.length L=L:=by
 apply ext_getD (by rw [rfL_len,h])
 intro j hj;have hj:j<K.length:=by simpa [rfL_len] using hj
 rw [rfL_get _ _ _ _ hj,if_pos (.inl hj)]
def o1L (K:List Int) (b:Int) (i:Nat):List Int:=(List.range K.length).map fun j=>if j<i∧K.getD j 0≠0 then D1 K b j else 0
theorem o1L_len (K:List Int) (b:Int) (i:Nat):(o1L K b i).length=K.length:=by simp [o1L]
theorem o1L_get (K:List Int) (b:Int) (i:Nat) (j:Nat) (h:j<K.length):(o1L K b i).getD j 0=if j<i∧K.getD j 0≠0 then D1 K b j else 0:=by simp [o1L,h]
theorem o1L_0 (K:List Int) (b:Int):o1L K b 0=zerosI K.length:=by
 apply ext_getD (by simp [o1L,zerosI])
 intro j hj;have hj:j<K.length:=by simpa [o1L_len] using hj
 rw [o1L_get _ _ _ _ hj,if_neg (by omega)];simp [zerosI,hj]
theorem o1L_yes (K:List Int) (b:Int) (i:Nat) (h:i<K.length) (hz:K.getD i 0≠0):o1L K b (i+1)=(o1L K b i).set i (D1 K b i):=by
 apply List.ext_getElem (by simp [o1L])
 intro j h1 h2;have hj:j<K.length:=by simpa [o1L] using h1
 rw [List.getElem_set];simp only [o1L,List.getElem_map,List.getElem_range]
 by_cases e:i=j
 ·subst e;rw [if_pos ⟨by omega,hz⟩,if_pos rfl]
 ·rw [if_neg e]
  by_cases e2:j<i∧K.getD j 0≠0
  ·rw [if_pos e2,if_pos ⟨by omega,e2.2⟩]
  ·rw [if_neg e2,if_neg (fun q=>e2 ⟨by omega,q.2⟩)]
theorem o1L_no (K:List Int) (b:Int) (i:Nat) (hz:K.getD i 0=0):o1L K b (i+1)=o1L K b i:=by
 unfold o1L;refine List.map_congr_left fun j hj=>?_
 by_cases e2:j<i∧K.getD j 0≠0
 ·rw [if_pos e2,if_pos ⟨by omega,e2.2⟩]
 ·rw [if_neg e2,if_neg (fun q=>e2 ⟨by
   rcases Nat.lt_or_ge j i with z | z
   ·exact z
   ·have:j=i:=by omega
    subst this;exact absurd hz q.2,q.2⟩)]
theorem o1L_end (K:List Int) (b:Int):o1L K b K.length=rfL K 0 (d1K K b K.length):=by
 apply ext_getD (by rw [o1L_len,rfL_len])
 intro j hj;have hj:j<K.length:=by simpa [o1L_len] using hj
 rw [o1L_get _ _ _ _ hj,rfL_get _ _ _ _ hj]
 by_cases hz:K.getD j 0≠0
 ·rw [if_pos ⟨hj,hz⟩,if_pos (.inr hz)];exact ((DOk.zero K b).bhd j (by omega) hj).symm
 ·rw [if_neg (fun q=>hz q.2),if_neg (fun q=>q.elim (by omega) hz)]
theorem x79d {Kc:AE→Fr→Prop} (t:List UInt8) (K:List Int) (b:Int) (s e:Nat) (hse:s<e) (M:List Int) (hM:M.length=K.length) (he:e≤K.length) (hl:K.length≤1000000) (bf af:Int)
  (hK:Kc .normal ⟨[(8,.p (.int .i64 ((e:Int) - 1))),(113,.p (.int .i64 ((e:Int) - 1))),(112,.p (.int .i64 e)),(0,.p (.str (ba t))),(3,.p (.sl 1 (K.map intRow))),(4,.p (.int .i64 b)),(5,.ref (20,0) 1 0 K.length),(9,.p (.int .i64 e))],[((20,0),.sl 3 1 ((setR M s e (if bf=af then bf else b)).map intRow))]⟩) :
  awp Tryz.prog xc79d Kc ⟨[(0,.p (.str (ba t))),(3,.p (.sl 1 (K.map intRow))),(4,.p (.int .i64 b)),(5,.ref (20,0) 1 0 K.length),(8,.p (.int .i64 s)),(9,.p (.int .i64 e)),(10,.p (.int .i64 bf)),(11,.p (.int .i64 af))],[((20,0),.sl 3 1 (M.map intRow))]⟩:=by
 obtain ⟨v,ev⟩:=gn ((if bf=af then bf else b));rw [ev] at hK;simp -dsimp [xc79d];refine loopC (e - s) (fun n=>⟨[(0,.p (.str (ba t))),(3,.p (.sl 1 (K.map intRow))),(4,.p (.int .i64 b)),(5,.ref (20,0) 1 0 K.length),(9,.p (.int .i64 e)),(10,.p (.int .i64 bf)),(11,.p (.int .i64 af)),(12,.p (.int .i64 ((s+n:Nat):Int)))],[((20,0),.sl 3 1 ((setR M s (s+n) v).map intRow))]⟩) (fun _=>True) (fun n hn _=>?_) trivial (by simp [setR_self]);obtain ⟨j,ej⟩:=gn (s+n)
 have ej2:s+(n+1)=j+1:=by omega
 rw [ej,ej2]
 by_cases hj:j<e
 ·have hs:=setR_succ M (a:=s) (j:=j) v (by omega);have hl3:(setR M s j v).length=K.length:=by simp [hM]
  obtain ⟨L,eL⟩:=gn (setR M s j v);rw [eL] at hs hl3 ⊢;rw [hs];have hjL:j<L.length:=by omega
  have hjK:j<K.length:=by omega
  have wj:R ((j:Int)+1):=rO (by omega);have hm1:=map_set_row L j b;have hm2:=map_set_row L j v
  by_cases c:bf=af
  ·rw [if_pos c] at ev;subst ev;subst c;simp -dsimp [hj,hjL,hjK,hl3,wr wj,intRow,List.set_set];omega
  ·rw [if_neg c] at ev;subst ev;simp -dsimp [hj,hjL,hjK,hl3,wr wj,intRow,c];omega
 ·have hjb:j=e:=by omega
  subst hjb;have w2:R ((j:Int) - 1):=rO (by omega);simp -dsimp [wr w2,hK]
theorem getD_at {L:List Int} {i:Nat} (h:i<L.length):L[i]=L.getD i 0:=by simp [h]
theorem x79b {Kc:AE→Fr→Prop} (t:List UInt8) (K:List Int) (b:Int) (s e:Nat) (L:List Int) (hl:K.length≤1000000) (hd:DOk K b s L) (hm:MR K s e)
  (hK:∀ F',(Ghost.keep [0,3,4,5,8]).app F'=some ⟨[(0,.p (.str (ba t))),(3,.p (.sl 1 (K.map intRow))),(4,.p (.int .i64 b)),(5,.ref (20,0) 1 0 K.length),(8,.p (.int .i64 ((e:Int) - 1)))],[((20,0),.sl 3 1 ((rfL K e (setR L s e (nvV K b s e))).map intRow))]⟩→Kc .normal F') :
  awp Tryz.prog xc79b Kc ⟨[(0,.p (.str (ba t))),(3,.p (.sl 1 (K.map intRow))),(4,.p (.int .i64 b)),(5,.ref (20,0) 1 0 K.length),(8,.p (.int .i64 s))],[((20,0),.sl 3 1 ((rfL K s L).map intRow))]⟩:=by
 have hlt:=hm.lt;have hle:=hm.le;have hLl:=hd.len;have hRl:=rfL_len K s L;have hrun:=rfL_run hLl hm (nvV K b s e);obtain ⟨_,hv⟩:=hd.run hm;have hbef:0<s→(rfL K s L).getD (s - 1) 0=L.getD (s - 1) 0:=fun h=>by rw [rfL_get _ _ _ _ (by omega),if_pos (.inl (by omega))]
 have haft:e<K.length→(rfL K s L).getD e 0=L.getD e 0:=fun h=>by
  rw [rfL_get _ _ _ _ h];rcases hm.hi with q | q
  ·omega
  ·rw [if_pos (.inr q)]
 have hend:=fun bf af h=>@x79d Kc t K b s e hlt (rfL K s L) hRl hle hl bf af h
 rw [hv.symm] at hrun hK;unfold d2V at hrun hK;rw [hLl] at hrun hK;rw [←hrun] at hK;obtain ⟨M,eM⟩:=gn (rfL K s L)
 rw [eM] at hRl hbef haft hend hK ⊢;simp -dsimp [xc79b,↓ awpC_of xc79d];refine loopC (e - s) (fun n=>⟨[(0,.p (.str (ba t))),(3,.p (.sl 1 (K.map intRow))),(4,.p (.int .i64 b)),(5,.ref (20,0) 1 0 K.length),(8,.p (.int .i64 s)),(9,.p (.int .i64 ((s+n:Nat):Int)))],[((20,0),.sl 3 1 (M.map intRow))]⟩) (fun _=>True) (fun n hn _=>?_) trivial (by simp);obtain ⟨j,ej⟩:=gn (s+n)
 have ej2:s+(n+1)=j+1:=by omega
 rw [ej,ej2]
 by_cases hj:j<e
 ·have hjK:j<K.length:=by omega
  have hz:=hm.mid j (by omega) hj;rw [←getD_at hjK] at hz;have wj:R ((j:Int)+1):=rO (by omega)
  simp -dsimp [hjK,hz,intRow,wr wj,↓ awpC_of xc79d];omega
 ·have hjb:j=e:=by omega
  subst hjb;have fin:∀ bf af,bf=(if 0<s then L.getD (s - 1) 0 else b)→af=(if j<K.length then L.getD j 0 else b)→awp Tryz.prog xc79d Kc ⟨[(0,.p (.str (ba t))),(3,.p (.sl 1 (K.map intRow))),(4,.p (.int .i64 b)),(5,.ref (20,0) 1 0 K.length),(8,.p (.int .i64 s)),(9,.p (.int .i64 j)),(10,.p (.int .i64 bf)),(11,.p (.int .i64 af))],[((20,0),.sl 3 1 (M.map intRow))]⟩:=by
   intro bf af e1 e2;refine hend bf af (hK _ ?_);rw [e1,e2];simp
  by_cases c1:0<s
  ·obtain ⟨m,em⟩:∃ m:Nat,(s:Int) - 1=m:=⟨s - 1,by omega⟩;have em2:s - 1=m:=by omega
   have wm:R (m:Int):=rO (by omega);have hmM:m<M.length:=by omega
   have hmK:m<K.length:=by omega
   have hb2:=hbef c1;rw [em2,←getD_at hmM] at hb2
   by_cases c2:j<K.length
   ·have hjM:j<M.length:=by omega
    have hz:¬K[j]=0:=by
     rw [getD_at c2];rcases hm.hi with q | q
     ·omega
     ·exact q
    have ha2:=haft c2;rw [←getD_at hjM] at ha2;simp -dsimp [c1,c2,hz,hjM,hmM,hmK,hb2,ha2,em,wr wm,intRow,↓ awpC_of xc79d];exact awpC_in (fin _ _ (by rw [if_pos c1,em2];rfl) (by rw [if_pos c2];rfl))
   ·simp -dsimp [c1,c2,hmM,hmK,hb2,em,wr wm,intRow,↓ awpC_of xc79d];exact awpC_in (fin _ _ (by rw [if_pos c1,em2];rfl) (by rw [if_neg c2]))
  ·by_cases c2:j<K.length
   ·have hjM:j<M.length:=by omega
    have hz:¬K[j]=0:=by
     rw [getD_at c2];rcases hm.hi with q | q
     ·omega
     ·exact q
    have ha2:=haft c2;rw [←getD_at hjM] at ha2;simp -dsimp [c1,c2,hz,hjM,ha2,intRow,↓ awpC_of xc79d];exact awpC_in (fin _ _ (by rw [if_neg c1]) (by rw [if_pos c2];rfl))
   ·simp -dsimp [c1,c2,intRow,↓ awpC_of xc79d];exact awpC_in (fin _ _ (by rw [if_neg c1]) (by rw [if_neg c2]))
theorem x79c (t:List UInt8) (hl:t.length≤1000000) (K:List Int) (hK:K.length=t.length) (b:Int) (L:List Int) (hL:L.length=t.length) :
  awp Tryz.prog xc79c (retK [RO.tmp 2] (.p (.sl 1 ((d3K t b L t.length).map intRow)))) ⟨[(0,.p (.str (ba t))),(4,.p (.int .i64 b)),(5,.ref (20,0) 1 0 t.length)],[((20,0),.sl 3 1 (L.map intRow))]⟩:=by
 simp -dsimp [xc79c];refine loopC t.length (fun k=>⟨[(0,.p (.str (ba t))),(4,.p (.int .i64 b)),(5,.ref (20,0) 1 0 t.length),(13,.p (.int .i64 k))],[((20,0),.sl 3 1 ((d3K t b L k).map intRow))]⟩) (fun _=>True) (fun k hk _=>?_) trivial (by simp [d3K_0]);have hml:=map_set_row (d3K t b L k) k b;have hMl:(d3K t b L k).length=t.length:=by rw [d3K_len,hL]
 by_cases h:k<t.length
 ·have wk:R ((k:Int)+1):=rO (by omega);have hcT:((bT t k).toNat:Int)=cT t k:=rfl;have wcT:IntKind.i64.wrap (cT t k)=cT t k:=wr ⟨by unfold cT;omega,by unfold cT;have:=(bT t k).toNat_lt;omega⟩;have q36:=b36 (cT t k);have hcl:clsN (cT t k)=clsT t k:=rfl;rw [hcl] at q36;have hyes:=fun e=>@d3K_yes t b L k e
  have hno:=fun e=>@d3K_no t b L k e
  obtain ⟨M,eM⟩:=gn (d3K t b L k);rw [eM] at hml hMl hyes hno ⊢;have hkM:k<M.length:=by omega
  simp -dsimp [h,hcT,wcT];refine cP q36 ?_
  by_cases c:clsT t k=1
  ·rw [hyes c];simp -dsimp [c,h,hkM,hMl,wr wk,intRow]
  ·rw [hno c];simp -dsimp [c,h,wr wk]
 ·have:k=t.length:=by omega
  subst this;have ht:List.take t.length ((d3K t b L t.length).map intRow)=(d3K t b L t.length).map intRow:=List.take_of_length_le (by simp [hMl]);simp -dsimp [h,ht];omega
theorem b79 (t:List UInt8) (hl:t.length≤1000000):Bt 79 [.str (ba t)] (.p (.sl 1 ((dirT t (kinT t)).map intRow))):=by
 refine best mixed fn79 ok79 (by simp) ?_;have q78:=b78 t hl;have q80:=b80 t hl;have hKl:=kinT_len t;have hdir:=fun L h=>@dirT_of t (kinT t) L h
 have hend:=x79c t hl (kinT t) hKl (baseN t);obtain ⟨K,eK⟩:=gn (kinT t);obtain ⟨b,eb⟩:=gn (baseN t);simp only [eK,eb] at q78 q80 hKl hdir hend ⊢;have m0:(K.length:Int)≤281474976710656:=by omega
 have f0:(K.length:Int)≤9223372036854775807:=by omega
 have e0:8*(K.length:Int)≤281474976710656:=by omega
 simp -dsimp [ac79,m0,e0,f0];refine cP q78 ?_;simp -dsimp;refine cP q80 ?_;simp -dsimp [m0,e0,f0];rw [zerosI_rows];refine loopC K.length (fun i=>⟨[(0,.p (.str (ba t))),(3,.p (.sl 1 (K.map intRow))),(4,.p (.int .i64 b)),(5,.ref (20,0) 1 0 K.length),(6,.p (.int .i64 (runK K b i))),(7,.p (.int .i64 i))],[((20,0),.sl 3 1 ((o1L K b i).map intRow))]⟩) (fun _=>True) (fun i hi _=>?_) trivial (by simp [o1L_0,runK]);have hol:=o1L_len K b i;have hyes:=o1L_yes K b i;have hno:=o1L_no K b i;have hrun:runK K b (i+1)=if K.getD i 0=1∨K.getD i 0=2 then K.getD i 0 else runK K b i:=rfl
 have hD1:D1 K b i=runK K b (i+1):=rfl
 by_cases h:i<K.length
 ·have wi:R ((i:Int)+1):=rO (by omega);obtain ⟨x,ex⟩:=gn K[i];have exd:K.getD i 0=x:=by rw [←getD_at h];exact ex
  rw [exd] at hyes hno hrun;rw [hD1] at hyes;have hml:=fun v=>map_set_row (o1L K b i) i v
  obtain ⟨M,eM⟩:=gn (o1L K b i);rw [eM] at hol hyes hno hml ⊢;have hiM:i<M.length:=by omega
  obtain ⟨la,el⟩:=gn (runK K b i);rw [el] at hrun ⊢
  by_cases c1:x=1
  ·rw [if_pos (.inl c1)] at hrun;rw [hyes h (by omega),hrun];simp -dsimp [h,ex,c1,intRow,hiM,hol,wr wi]
  ·by_cases c2:x=2
   ·rw [if_pos (.inr c2)] at hrun;rw [hyes h (by omega),hrun];simp -dsimp [h,ex,c2,intRow,hiM,hol,wr wi]
   ·rw [if_neg (fun q=>q.elim c1 c2)] at hrun
    by_cases c3:x=0
    ·rw [hno c3,hrun];simp -dsimp [h,ex,c3,intRow,hiM,hol,wr wi]
    ·rw [hyes h c3,hrun];simp -dsimp [h,ex,c1,c2,c3,intRow,hiM,hol,wr wi]
 ·have:i=K.length:=by omega
  subst this;simp -dsimp [h];rw [o1L_end];refine loopM (fun x:Nat×List Int=>K.length - x.1) (fun x=>⟨[(0,.p (.str (ba t))),(3,.p (.sl 1 (K.map intRow))),(4,.p (.int .i64 b)),(5,.ref (20,0) 1 0 K.length),(8,.p (.int .i64 x.1))],[((20,0),.sl 3 1 ((rfL K x.1 x.2).map intRow))]⟩) (fun x=>x.1≤K.length∧DOk K b x.1 x.2∧(x.1=0∨K.getD (x.1 - 1) 0≠0∨x.1=K.length∨K.getD x.1 0≠0)) (0,d1K K b K.length) (fun x hx=>?_) ⟨by omega,DOk.zero K b,.inl rfl⟩ (by simp);obtain ⟨i,L⟩:=x;obtain ⟨h1,h2,h3⟩:=hx;dsimp only at h1 h2 h3
  by_cases hi2:i<K.length
  ·have wi:R ((i:Int)+1):=rO (by omega)
   by_cases hz:K.getD i 0=0
   ·have hz':K[i]=0:=by rw [getD_at hi2];exact hz
    obtain ⟨e,⟨e1,e2⟩,e3⟩:=least (p:=fun e=>i<e∧(e=K.length∨K.getD e 0≠0)) ⟨K.length,hi2,.inl rfl⟩;have hle:e≤K.length:=by
     rcases Nat.lt_or_ge K.length e with z | z
     ·exact absurd ⟨hi2,.inl rfl⟩ (e3 K.length z)
     ·exact z
    have hm:MR K i e:=by
     refine ⟨e1,hle,fun j a c=>?_,?_,e2⟩
     ·by_cases y:K.getD j 0=0
      ·exact y
      ·by_cases q:j=i
       ·rw [q];exact hz
       ·exact absurd ⟨by omega,.inr y⟩ (e3 j c)
     ·rcases h3 with q | q | q | q
      ·exact .inl q
      ·exact .inr q
      ·omega
      ·exact absurd hz q
    obtain ⟨g1,_⟩:=h2.run hm;have wb:R ((e:Int) - 1):=rO (by omega);have we:R (e:Int):=rO (by omega);have eq1:(e:Int) - 1+1=e:=by omega
    simp -dsimp [hi2,hz',intRow,↓ awpC_of xc79b];refine awpC_in ?_;refine x79b t K b i e L (by omega) h2 hm ?_;intro F' q;dsimp only;rw [awp_ghost,q];dsimp only;simp -dsimp [eq1,wr we];refine ⟨e,?_,setR L i e (nvV K b i e),⟨by omega,g1,?_⟩,rfl,rfl⟩
    ·omega
    ·rcases e2 with q2 | q2
     ·exact .inr (.inr (.inl q2))
     ·exact .inr (.inr (.inr q2))
   ·have hz':¬K[i]=0:=by rw [getD_at hi2];exact hz
    have hn:=rfL_next K i L hi2 hz;have g1:=h2.skip (p':=i+1) (by omega) (fun j a c d=>by rw [show j=i by omega];exact hz);simp -dsimp [hi2,hz',intRow,wr wi];refine ⟨i+1,by omega,L,⟨by omega,g1,.inr (.inl (by rw [Nat.add_sub_cancel];exact hz))⟩,by push_cast;rfl,by rw [hn]⟩
  ·have:i=K.length:=by omega
   subst this;have rest:=hend L (by rw [h2.len,hKl]);rw [←hdir L h2] at rest;rw [rfL_end K L h2.len];simp -dsimp [↓ awpC_of xc79c];rw [hKl];exact awpC_in rest
theorem b35 (t:List UInt8) (hl:t.length≤1000000):Bt 35 [.str (ba t)] (.p (.sl 1 ((levT t).map intRow))):=by
 refine best mixed fn35 ok35 (by simp) ?_;have q78:=b78 t hl;have q79:=b79 t hl;have q80:=b80 t hl;have hK:=kinT_len t;have hD:=dirT_len t (kinT t);unfold levT;obtain ⟨K,eK⟩:=gn (kinT t);obtain ⟨D,eD⟩:=gn (dirT t (kinT t));obtain ⟨b,eb⟩:=gn (baseN t);rw [eD] at q79 hD ⊢;rw [eK] at q78 hK hD ⊢;rw [eb] at q80 ⊢;simp -dsimp [ac35];refine cP q78 ?_;simp -dsimp;refine cP q79 ?_;simp -dsimp;refine cP q80 ?_;simp -dsimp;refine loopC K.length (fun i=>⟨[(3,.p (.sl 1 (K.map intRow))),(4,.p (.sl 1 (D.map intRow))),(5,.p (.int .i64 b)),(6,.ref (59,i) 1 0 i),(7,.p (.int .i64 i))],[((59,i),.sl 3 1 (((List.range i).map fun j=>levV b (K.getD j 0) (D.getD j 0)).map intRow))]⟩) (fun _=>True) (fun i hi _=>?_) trivial (by simp)
 by_cases h:i<K.length
 ·have wi:R ((i:Int)+1):=rO (by omega);have hiD:i<D.length:=by omega
  obtain ⟨x,ex⟩:=gn K[i];obtain ⟨y,ey⟩:=gn D[i];have exd:K.getD i 0=x:=by rw [←getD_at h];exact ex
  have eyd:D.getD i 0=y:=by rw [←getD_at hiD];exact ey
  have hs:(List.range (i+1)).map (fun j=>levV b (K.getD j 0) (D.getD j 0))=(List.range i).map (fun j=>levV b (K.getD j 0) (D.getD j 0))++[levV b x y]:=by
   rw [List.range_succ,List.map_append,List.map_singleton,exd,eyd]
  rw [hs];have hYl:((List.range i).map (fun j=>levV b (K.getD j 0) (D.getD j 0))).length=i:=by simp
  obtain ⟨Y,eY⟩:=gn ((List.range i).map (fun j=>levV b (K.getD j 0) (D.getD j 0)));rw [eY] at hYl ⊢;have m1:i+1≤maxLen:=by unfold maxLen;omega
  have m2:(i+1)*8≤140737488355328:=by omega
  have hall:((Y.map intRow).all fun r=>r.all PV.one)=true:=oneI _;unfold levV
  by_cases c1:y=2
  ·by_cases c2:x=3
   ·rw [if_pos (.inl ⟨c1,c2⟩)];simp -dsimp [h,hiD,ex,ey,c1,c2,intRow,wr wi,m1,m2,hYl,hall,List.range,List.range.loop,-List.all_eq_true]
   ·rw [if_neg (by omega),if_pos c1];simp -dsimp [h,hiD,ex,ey,c1,c2,intRow,wr wi,m1,m2,hYl,hall,List.range,List.range.loop,-List.all_eq_true]
  ·by_cases c3:y=1
   ·by_cases c4:b=2
    ·rw [if_pos (.inr ⟨c3,c4⟩)];simp -dsimp [h,hiD,ex,ey,c3,c4,intRow,wr wi,m1,m2,hYl,hall,List.range,List.range.loop,-List.all_eq_true]
    ·rw [if_neg (by omega),if_neg c1];simp -dsimp [h,hiD,ex,ey,c3,c4,intRow,wr wi,m1,m2,hYl,hall,List.range,List.range.loop,-List.all_eq_true]
   ·rw [if_neg (by omega),if_neg c1];simp -dsimp [h,hiD,ex,ey,c1,c3,intRow,wr wi,m1,m2,hYl,hall,List.range,List.range.loop,-List.all_eq_true]
 ·have:i=K.length:=by omega
  subst this;have hlev:levK b K D t.length=(List.range K.length).map fun j=>levV b (K.getD j 0) (D.getD j 0):=by
   unfold levK;rw [hD];refine List.map_congr_left fun j hj=>?_
   have hj:j<K.length:=by simpa using hj
   rw [if_pos (by omega)]
  rw [hlev];have ht:List.take K.length (((List.range K.length).map fun j=>levV b (K.getD j 0) (D.getD j 0)).map intRow)=((List.range K.length).map fun j=>levV b (K.getD j 0) (D.getD j 0)).map intRow:=List.take_of_length_le (by simp);simp -dsimp [h,ht,-List.map_map];exact List.take_of_length_le (by simp)
end
section
attribute [local simp ↓] oneI oneSp
theorem x134c {Kc:AE→Fr→Prop} (lv:List Int) (n:Nat) (hn:n≤1000000) (v:Int) (M:List Int) (hM:M.length=n) (i e:Nat) (hie:i≤e) (he:e≤n)
  (hK:∀ F',(Ghost.keep [0,3,5,6]).app F'=some ⟨[(0,.p (.sl 1 (lv.map intRow))),(3,.ref (19,n) 1 0 n),(5,.p (.int .i64 v)),(6,.p (.int .i64 (if i<e then (e:Int) - 1 else i)))],[((19,n),.sl 3 1 ((revT M i (e - i)).map intRow))]⟩→Kc .normal F') :
  awp Tryz.prog xc134c Kc ⟨[(0,.p (.sl 1 (lv.map intRow))),(3,.ref (19,n) 1 0 n),(5,.p (.int .i64 v)),(6,.p (.int .i64 i)),(7,.p (.int .i64 e))],[((19,n),.sl 3 1 (M.map intRow))]⟩:=by
 have w0:R ((e:Int) - 1):=rO (by omega);obtain ⟨d,ed⟩:=gn (e - i);rw [ed] at hK;simp -dsimp [xc134c,wr w0];refine loopC (d / 2) (fun k=>⟨[(0,.p (.sl 1 (lv.map intRow))),(3,.ref (19,n) 1 0 n),(5,.p (.int .i64 v)),(6,.p (.int .i64 i)),(7,.p (.int .i64 e)),(8,.p (.int .i64 ((i+k:Nat):Int))),(9,.p (.int .i64 ((e:Int) - 1 - k)))],[((19,n),.sl 3 1 ((rv M i d k).map intRow))]⟩) (fun _=>True) (fun k hk _=>?_) trivial (by simp [rv]);have hMl:=rv_len M i d k
 by_cases hc:((i+k:Nat):Int)<(e:Int) - 1 - k
 ·have hk2:k<d / 2:=by omega
  obtain ⟨j,ej⟩:∃ j:Nat,(e:Int) - 1 - k=j:=⟨e - 1 - k,by omega⟩;obtain ⟨a,ea⟩:=gn (i+k);have ejn:i+(d - 1 - k)=j:=by omega
  have wa:R ((a:Int)+1):=rO (by omega);have wj:R ((j:Int) - 1):=rO (by omega);have e2:(e:Int) - 1 - ((k+1:Nat):Int)=(j:Int) - 1:=by omega
  have e3:i+(k+1)=a+1:=by omega
  have hs:rv M i d (k+1)=((rv M i d k).set a ((rv M i d k).getD j 0)).set j ((rv M i d k).getD a 0):=by rw [rv,ejn,ea]
  obtain ⟨L,eL⟩:=gn (rv M i d k);rw [eL] at hs hMl;rw [ej,ea] at hc;rw [ej,ea,e2,e3,eL];have h1:a<L.length:=by omega
  have h2:j<L.length:=by omega
  have h1n:a<n:=by omega
  have h2n:j<n:=by omega
  obtain ⟨x,ex⟩:=gn L[a];obtain ⟨y,ey⟩:=gn L[j];have exd:L.getD a 0=x:=by rw [←getD_at h1];exact ex
  have eyd:L.getD j 0=y:=by rw [←getD_at h2];exact ey
  rw [exd,eyd] at hs;have hml:=map_set_row L a y
  have hml2:=map_set_row (L.set a y) j x;rw [←hs] at hml2;rw [←hml2,←hml];have htl:∀ z:Int,(intRow z).tail=[]:=fun _=>rfl
  have htl2:∀ (hh:j<((L.map intRow).set a [PV.int .i64 y]).length),(((L.map intRow).set a [PV.int .i64 y])[j]'hh).tail=[]:=fun hh=>by
   rw [List.getElem_set];split
   ·rfl
   ·rw [List.getElem_map];rfl
  have hc2:a<j:=by omega
  simp -dsimp [htl2,hc2,h1,h2,h1n,h2n,ex,ey,hMl,hM,htl,intRow,wr wa,wr wj,hk2,-List.all_eq_true,-List.map_set]
 ·have hk3:k=d / 2:=by omega
  have hr:revT M i d=rv M i d k:=by rw [hk3];rfl
  rw [hr] at hK;obtain ⟨L,eL⟩:=gn (rv M i d k)
  rw [eL] at hK hMl ⊢;have hc':¬(i:Int)+k<(e:Int) - 1 - k:=by push_cast at hc;exact hc
  by_cases c2:i<e
  ·rw [if_pos c2] at hK;simp -dsimp [hc',c2,wr w0];refine hK _ ?_;simp
  ·rw [if_neg c2] at hK;simp -dsimp [hc',c2];refine hK _ ?_;simp
theorem x134b {Kc:AE→Fr→Prop} (lv:List Int) (n:Nat) (hnl:lv.length=n) (hn:n≤1000000) (v:Int) (M:List Int) (hM:M.length=n) (hMm:∀ x∈M,∃ z:Nat,x=z∧z<n) (i e:Nat) (hin:i<n) (hie:i≤e) (he:e≤n)
  (hq:∀ j,i≤j→j<e→vsQ lv v (M.getD j 0)=true) (hqe:e=n∨vsQ lv v (M.getD e 0)=false)
  (hK:∀ F',(Ghost.keep [0,3,5,6]).app F'=some ⟨[(0,.p (.sl 1 (lv.map intRow))),(3,.ref (19,n) 1 0 n),(5,.p (.int .i64 v)),(6,.p (.int .i64 (if i<e then e else i+1:Nat)))],[((19,n),.sl 3 1 ((revT M i (e - i)).map intRow))]⟩→Kc .normal F') :
  awp Tryz.prog xc134b Kc ⟨[(0,.p (.sl 1 (lv.map intRow))),(3,.ref (19,n) 1 0 n),(5,.p (.int .i64 v)),(6,.p (.int .i64 i))],[((19,n),.sl 3 1 (M.map intRow))]⟩:=by
 have hx:=fun K h=>@x134c K lv n hn v M hM i e hie he h
 simp -dsimp [xc134b,↓ awpC_of xc134c];refine loopC (e - i) (fun m=>⟨[(0,.p (.sl 1 (lv.map intRow))),(3,.ref (19,n) 1 0 n),(5,.p (.int .i64 v)),(6,.p (.int .i64 i)),(7,.p (.int .i64 ((i+m:Nat):Int)))],[((19,n),.sl 3 1 (M.map intRow))]⟩) (fun _=>True) (fun m hm _=>?_) trivial (by simp);obtain ⟨j,ej⟩:=gn (i+m);have ej2:i+(m+1)=j+1:=by omega
 rw [ej,ej2]
 by_cases hj:j<e
 ·have hjM:j<M.length:=by omega
  have hjn:j<n:=by omega
  have h1:=hq j (by omega) hj;obtain ⟨z,ez,hz⟩:=hMm M[j] (by simp);rw [←getD_at hjM,ez] at h1;simp only [vsQ,Int.toNat_natCast,decide_eq_true_eq] at h1;have hzl:z<lv.length:=by omega
  rw [←getD_at hzl] at h1;have wj:R ((j:Int)+1):=rO (by omega)
  simp -dsimp [hjn,hjM,ez,hzl,h1,intRow,wr wj,↓ awpC_of xc134c];omega
 ·have hjb:j=e:=by omega
  subst hjb;have fin:awp Tryz.prog xc134c (fun e F'=>match e with | .normal=>(match (Ghost.keep [0,3,5,6]).app F' with | some F'=>awp Tryz.prog (.reg [⟨some 28,.mov (.v 6),none,[]⟩,⟨some 29,.bin .add (.v 28) (.c (.int .i64 1)),none,[0]⟩,⟨some 6,.mov (.v 29),none,[1,0,1]⟩]) Kc F' | none=>False) | e=>False) ⟨[(0,.p (.sl 1 (lv.map intRow))),(3,.ref (19,n) 1 0 n),(5,.p (.int .i64 v)),(6,.p (.int .i64 i)),(7,.p (.int .i64 j))],[((19,n),.sl 3 1 (M.map intRow))]⟩:=by
   refine hx _ fun F' q=>?_
   dsimp only;rw [q];dsimp only
   by_cases c:i<j
   ·rw [if_pos c] at hK ⊢;have e1:(j:Int) - 1+1=j:=by omega
    have w1:R (j:Int):=rO (by omega);simp -dsimp [e1,wr w1];refine hK _ ?_;simp
   ·rw [if_neg c] at hK ⊢;have w1:R ((i:Int)+1):=rO (by omega)
    simp -dsimp [wr w1];refine hK _ ?_;simp
  rcases hqe with q | q
  ·have hjn:¬j<n:=by omega
   simp -dsimp [hjn,↓ awpC_of xc134c];refine awpC_in (awp_mono (fun e F' h=>?_) fin);cases e with
   | normal=>exact h
   | exit i=>exact h.elim
   | ret=>exact h.elim
  ·by_cases hjn:j<n
   ·have hjM:j<M.length:=by omega
    obtain ⟨z,ez,hz⟩:=hMm M[j] (by simp);rw [←getD_at hjM,ez] at q;simp only [vsQ,Int.toNat_natCast,decide_eq_false_iff_not] at q;have hzl:z<lv.length:=by omega
    rw [←getD_at hzl] at q;simp -dsimp [hjn,hjM,ez,hzl,q,intRow,↓ awpC_of xc134c];refine awpC_in (awp_mono (fun e F' h=>?_) fin);cases e with
    | normal=>exact h
    | exit i=>exact h.elim
    | ret=>exact h.elim
   ·simp -dsimp [hjn,↓ awpC_of xc134c];refine awpC_in (awp_mono (fun e F' h=>?_) fin);cases e with
    | normal=>exact h
    | exit i=>exact h.elim
    | ret=>exact h.elim
theorem rv_out (L:List Int) (s n j:Nat) (h:j<s∨s+n≤j):∀ k,2*k≤n→(rv L s n k).getD j 0=L.getD j 0
 | 0,_=>rfl
 | k+1,hk=>by
  have ih:=rv_out L s n j h k (by omega);rw [rv,List.getD_eq_getElem?_getD,List.getElem?_set,if_neg (by omega),List.getElem?_set,if_neg (by omega),←List.getD_eq_getElem?_getD];exact ih
theorem revT_out (L:List Int) (s n j:Nat) (h:j<s∨s+n≤j):(revT L s n).getD j 0=L.getD j 0:=rv_out L s n j h _ (by omega)
theorem pcs_at {q:Int→Bool} {O:List Int} {k:Nat} (h:pst q O k 0<O.length):k<(pcs q O).length∧(pcs q O).getD k (0,0,false)=(pst q O k 0,pst q O (k+1) 0,q (O.getD (pst q O k 0) 0)):=by
 have hg:=pcsF_get q O O.length 0 (by omega) (by omega) k;have hgk:=hg.1 h;refine ⟨hg.2.2 h,?_⟩;unfold pcs;rw [List.getD_eq_getElem?_getD,hgk];rfl
theorem vsP_bhd {q:Int→Bool} {O:List Int}:∀ k j,k≤(pcs q O).length→pst q O k 0≤j→(vsP (pcs q O) O k).getD j 0=O.getD j 0
 | 0,_,_,_=>rfl
 | k+1,j,hk,hj=>by
  have hg:=pcsF_get q O O.length 0 (by omega) (by omega) k;have hlt:=hg.2.1 (by unfold pcs at hk;omega);have e:=(pcs_at hlt).2;have hnx:=(pnx_le q O (i:=pst q O k 0)).2 hlt;rw [←pst_succ] at hnx;rw [vsP,e];dsimp only;split
  ·rw [revT_out _ _ _ _ (by omega)];exact vsP_bhd k j (by omega) (by omega)
  ·exact vsP_bhd k j (by omega) (by omega)
theorem ordI_succ (n:Nat):ordI (n+1)=ordI n++[(n:Int)]:=by simp [ordI,List.range_succ]
theorem b134 (lv:List Int) (hl:lv.length≤1000000):Bt 134 [.sl 1 (lv.map intRow)] (.p (.sl 1 ((vsN lv).map intRow))):=by
 refine best mixed fn134 ok134 (by simp) ?_;obtain ⟨n,en⟩:=gn lv.length;simp -dsimp [ac134,↓ awpC_of xc134b];refine loopC n (fun i=>⟨[(0,.p (.sl 1 (lv.map intRow))),(3,.ref (19,i) 1 0 i),(4,.p (.int .i64 i))],[((19,i),.sl 3 1 ((ordI i).map intRow))]⟩) (fun _=>True) (fun i hi _=>?_) trivial (by simp [ordI])
 by_cases h:i<n
 ·have wi:R ((i:Int)+1):=rO (by omega);have m1:i+1≤maxLen:=by unfold maxLen;omega
  have m2:(i+1)*8≤140737488355328:=by omega
  have hol:(ordI i).length=i:=by simp [ordI]
  rw [ordI_succ];obtain ⟨O,eO⟩:=gn (ordI i);rw [eO] at hol ⊢;have hall:((O.map intRow).all fun r=>r.all PV.one)=true:=oneI _
  simp -dsimp [h,en,intRow,wr wi,m1,m2,hol,hall,List.range,List.range.loop,-List.all_eq_true]
 ·have:i=n:=by omega
  subst this;simp -dsimp [h,en,↓ awpC_of xc134b];refine loopC 9 (fun j=>⟨[(0,.p (.sl 1 (lv.map intRow))),(3,.ref (19,i) 1 0 i),(5,.p (.int .i64 (9 - j)))],[((19,i),.sl 3 1 ((vsL lv j).map intRow))]⟩) (fun _=>True) (fun j hj _=>?_) trivial (by simp [vsL,en]);have hVl:=vsL_len lv j;have hVm:=fun x h=>@vsL_mem lv j x h
  rw [en] at hVl hVm
  by_cases h9:j<9
  ·have hs:vsL lv (j+1)=vsP (pcs (vsQ lv (9 - j)) (vsL lv j)) (vsL lv j) (pcs (vsQ lv (9 - j)) (vsL lv j)).length:=rfl;obtain ⟨O,eO⟩:=gn (vsL lv j);rw [eO] at hs hVl hVm ⊢;obtain ⟨v,ev⟩:∃ v:Int,9 - (j:Int)=v:=⟨_,rfl⟩
   rw [ev] at hs ⊢;have ev2:9 - ((j+1:Nat):Int)=v - 1:=by omega
   have c1:(1:Int)≤v:=by omega
   have wv:R (v - 1):=rO (by omega);rw [ev2,hs];simp -dsimp [c1,↓ awpC_of xc134b];refine loopM (fun x:Nat×Nat=>i - x.1) (fun x=>⟨[(0,.p (.sl 1 (lv.map intRow))),(3,.ref (19,i) 1 0 i),(5,.p (.int .i64 v)),(6,.p (.int .i64 x.1))],[((19,i),.sl 3 1 ((vsP (pcs (vsQ lv v) O) O x.2).map intRow))]⟩)
    (fun x=>x.2≤(pcs (vsQ lv v) O).length∧x.1≤i∧pst (vsQ lv v) O x.2 0≤x.1∧(x.1=pst (vsQ lv v) O x.2 0∨(x.1<pst (vsQ lv v) O (x.2+1) 0∧vsQ lv v (O.getD (pst (vsQ lv v) O x.2 0) 0)=false))) (0,0) (fun x hx=>?_) ⟨by omega,by omega,by simp [pst],.inl rfl⟩ (by simp [vsP])
   obtain ⟨a,k⟩:=x;obtain ⟨k1,k2,k3,k4⟩:=hx;dsimp only at k1 k2 k3 k4
   by_cases ha:a<i
   ·have hsl:pst (vsQ lv v) O k 0<O.length:=by omega
    obtain ⟨k5,k6⟩:=pcs_at hsl;have hnx:=(pnx_le (vsQ lv v) O (i:=pst (vsQ lv v) O k 0));have hin:=fun jj=>@runE_in (vsQ lv v) O (vsQ lv v (O.getD (pst (vsQ lv v) O k 0) 0)) (pst (vsQ lv v) O k 0+1) jj
    have hout:=@runE_out (vsQ lv v) O (vsQ lv v (O.getD (pst (vsQ lv v) O k 0) 0)) (pst (vsQ lv v) O k 0+1);have epn:runE (vsQ lv v) O (vsQ lv v (O.getD (pst (vsQ lv v) O k 0) 0)) (pst (vsQ lv v) O k 0+1)=pst (vsQ lv v) O (k+1) 0:=by
     rw [pst_succ];simp only [pnx,hsl,if_true]
    rw [epn] at hout;simp only [epn] at hin;rw [←pst_succ] at hnx;have hMb:=fun jj h=>@vsP_bhd (vsQ lv v) O k jj k1 h
    have hMp:=@vsP_perm (vsQ lv v) O k k1;have hMl:=hMp.length_eq;have hMm:∀ x∈vsP (pcs (vsQ lv v) O) O k,∃ z:Nat,x=z∧z<i:=fun x h=>hVm x (hMp.mem_iff.1 h)
    have hvk:vsP (pcs (vsQ lv v) O) O (k+1)=if vsQ lv v (O.getD (pst (vsQ lv v) O k 0) 0)=true then revT (vsP (pcs (vsQ lv v) O) O k) (pst (vsQ lv v) O k 0) (pst (vsQ lv v) O (k+1) 0 - pst (vsQ lv v) O k 0) else vsP (pcs (vsQ lv v) O) O k:=by
     rw [vsP,k6]
    obtain ⟨s,es⟩:=gn (pst (vsQ lv v) O k 0);obtain ⟨e,ee⟩:=gn (pst (vsQ lv v) O (k+1) 0);simp only [es,ee] at k3 k4 hsl hnx hin hout hMb hvk;obtain ⟨M,eM⟩:=gn (vsP (pcs (vsQ lv v) O) O k)
    simp only [eM] at hMb hMp hMl hMm hvk ⊢;have hse:=hnx.2 hsl
    have hel:=hnx.1;have hin2:∀ jj,s≤jj→jj<e→vsQ lv v (M.getD jj 0)=vsQ lv v (O.getD s 0):=by
     intro jj h1 h2;rw [hMb jj h1]
     by_cases q:jj=s
     ·rw [q]
     ·exact hin jj (by omega) h2 (by omega)
    have hae:a<e:=by
     rcases k4 with q | q
     ·omega
     ·exact q.1
    simp -dsimp [ha,en,hVl,↓ awpC_of xc134b];refine awpC_in ?_;cases hk:vsQ lv v (O.getD s 0) with
    | true=>
     have has:a=s:=by
      rcases k4 with q | q
      ·exact q
      ·rw [hk] at q;exact absurd q.2 (by simp)
     rw [hk] at hin2 hout;rw [hk,if_pos rfl] at hvk;refine x134b lv i en (by omega) v M (by omega) hMm a e ha (by omega) (by omega) (fun jj h1 h2=>hin2 jj (by omega) h2) ?_ ?_
     ·rcases Nat.lt_or_ge e O.length with q | q
      ·right;rw [hMb e (by omega)];simpa using hout q
      ·left;omega
     ·intro F' q;rw [if_pos hae] at q;refine ⟨(e,k+1),by dsimp only;omega,⟨by dsimp only;omega,by dsimp only;omega,by dsimp only;omega,.inl ee.symm⟩,?_⟩;dsimp only;rw [q,hvk,has]
    | false=>
     rw [hk] at hin2 hout;rw [hk,if_neg (by simp)] at hvk;refine x134b lv i en (by omega) v M (by omega) hMm a a ha (Nat.le_refl _) (by omega) (fun jj h1 h2=>by omega) (.inr (hin2 a (by omega) hae)) ?_;intro F' q;rw [if_neg (by omega),Nat.sub_self] at q;have er:revT M a 0=M:=rfl
     rw [er] at q
     by_cases q2:a+1=e
     ·refine ⟨(a+1,k+1),by dsimp only;omega,⟨by dsimp only;omega,by dsimp only;omega,by dsimp only;omega,.inl (by dsimp only;omega)⟩,?_⟩;dsimp only;rw [q,hvk]
     ·refine ⟨(a+1,k),by dsimp only;omega,⟨k1,by dsimp only;omega,by dsimp only;omega,.inr ⟨by dsimp only;omega,by dsimp only;rw [es];exact hk⟩⟩,?_⟩;dsimp only;rw [q,eM]
   ·have hai:a=i:=by omega
    subst hai;have hkl:k=(pcs (vsQ lv v) O).length:=by
     rcases Nat.lt_or_ge k (pcs (vsQ lv v) O).length with q | q
     ·have hg:=pcsF_get (vsQ lv v) O O.length 0 (by omega) (by omega) k;have hlt:=hg.2.1 (by unfold pcs at q;omega);have hnx:=(pnx_le (vsQ lv v) O (i:=pst (vsQ lv v) O k 0)).1;rw [←pst_succ] at hnx;rcases k4 with q3 | q3
      ·omega
      ·omega
     ·omega
    subst hkl;simp -dsimp [ha,wr wv];exact h9
  ·have:j=9:=by omega
   subst this;have ht:List.take i ((vsL lv 9).map intRow)=(vsL lv 9).map intRow:=List.take_of_length_le (by simp;omega);simp -dsimp [vsN,ht];omega
end
end Go.Abs.A30
