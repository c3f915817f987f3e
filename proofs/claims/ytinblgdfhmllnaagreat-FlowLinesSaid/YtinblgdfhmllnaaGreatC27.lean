/- A part of the proof: an abstract reading of the model, contracts of functions. -/
import Derived.Test.YtinblgdfhmllnaaGreatC26
import Derived.OpenShut
import Derived.Deep.Slices
import Derived.WideShapes
import Derived.Carry
import Derived.DataElems
import Derived.Test.YtinblgdfhmllnaaGreatRows
import Derived.ChangeSame
import Derived.ChangeVars
import Derived.JoinedOf
import Derived.RowKit
import Derived.RowKitTokens
import Derived.Stop.Joined
import Derived.ProofKit
import Derived.SizedLaws
import Derived.WitnessAt
set_option linter.unusedVariables false
set_option linter.unusedSimpArgs false
namespace Go.Abs
open Go
set_option linter.unusedSimpArgs false
set_option linter.unusedVariables false
def Rd {α:Type} (P:Program) (w:World) (t:TypeId) (f:α→List PV) (ok:α→Prop):Prop:=
 ∀ (H:Type) (en:TypeId×Value→H) (base:Nat) (sp:Nat→Bool) (hd:Bool) (fuel:Nat) (cs:List Value) (x:DataW H×List MemPlace),DataW.trod en P w base sp hd fuel t cs=some x→∃ a,ok a∧Ps (full w) (f a) cs
variable {P:Program} {w:World} {t:TypeId}
theorem Ps.one {S:Snap} {p:PV} {v:Value} (h:PRel S p v):Ps S [p] [v]:=by
 refine ⟨rfl,fun j q u e1 e2=>?_⟩
 match j with
 | 0=>simp at e1 e2;subst e1 e2;exact h
 | j+1=>simp at e1
theorem Ps.nil {S:Snap}:Ps S [] []:=⟨rfl,fun j q u e1 e2=>by simp at e1⟩
theorem Ps.append {S:Snap} {ps qs:List PV} {vs us:List Value} (h:Ps S ps vs) (k:Ps S qs us):Ps S (ps++qs) (vs++us):=by
 refine ⟨by simp [h.1,k.1],fun j q u e1 e2=>?_⟩
 by_cases hj:j<ps.length
 ·rw [List.getElem?_append_left hj] at e1
  rw [List.getElem?_append_left (by rw [h.1];exact hj)] at e2
  exact h.2 j q u e1 e2
 ·rw [List.getElem?_append_right (by omega)] at e1
  rw [List.getElem?_append_right (by rw [h.1];omega),h.1] at e2
  exact k.2 _ q u e1 e2
theorem Rd.int {k:IntKind} (ht:P.underlying t=some (.int k)):Rd P w t (fun n:Int=>[.int k n]) fun n=>(Lit.int k n).wf=true:=by
 intro H en base sp hd fuel cs x h
 cases fuel with
 | zero=>simp [DataW.trod] at h
 | succ m=>
  unfold DataW.trod at h
  rw [ht] at h
  split at h<;>simp_all
  obtain ⟨⟨rfl,hw⟩,_⟩:=h
  exact ⟨_,hw,Ps.one (.int _ _)⟩
theorem Rd.str (ht:P.underlying t=some .string):Rd P w t (fun s:ByteArray=>[.str s]) fun s=>s.size≤maxLen:=by
 intro H en base sp hd fuel cs x h
 cases fuel with
 | zero=>simp [DataW.trod] at h
 | succ m=>
  unfold DataW.trod at h
  rw [ht] at h
  split at h<;>simp_all
  exact ⟨_,h.1,Ps.one (.str _)⟩
theorem cells_get {base:Nat} {a:Addr} {n:Nat} {cs:List Value} (h:w.cells? base a n=some cs):cs.length=n∧∀ j v,cs[j]?=some v→w.cell? (a.add j)=some v:=by
 unfold World.cells? at h
 split at h
 ·obtain ⟨h1,h2⟩:=mapM_some h
  refine ⟨by simpa using h1,fun j v e=>?_⟩
  obtain ⟨i,e1,e2⟩:=h2 j v e
  have hj:j<n:=by have:=(List.getElem?_eq_some_iff.1 e).1;rw [h1] at this;simpa using this
  rw [List.getElem?_range hj] at e1
  simp at e1;subst e1;exact e2
 ·simp at h
theorem Rd.slice {α:Type} {e:TypeId} {sz:Nat} {f:α→List PV} {ok:α→Prop} (ht:P.underlying t=some (.slice e)) (hc:P.cellsOf e=sz) (hr:Rd P w e f ok) (hf:∀ a,(f a).length=sz) :
  Rd P w t (fun l:List α=>[.sl sz (l.map f)]) fun l=>(∀ a∈l,ok a)∧l.length≤maxLen:=by
 intro H en base sp hd fuel cs x h
 rcases Deep.open_slice ht h with ⟨rfl,_⟩ | ⟨a,len,cap,m,n,D,Pl,rfl,hb,hl,hm,hmm,_,hel⟩
 ·exact ⟨[],⟨by simp,by simp⟩,Ps.one (.sl sz [] none 0 (fun _ _=>undef) (Nat.le_refl _) (by simp) (by simp) (by simp))⟩
 ·have hlm:len≤m:=by rw [hmm];split<;>omega
  have key:∀ k,k≤len→∃ l:List α,l.length=k∧∀ i b,l[i]?=some b→ok b∧∃ cs',w.cells? base (a.add (i*sz)) sz=some cs'∧Ps (full w) (f b) cs':=by
   intro k
   induction k with
   | zero=>intro _;exact ⟨[],rfl,fun i b e=>by simp at e⟩
   | succ k ih=>
    intro hk
    obtain ⟨l,h1,h2⟩:=ih (by omega)
    obtain ⟨cs',g1,g2⟩:=hel k (by omega)
    obtain ⟨b,hb1,hb2⟩:=hr _ _ _ _ _ _ _ _ g2
    rw [hc] at g1
    refine ⟨l++[b],by simp [h1],fun i c e=>?_⟩
    by_cases hi:i<l.length
    ·rw [List.getElem?_append_left hi] at e;exact h2 i c e
    ·have:i=l.length:=by have:=(List.getElem?_eq_some_iff.1 e).1;simp at this;omega
     subst this
     simp at e;subst e
     rw [h1];exact ⟨hb1,cs',g1,hb2⟩
  obtain ⟨l,hl1,hl2⟩:=key len (Nat.le_refl _)
  refine ⟨l,⟨fun b hb=>?_,by omega⟩,Ps.one ?_⟩
  ·obtain ⟨i,hi⟩:=List.getElem?_of_mem hb;exact (hl2 i b hi).1
  ·have cell:∀ (i:Nat) (row:List PV) (j:Nat) (p:PV),(l.map f)[i]?=some row→row[j]?=some p→∃ v,w.cell? (a.add (i*sz+j))=some v∧PRel (full w) p v:=by
    intro i row j p e1 e2
    rw [List.getElem?_map,Option.map_eq_some_iff] at e1
    obtain ⟨b,e1,rfl⟩:=e1
    obtain ⟨_,cs',g1,g2⟩:=hl2 i b e1
    obtain ⟨k1,k2⟩:=cells_get g1
    have hj:j<cs'.length:=by rw [k1,←hf b];exact (List.getElem?_eq_some_iff.1 e2).1
    refine ⟨cs'[j],?_,g2.2 j p _ e2 (List.getElem?_eq_getElem hj)⟩
    rw [←Addr.add_add]
    exact k2 j _ (List.getElem?_eq_getElem hj)
   have hll:(l.map f).length=len:=by simp [hl1]
   have:=PRel.sl (S:=full w) sz (l.map f) (some a) cap (fun i j=>(w.cell? (a.add (i*sz+j))).getD undef) (by omega)
    (fun i row e1=>by
     rw [List.getElem?_map,Option.map_eq_some_iff] at e1
     obtain ⟨b,_,rfl⟩:=e1
     exact hf b)
    (fun i row j p e1 e2=>by
     obtain ⟨v,h1,_⟩:=cell i row j p e1 e2
     exact ⟨a,rfl,by simp [full,h1]⟩)
    (fun i row j p e1 e2=>by
     obtain ⟨v,h1,h2⟩:=cell i row j p e1 e2
     simp only [h1,Option.getD_some];exact h2)
   rwa [hll] at this
def RdF {α:Type} (P:Program) (w:World) (fs:List Field) (f:α→List PV) (ok:α→Prop):Prop:=
 ∀ (H:Type) (en:TypeId×Value→H) (base:Nat) (sp:Nat→Bool) (hd:Bool) (n:Nat) (cs:List Value),(∀ fd∈fs,∃ y,DataW.trod en P w base sp hd n fd.type ((cs.drop fd.offset).take (P.cellsOf fd.type))=some y)→∃ a,ok a∧Ps (full w) (f a) (fs.flatMap fun fd=>(cs.drop fd.offset).take (P.cellsOf fd.type))
theorem RdF.nil:RdF P w [] (fun _:Unit=>[]) fun _=>True:=fun _ _ _ _ _ _ _ _=>⟨(),trivial,Ps.nil⟩
theorem RdF.cons {α β:Type} {fd:Field} {fs:List Field} {f:α→List PV} {g:β→List PV} {ok:α→Prop} {ok':β→Prop} (h:Rd P w fd.type f ok) (k:RdF P w fs g ok'):RdF P w (fd :: fs) (fun x:α×β=>f x.1++g x.2) fun x=>ok x.1∧ok' x.2:=by
 intro H en base sp hd n cs hx
 obtain ⟨y,hy⟩:=hx fd (by simp)
 obtain ⟨a,ha,ha2⟩:=h _ _ _ _ _ _ _ _ hy
 obtain ⟨b,hb,hb2⟩:=k H en base sp hd n cs fun fd' hm=>hx fd' (by simp [hm])
 exact ⟨(a,b),⟨ha,hb⟩,by simpa using ha2.append hb2⟩
def laidOut (P:Program):List Field→Nat→Nat→Bool
 | [],o,n=>o == n
 | fd :: fs,o,n=>fd.offset == o && laidOut P fs (o+P.cellsOf fd.type) n
theorem laidOut_cells {cs:List Value}:∀ {fs:List Field} {o:Nat},laidOut P fs o cs.length=true→(fs.flatMap fun fd=>(cs.drop fd.offset).take (P.cellsOf fd.type))=cs.drop o
 | [],o,h=>by simp [laidOut] at h;subst h;simp
 | fd :: fs,o,h=>by
  simp only [laidOut,Bool.and_eq_true,beq_iff_eq] at h
  rw [List.flatMap_cons,laidOut_cells h.2,h.1,←List.drop_drop,List.take_append_drop]
theorem Rd.struct {α:Type} {fs:List Field} {f:α→List PV} {ok:α→Prop} (ht:P.underlying t=some (.struct fs.toArray)) (ho:laidOut P fs 0 (P.cellsOf t)=true) (hr:RdF P w fs f ok):Rd P w t f ok:=by
 intro H en base sp hd fuel cs x h
 obtain ⟨xs,n,_,rfl,hl,hlen,hfl⟩:=DataW.trod_struct ht h
 obtain ⟨a,ha,ha2⟩:=hr H en base sp hd n cs (fun fd hm=>by
  obtain ⟨i,hi⟩:=List.getElem?_of_mem hm
  have:=hfl i fd (by simpa using hi)
  have hlt:i<xs.length:=by rw [hlen];simpa using (List.getElem?_eq_some_iff.1 hi).1
  rw [this,List.getElem?_eq_getElem hlt]
  exact ⟨_,rfl⟩)
 rw [←hl] at ho
 rw [laidOut_cells ho,List.drop_zero] at ha2
 exact ⟨a,ha,ha2⟩
theorem Rd.arr3 {α:Type} {e:TypeId} {sz:Nat} {f:α→List PV} {ok:α→Prop} (ht:P.underlying t=some (.array 3 e)) (hc:P.cellsOf e=sz) (hs:P.cellsOf t=3*sz) (hr:Rd P w e f ok):Rd P w t (fun x:α×α×α=>f x.1++(f x.2.1++f x.2.2)) fun x=>ok x.1∧ok x.2.1∧ok x.2.2:=by
 intro H en base sp hd fuel cs x h
 obtain ⟨xs,m,_,rfl,hl,hlen,hfl⟩:=DataW.trod_array ht h
 have get:∀ i,i<3→∃ a,ok a∧Ps (full w) (f a) ((cs.drop (i*sz)).take sz):=fun i hi=>by
  have h0:=hfl i hi
  rw [hc,List.getElem?_eq_getElem (by omega)] at h0
  exact hr _ _ _ _ _ _ _ _ h0
 obtain ⟨a,ha,ha2⟩:=get 0 (by omega)
 obtain ⟨b,hb,hb2⟩:=get 1 (by omega)
 obtain ⟨c,hcc,hc2⟩:=get 2 (by omega)
 refine ⟨(a,b,c),⟨ha,hb,hcc⟩,?_⟩
 have:=ha2.append (hb2.append hc2)
 have e:(cs.drop (0*sz)).take sz++((cs.drop (1*sz)).take sz++(cs.drop (2*sz)).take sz)=cs:=by
  apply List.ext_getElem?
  intro i
  simp only [Nat.zero_mul,List.drop_zero,Nat.one_mul]
  have l0:(cs.take sz).length=sz:=by simp;omega
  have l1:((cs.drop sz).take sz).length=sz:=by simp;omega
  by_cases h1:i<sz
  ·rw [List.getElem?_append_left (by omega),List.getElem?_take,if_pos h1]
  ·rw [List.getElem?_append_right (by omega),l0]
   by_cases h2:i - sz<sz
   ·rw [List.getElem?_append_left (by omega),List.getElem?_take,if_pos h2,List.getElem?_drop];congr 1;omega
   ·rw [List.getElem?_append_right (by omega),l1,List.getElem?_take,List.getElem?_drop]
    by_cases h3:i - sz - sz<sz
    ·rw [if_pos h3];congr 1;omega
    ·rw [if_neg h3,List.getElem?_eq_none (by omega)]
 rwa [e] at this
open Go.WideShapes in
theorem Rd.argI {α:Type} {k:IntKind} {f:α→PV} {ok:α→Prop} {H:Type} {en:TypeId×Value→H} {base b0:Nat} {sp:Nat→Bool} {hd:Bool} {r:Reach} {v:Value} {d:DataW H} {p:List MemPlace} (ht:P.underlying t=some (.int k)) (h:Rd P w t (fun a=>[f a]) ok) (ho:Value.okWide P w r b0 t v) (hv:DataW.Trod en P w base sp hd t v d p):∃ a,ok a∧PRel (full w) (f a) v:=by
 obtain ⟨n,rfl⟩:=okWide_int ht ho
 obtain ⟨m,hm⟩:=hv
 obtain ⟨x,h1,h2⟩:=h _ _ _ _ _ _ _ _ hm
 exact ⟨x,h1,h2.2 0 _ _ rfl rfl⟩
theorem agg_of {S:Snap} {ps:List PV} {cs:Array Value} (h:Ps S ps cs.toList):PRel S (.agg ps) (.agg cs):=by
 have:=PRel.agg (S:=S) ps cs.toList h.1 h.2
 simpa using this
open Go.WideShapes in
theorem Rd.argT {α:Type} {fs:Array Field} {f:α→List PV} {ok:α→Prop} {H:Type} {en:TypeId×Value→H} {base b0:Nat} {sp:Nat→Bool} {hd:Bool} {r:Reach} {v:Value} {d:DataW H} {p:List MemPlace} (ht:P.underlying t=some (.struct fs)) (h:Rd P w t f ok) (ho:Value.okWide P w r b0 t v) (hv:DataW.Trod en P w base sp hd t v d p):∃ a,ok a∧PRel (full w) (.agg (f a)) v:=by
 obtain ⟨cs,rfl,_⟩:=okWide_struct ht ho
 obtain ⟨m,hm⟩:=hv
 obtain ⟨x,h1,h2⟩:=h _ _ _ _ _ _ _ _ hm
 exact ⟨x,h1,agg_of h2⟩
theorem Ps.cons {S:Snap} {p:PV} {v:Value} {ps:List PV} {vs:List Value} (h:PRel S p v) (k:Ps S ps vs):Ps S (p :: ps) (v :: vs):=(Ps.one h).append k
end Go.Abs
namespace Go.Proofs.YtinblgdfhmllnaaGreat
open Go Go.Abs Go.ChangeShapes Go.WideShapes Go.RowKit Go.Proofs
set_option maxRecDepth 100000
set_option linter.unusedVariables false
theorem own:ownKnob Tryz.prog.godebug=none:=by kernel_rfl
theorem outB:laidOutB Tryz.prog=true:=by kernel_rfl
noncomputable def restWorld (os:Os):World:=World.holding Tryz.prog os ⟨#[],#[],[]⟩
theorem args_stay {H:Type} {enc:TypeId×Value→H} {W W':World} (hb:Below W.heap.size W W'):∀ {ts:List TypeId} {vs:List Value} {ds:List (DataW H)} {ps:List MemPlace},
  (∀ t∈ts,Tryz.prog.readableRec t=true∧t<Tryz.prog.types.size)→DataW.TrodAll enc Tryz.prog W 0 (fun _=>true) true ts vs ds ps→(∀ x∈ps,x.block<W.heap.size)→DataW.TrodAll enc Tryz.prog W' 0 (fun b=>decide (b<W.heap.size)) true ts vs ds ps
 | [],vs,ds,ps,_,h,_=>by
  obtain ⟨rfl,rfl,rfl⟩:=trodAll_nil h
  exact trodAll_mk0
 | t :: ts,vs,ds,ps,ht,h,hlt=>by
  obtain ⟨v,vs',d,ds',p,q,rfl,rfl,rfl,h1,h2⟩:=trodAll_cons h
  refine trodAll_cons_mk ?_ ?_
  ·exact Below.trod outB (ht t (by simp)).1 (ht t (by simp)).2 h1 hb fun x hx=>hlt x (by simp [hx])
  ·exact args_stay hb (fun t' h'=>ht t' (by simp [h'])) h2 fun x hx=>hlt x (by simp [hx])
theorem keep_below {W W':World} (h:Keep W W'):Below W.heap.size W W':=⟨h.os,h.tape,h.output,h.size,h.heap⟩
theorem law_step {H:Type} {enc:TypeId×Value→H} {fn:Func} {spec:ChangeSpec} {W:World} {args:Array Value} {ds gs:List (DataW H)} {before:List MemPlace} {f:FuncId} {ps:List PV}
  (hvars:spec.vars=[]) (hfn:fn.resultTypes=#[4]) (hW:DataW.Whole enc Tryz.prog fn.params.toList spec.vars false W args.toList ds gs before)
  (hspec:spec.fn H (ds++[])={ results:=[.lit (.bool true)],args:=ds })
  (hread:∀ t∈fn.params.toList,Tryz.prog.readableRec t=true∧t<Tryz.prog.types.size)
  (hb:Best Tryz.prog f ps (.p (.bool true))) (hps:Ps (full W) ps args.toList) :
  Calls Tryz.prog f args W fun e W'=>∃ v,e=.returned v∧spec.post enc Tryz.prog fn false true false false W args v W':=by
 have hc:=hb.2 (full W) W args.toList (fun a v h=>h) hps
 rw [Array.toArray_toList] at hc
 refine hc.mono ?_
 rintro e W' ⟨x,S',rfl,hk,_,_,_,hres⟩
 have hx:x=.bool true:=by
  cases hres;rfl
 subst hx
 have hW':=hW
 obtain ⟨p,q,hA,hV,rfl,_,_⟩:=hW
 rw [hvars] at hV
 obtain ⟨rfl,rfl⟩:=trodVars_none hV
 have hbel:=keep_below hk
 refine ⟨_,rfl,ds,[],_,[],p,[],hW',?_,?_,?_,hbel.frame _,fun h=>by cases h⟩
 ·rw [hspec,hfn]
  exact trodAll_mk1 (shut_bool Tryz.underlying4 true)
 ·rw [hspec]
  exact args_stay hbel hread hA fun y hy=>hW'.lt y (by simp [hy])
 ·rw [hspec,hvars];rfl
end Go.Proofs.YtinblgdfhmllnaaGreat
namespace Go.Proofs.YtinblgdfhmllnaaGreat
open Go Go.Abs Go.ChangeShapes Go.WideShapes Go.RowKit Go.Proofs Go.Abs.A29
set_option maxRecDepth 100000
set_option linter.unusedVariables false
theorem Rd.to {P:Program} {w:World} {t:TypeId} {α β:Type} {f:α→List PV} {g:β→List PV} {ok:α→Prop} {ok':β→Prop} (h:α→β) (hf:∀ a,ok a→f a=g (h a)) (hk:∀ a,ok a→ok' (h a)) (r:Rd P w t f ok):Rd P w t g ok':=by
 intro H en base sp hd fuel cs x hx
 obtain ⟨a,ha,h2⟩:=r H en base sp hd fuel cs x hx
 exact ⟨h a,hk a ha,by rw [←hf a ha];exact h2⟩
theorem wfR {n:Int} (h:(Lit.int .i64 n).wf=true):R n:=by
 simp [Lit.wf,IntKind.min,IntKind.max,IntKind.bits,IntKind.signed] at h
 exact ⟨by omega,by omega⟩
theorem wf8N {n:Int} (h:(Lit.int .u8 n).wf=true):0≤n∧n<256:=by
 simp [Lit.wf,IntKind.min,IntKind.max,IntKind.bits,IntKind.signed] at h
 omega
variable {w:World}
theorem rd_int:Rd Tryz.prog w 3 (fun n:Int=>[.int .i64 n]) fun n=>R n:=Rd.to id (fun _ _=>rfl) (fun _ h=>wfR h) (Rd.int Tryz.underlying3)
theorem rd_u8:Rd Tryz.prog w 5 (fun n:Nat=>[.int .u8 n]) fun n=>n<256:=
 Rd.to Int.toNat (fun n h=>by have:=wf8N h;rw [Int.toNat_of_nonneg this.1]) (fun n h=>by have:=wf8N h;omega) (Rd.int Tryz.underlying5)
theorem rd_ints:Rd Tryz.prog w 24 (fun l:List Int=>[.sl 1 (l.map intRow)]) fun l=>(∀ a∈l,R a)∧l.length≤maxLen:=
 Rd.slice Tryz.underlying24 (by kernel_rfl) rd_int fun _=>rfl
theorem rd_ll:Rd Tryz.prog w 22 (fun l:List (List Int)=>[.sl 1 (l.map llRow)]) fun l=>(∀ x∈l,(∀ a∈x,R a)∧x.length≤maxLen)∧l.length≤maxLen:=
 Rd.slice Tryz.underlying22 (by kernel_rfl) rd_ints fun _=>rfl
theorem rd_ll3:Rd Tryz.prog w 23 (fun x:List (List Int)×List (List Int)×List (List Int)=>[.sl 1 (x.1.map llRow),.sl 1 (x.2.1.map llRow),.sl 1 (x.2.2.map llRow)]) fun x=>((∀ y∈x.1,(∀ a∈y,R a)∧y.length≤maxLen)∧x.1.length≤maxLen)∧((∀ y∈x.2.1,(∀ a∈y,R a)∧y.length≤maxLen)∧x.2.1.length≤maxLen)∧((∀ y∈x.2.2,(∀ a∈y,R a)∧y.length≤maxLen)∧x.2.2.length≤maxLen):=
 Rd.to id (fun _ _=>rfl) (fun _ h=>h) (Rd.arr3 Tryz.underlying23 (sz:=1) (by kernel_rfl) (by kernel_rfl) rd_ll)
theorem rd_set:Rd Tryz.prog w 28 (fun x:Int×List Int×Int=>[.int .i64 x.1,.sl 1 (x.2.1.map intRow),.int .i64 x.2.2]) fun x=>R x.1∧((∀ a∈x.2.1,R a)∧x.2.1.length≤maxLen)∧R x.2.2:=by
 have h:RdF Tryz.prog w [{ name:= "Size",type:=3,offset:=0,embedded:=false,tag:= "",pkgPath:= "",byteOffset:=0 },{ name:= "At",type:=24,offset:=1,embedded:=false,tag:= "",pkgPath:= "",byteOffset:=8 },{ name:= "Features",type:=3,offset:=2,embedded:=false,tag:= "",pkgPath:= "",byteOffset:=32 }] _ _:=(RdF.cons rd_int (RdF.cons rd_ints (RdF.cons rd_int RdF.nil)))
 have k:=Rd.struct (t:=28) Tryz.underlying28 (by kernel_rfl) h
 exact Rd.to (fun x:Int×List Int×Int×Unit=>(x.1,x.2.1,x.2.2.1)) (fun _ _=>rfl) (fun _ h=>⟨h.1,h.2.1,h.2.2.1⟩) k
theorem rd_page:Rd Tryz.prog w 26 pgRow Pg.ok:=by
 have h:RdF Tryz.prog w [{ name:= "Fonts",type:=23,offset:=0,embedded:=false,tag:= "",pkgPath:= "",byteOffset:=0 },{ name:= "Many",type:=5,offset:=3,embedded:=false,tag:= "",pkgPath:= "",byteOffset:=72 },{ name:= "Text",type:=24,offset:=4,embedded:=false,tag:= "",pkgPath:= "",byteOffset:=80 },{ name:= "At",type:=24,offset:=5,embedded:=false,tag:= "",pkgPath:= "",byteOffset:=104 },{ name:= "Size",type:=3,offset:=6,embedded:=false,tag:= "",pkgPath:= "",byteOffset:=128 },{ name:= "Width",type:=3,offset:=7,embedded:=false,tag:= "",pkgPath:= "",byteOffset:=136 },{ name:= "Want",type:=3,offset:=8,embedded:=false,tag:= "",pkgPath:= "",byteOffset:=144 }] _ _:=(RdF.cons rd_ll3 (RdF.cons rd_u8 (RdF.cons rd_ints (RdF.cons rd_ints (RdF.cons rd_int (RdF.cons rd_int (RdF.cons rd_int RdF.nil)))))))
 refine Rd.to (fun (x:(List (List Int)×List (List Int)×List (List Int))×Nat×List Int×List Int×Int×Int×Int×Unit)=>(⟨x.1.1,x.1.2.1,x.1.2.2,x.2.1,x.2.2.1,x.2.2.2.1,x.2.2.2.2.1,x.2.2.2.2.2.1,x.2.2.2.2.2.2.1⟩:Pg)) (fun x hx=>rfl) (fun x hx=>?_) (Rd.struct (t:=26) Tryz.underlying26 (by kernel_rfl) h)
 obtain ⟨⟨h1,h2,h3⟩,h4,h5,h6,h7,h8,h9,_⟩:=hx
 exact ⟨fun y hy=>(h1.1 y hy).1,fun y hy=>(h2.1 y hy).1,fun y hy=>(h3.1 y hy).1,h4,h5.2,h5.1,h7,h8,h9⟩
theorem argStr {t:TypeId} {H:Type} {en:TypeId×Value→H} {base b0:Nat} {sp:Nat→Bool} {hd:Bool} {r:Reach} {v:Value} {d:DataW H} {p:List MemPlace} (ht:Tryz.prog.underlying t=some .string) (ho:Value.okWide Tryz.prog w r b0 t v) (hv:DataW.Trod en Tryz.prog w base sp hd t v d p):∃ s:ByteArray,s.size≤maxLen∧PRel (full w) (.str s) v:=by
 obtain ⟨s,rfl⟩:=okWide_string ht ho
 obtain ⟨m,hm⟩:=hv
 obtain ⟨x,h1,h2⟩:=Rd.str ht _ _ _ _ _ _ _ _ hm
 exact ⟨x,h1,h2.2 0 _ _ rfl rfl⟩
end Go.Proofs.YtinblgdfhmllnaaGreat
