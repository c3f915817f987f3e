/- A part of the proof: an abstract reading of the model, contracts of functions. -/
import Derived.Test.YtlkbeomimbohlaaGreatC1
import Derived.ChangeKeysEq
import Derived.Laws.StructEq
namespace Go.Abs
open Go
set_option linter.unusedSimpArgs false
set_option linter.unusedVariables false
section
variable {P:Program} {N:Nat} {w0:Base} {ι:Inj} {S:Snap} {F:FF} {a:Act} {w:World}
theorem St.vals (h:St N w0 ι S F a w):∀ {xs:List Operand} {os:List Opd} {vs:List AV},rOs xs=some os→F.vals os=some vs→Rs ι S vs (xs.map a.eval)
 | [],os,vs,h1,h2=>by simp [rOs] at h1;subst h1;simp [FF.vals] at h2;subst h2;exact .nil
 | x :: xs,os,vs,h1,h2=>by
  simp only [rOs] at h1
  split at h1
  ·rename_i o os' e1 e2
   simp at h1;subst h1
   simp only [FF.vals] at h2
   split at h2
   ·rename_i v vs' e3 e4
    simp at h2;subst h2
    exact .cons (h.val e1 e3) (St.vals h e2 e4)
   ·simp at h2
  ·simp at h1
theorem aggB_run {t:TypeId} {b:Bool} (h:aggB P t=some b):(isAgg t).run P w=.ok b w:=by
 unfold aggB at h
 cases hu:P.underlying t with
 | none=>simp [hu] at h
 | some d=>
  simp only [isAgg,Sem.run_bind,run_underlying hu,Result.andThen_ok]
  rw [hu] at h
  cases d<;>simp_all
theorem sizeO_run {t:TypeId} {n:Nat} (h:sizeO P t=some n):(sizeOf t).run P w=.ok n w:=by
 unfold sizeO at h
 simp only [Option.map_eq_some_iff] at h
 obtain ⟨i,h1,rfl⟩:=h
 simp [sizeOf,typeInfo,h1]
theorem zeroO_run {t:TypeId} {ps:List PV} (h:zeroO P t=some ps):∃ z,(zeroValue t).run P w=.ok z w∧Ps S ps z.cells.toList∧((P.info? t).bind (·.zero))=some z:=by
 unfold zeroO at h
 simp only [Option.bind_eq_some_iff] at h
 obtain ⟨z,h1,h2⟩:=h
 obtain ⟨i,h3,h4⟩:=h1
 refine ⟨z,?_,?_,by simp [h3,h4]⟩
 ·simp [zeroValue,typeInfo,h3,h4]
 ·exact ofVals_rel h2
theorem St.read_run (h:St N w0 ι S F a w) {x:AV} {v:Value} {n:Nat} {cs:List AV} (hx:AVRel ι S x v) (e:F.read x n=some cs) :
  ∃ (p:Addr) (us:List Value),v=.pointer (some p)∧Rs ι S cs us∧(loadCells p n).run P w=.ok us.toArray w∧∀ u,us[0]?=some u→(load p).run P w=.ok u w:=by
 obtain ⟨p,rfl,hlen,hc⟩:=h.read hx e
 have hc':∀ j,∃ u,j<n→w.cell? (p.add j)=some u∧∀ c,cs[j]?=some c→AVRel ι S c u:=by
  intro j
  by_cases hj:j<n
  ·obtain ⟨c,hcj⟩:∃ c,cs[j]?=some c:=⟨cs[j]'(by omega),by simp⟩
   obtain ⟨u,h1,h2⟩:=hc j c hcj
   exact ⟨u,fun _=>⟨h1,fun c' hc'=>by rw [hcj] at hc';simp at hc';subst hc';exact h2⟩⟩
  ·exact ⟨undef,fun h=>absurd h hj⟩
 let f:Nat→Value:=fun j=>(hc' j).choose
 have hf:∀ j,j<n→w.cell? (p.add j)=some (f j)∧∀ c,cs[j]?=some c→AVRel ι S c (f j):=fun j hj=>(hc' j).choose_spec hj
 refine ⟨p,(List.range n).map f,rfl,⟨by simp [hlen],fun j c v e1 e2=>?_⟩,run_loadCells w p n f (fun j hj=>(hf j hj).1),fun u hu=>?_⟩
 ·have hj:j<n:=by have:=(List.getElem?_eq_some_iff.1 e1).1;omega
  simp [hj] at e2
  subst e2
  exact (hf j hj).2 c e1
 ·have hn:0<n:=by
   rcases Nat.eq_zero_or_pos n with h0 | h0
   ·subst h0;simp at hu
   ·exact h0
  simp [hn] at hu
  subst hu
  have:=(hf 0 hn).1
  simp only [Addr.add,if_true] at this
  simp [run_load,this]
theorem headO_rel {agg:Bool} {cs:List AV} {us:List Value} {v:AV} (h:Rs ι S cs us) (e:headO agg cs=some v) :
  ∃ x,(if agg then x=.agg us.toArray else us[0]?=some x)∧AVRel ι S v x:=by
 unfold headO at e
 cases agg with
 | true=>simp at e;subst e;exact ⟨_,by simp,mkAgg_rel h⟩
 | false=>
  simp at e
  cases us with
  | nil=>have:=h.1;cases cs<;>simp_all
  | cons u us=>exact ⟨u,by simp,h.2 0 v u e rfl⟩
theorem load_ok (h:St N w0 ι S F a w) {t:TypeId} {x:AV} {y:Value} {b:Bool} {n:Nat} {cs:List AV} {v:AV} (hb:aggB P t=some b) (hn:sizeO P t=some n) (hx:AVRel ι S x y)
  (hr:F.read x (if b then n else 1)=some cs) (hh:headO b cs=some v):∃ u,(Instr.loadAt t y).run P w=.ok u w∧AVRel ι S v u:=by
 obtain ⟨p,us,rfl,h1,h2,h3⟩:=h.read_run (P:=P) hx hr
 obtain ⟨u,h4,h5⟩:=headO_rel h1 hh
 refine ⟨u,?_,h5⟩
 simp only [Instr.loadAt,Instr.sureAddr,loadVar,Sem.run_bind,Sem.run_pure,Result.andThen_ok,aggB_run hb]
 cases b with
 | true=>simp at h2 h4;simp [sizeO_run hn,h2,h4]
 | false=>simp at h4;simpa using h3 u h4
theorem parts_ok (h:St N w0 ι S F a w) {place:Nat→Option (Nat×Nat)}:∀ {l:List (Nat×Operand)} {r:List (Nat×Nat×Opd)} {ps:List (Nat×List AV)} {cells cells':List AV} {us:List Value},partsG place l=some r→F.parts r=some ps →
  fillA cells ps=some cells'→Rs ι S cells us→∃ us',Instr.fill place us.toArray (l.map fun x=>(x.1,a.eval x.2))=some us'.toArray∧Rs ι S cells' us'
 | [],r,ps,cells,cells',us,h1,h2,h3,h4=>by
  simp [partsG] at h1;subst h1;simp [FF.parts] at h2;subst h2;simp [fillA] at h3;subst h3
  exact ⟨us,by simp [Instr.fill],h4⟩
 | (i,x) :: l,r,ps,cells,cells',us,h1,h2,h3,h4=>by
  simp only [partsG] at h1
  split at h1
  ·rename_i off n o r' e1 e2 e3
   simp at h1;subst h1
   simp only [FF.parts] at h2
   split at h2
   ·rename_i cs r'' e4 e5
    split at h2
    ·rename_i hl
     simp at h2;subst h2
     simp only [fillA] at h3
     split at h3
     ·rename_i hlen
      simp only [Option.bind_eq_some_iff] at e4
      obtain ⟨v,e6,e7⟩:=e4
      have hr:=AV.cells_rel (h.val e2 e6) e7
      have hus:off+(a.eval x).cells.size≤us.length:=by
       have q1:=hr.1
       have q2:=h4.1
       simp at q1
       omega
      have hfold:∀ (vs:List Value) (k:Nat) (us:List Value),k+off+vs.length≤us.length →
        ((vs.zipIdx k).foldl (fun (cs:Array Value) (c,j)=>cs.setIfInBounds (off+j) c) us.toArray).toList=us.take (off+k)++vs++us.drop (off+k+vs.length):=by
       intro vs
       induction vs with
       | nil=>intro k us hk;simp
       | cons v vs ih=>
        intro k us hk
        simp only [List.zipIdx_cons,List.foldl_cons]
        have:us.toArray.setIfInBounds (off+k) v=(us.set (off+k) v).toArray:=by simp
        rw [this,ih (k+1) _ (by simp at hk ⊢;omega)]
        have:=list_seg_step us (off+k) v vs (by simp at hk;omega)
        simp only [Nat.add_assoc] at this ⊢
        rw [this]
        simp [Nat.add_comm,Nat.add_left_comm]
      have hres:Rs ι S (cells.take off++cs++cells.drop (off+cs.length)) (us.take off++(a.eval x).cells.toList++us.drop (off+cs.length)):=by
       refine ⟨by simp [hr.1,h4.1],fun j p u q1 q2=>?_⟩
       have hcl:=hr.1
       have hul:=h4.1
       simp only [List.getElem?_append,List.length_append,List.length_take,List.getElem?_take,List.getElem?_drop] at q1 q2
       have m1:min off cells.length=off:=by omega
       have m2:min off us.length=off:=by omega
       rw [m1] at q1
       rw [m2] at q2
       rw [hcl] at q2
       by_cases c1:j<off+cs.length
       ·simp only [c1,if_true] at q1 q2
        by_cases c2:j<off
        ·simp only [c2,if_true] at q1 q2;exact h4.2 j p u q1 q2
        ·simp only [c2,if_false] at q1 q2;exact hr.2 _ p u q1 q2
       ·simp only [c1,if_false] at q1 q2;exact h4.2 _ p u q1 q2
      obtain ⟨us',g1,g2⟩:=parts_ok h e3 e5 h3 hres
      refine ⟨us',?_,g2⟩
      have hsz:(a.eval x).cells.size=n:=by have:=hr.1;simp at this;omega
      simp only [List.map_cons,Instr.fill,e1]
      rw [if_neg (by simp [hsz];omega)]
      rw [←g1]
      congr 1
      have hf:=hfold (a.eval x).cells.toList 0 us (by simp;omega)
      apply Array.ext'
      have hcs:cs.length=(a.eval x).cells.toList.length:=hr.1.symm
      rw [hcs]
      simp only [Nat.add_zero] at hf
      rw [←Array.foldl_toList,Array.toList_zipIdx]
      exact hf
     ·simp at h3
    ·simp at h2
   ·simp at h2
  ·simp at h1
theorem fieldsO_run:∀ {fs:List Field} {l:List (Nat×Nat)} (w:World),fieldsO P fs=some l→(fs.mapM fun f=>do pure (f.offset,←sizeOf f.type):Sem (List (Nat×Nat))).run P w=.ok l w
 | [],l,w,h=>by simp [fieldsO] at h;subst h;simp
 | f :: fs,l,w,h=>by
  simp only [fieldsO] at h
  split at h
  ·rename_i n r e1 e2
   simp at h;subst h
   simp only [List.mapM_cons,Sem.run_bind,sizeO_run e1,Result.andThen_ok,Sem.run_pure,fieldsO_run w e2]
  ·simp at h
theorem build_ok (h:St N w0 ι S F a w) {t:TypeId} {parts:Array (Nat×Operand)} {ao:AOp} {v:AV} (hr:resolveOp P (.build t parts)=some ao) (he:evV F ao=some v) :
  ∃ x,(Instr.build t (parts.map fun (i,x)=>(i,a.eval x))).run P w=.ok x w∧AVRel ι S v x:=by
 simp only [resolveOp] at hr
 split at hr
 ·simp at hr
 ·rename_i z hz
  obtain ⟨zv,z1,z2,_⟩:=zeroO_run (P:=P) (S:=S) (w:=w) hz
  have hzr:=z2.toRs (ι:=ι)
  split at hr
  ·rename_i fs hu
   split at hr
   ·rename_i l hl
    simp only [Option.map_eq_some_iff] at hr
    obtain ⟨ps,h1,rfl⟩:=hr
    simp only [evV,Option.bind_eq_some_iff,Option.map_eq_some_iff] at he
    obtain ⟨qs,h2,cs,h3,rfl⟩:=he
    obtain ⟨us,h4,h5⟩:=parts_ok h h1 h2 h3 hzr
    refine ⟨_,?_,mkAgg_rel h5⟩
    have hf:=fieldsO_run (P:=P) w hl
    simp only [Array.toArray_toList] at h4
    have e1:(fs.mapM fun f=>do pure (f.offset,←sizeOf f.type):Sem (Array (Nat×Nat))).run P w=.ok l.toArray w:=by
     rw [←Array.toArray_toList (xs:=fs),List.mapM_toArray]
     simp only [Sem.run_map]
     rw [hf];rfl
    simp only [Instr.build,Sem.run_bind,z1,Result.andThen_ok,run_underlying hu,e1]
    simp only [List.getElem?_toArray,Array.toList_map]
    rw [h4]
    rfl
   ·simp at hr
  ·rename_i n e hu
   split at hr
   ·rename_i m hm
    simp only [Option.map_eq_some_iff] at hr
    obtain ⟨ps,h1,rfl⟩:=hr
    simp only [evV,Option.bind_eq_some_iff,Option.map_eq_some_iff] at he
    obtain ⟨qs,h2,cs,h3,rfl⟩:=he
    obtain ⟨us,h4,h5⟩:=parts_ok h h1 h2 h3 hzr
    refine ⟨_,?_,mkAgg_rel h5⟩
    simp only [Array.toArray_toList] at h4
    simp only [Instr.build,Sem.run_bind,z1,Result.andThen_ok,run_underlying hu,sizeO_run hm,Array.toList_map]
    rw [h4]
    rfl
   ·simp at hr
  ·simp at hr
end
end Go.Abs
namespace Go.Abs
open Go
set_option linter.unusedSimpArgs false
set_option linter.unusedVariables false
section
variable {P:Program} {N:Nat} {w0:Base} {ι:Inj} {S:Snap} {F:FF} {a:Act} {w:World}
theorem inv_int {k:IntKind} {n:Int} {x:Value} (h:AVRel ι S (.p (.int k n)) x):x=.int k n:=by cases h.inv_p;rfl
theorem inv_bool {b:Bool} {x:Value} (h:AVRel ι S (.p (.bool b)) x):x=.bool b:=by cases h.inv_p;rfl
theorem inv_str {s:ByteArray} {x:Value} (h:AVRel ι S (.p (.str s)) x):x=.string s:=by cases h.inv_p;rfl
theorem rel_int (k:IntKind) (n:Int):AVRel ι S (.p (.int k n)) (.int k n):=.p _ _ (.int k n)
theorem rel_bool (b:Bool):AVRel ι S (.p (.bool b)) (.bool b):=.p _ _ (.bool b)
theorem rel_str (b:ByteArray):AVRel ι S (.p (.str b)) (.string b):=.p _ _ (.str b)
theorem guard_int {op:BinOp} {t:TypeId} {x y:Operand} {k k':IntKind} {m n:Int}:(eqGuard op t x y (.int k m) (.int k' n)).run P w=.ok () w:=by
 cases op<;>simp [eqGuard]
theorem guard_str {op:BinOp} {t:TypeId} {x y:Operand} {m n:ByteArray}:(eqGuard op t x y (.string m) (.string n)).run P w=.ok () w:=by
 cases op<;>simp [eqGuard]
theorem guard_bool {op:BinOp} {t:TypeId} {x y:Operand} {m n:Bool}:(eqGuard op t x y (.bool m) (.bool n)).run P w=.ok () w:=by
 cases op<;>simp [eqGuard]
theorem beq_dec (x y:Int):(x == y)=decide (x=y):=by
 cases h:decide (x=y)<;>simp_all
theorem bin_ok {op:BinOp} {t:TypeId} {x y:Value} {u v r:AV} (hx:AVRel ι S u x) (hy:AVRel ι S v y) (e:binV op u v=some r) :
  ∃ z,(binOp op t x y).run P w=.ok z w∧AVRel ι S r z:=by
 unfold binV at e
 split at e
 ·rename_i k m k' n
  obtain rfl:=inv_int hx
  obtain rfl:=inv_int hy
  simp only [Option.map_eq_some_iff] at e
  obtain ⟨q,e,rfl⟩:=e
  cases op<;>simp only [binI,shI] at e
  all_goals (repeat' split at e)
  all_goals (try (simp at e;done))
  all_goals (simp only [Option.some.injEq] at e;subst e)
  all_goals simp_all [binOp,Op.intArith,Op.intDiv,Op.intBits,Op.intCmp,Op.shift,rel_int,rel_bool,beq_dec]
  all_goals first | exact rel_int _ _ | exact rel_bool _ | (rw [if_neg (by omega)];exact ⟨_,rfl,rel_int _ _⟩)
 ·obtain rfl:=inv_str hx
  obtain rfl:=inv_str hy
  simp only [Option.map_eq_some_iff] at e
  obtain ⟨q,e,rfl⟩:=e
  cases op<;>simp only [binS] at e
  all_goals (repeat' split at e)
  all_goals (try (simp at e;done))
  all_goals (simp only [Option.some.injEq] at e;subst e)
  all_goals (simp only [binOp,Op.stringOp])
  ·rename_i hle
   have hm:IntKind.i64.max=9223372036854775807:=by decide
   rw [if_neg (by rw [hm];omega)]
   exact ⟨_,rfl,rel_str _⟩
  all_goals exact ⟨_,rfl,rel_bool _⟩
 ·simp at e
theorem un_ok {op:UnOp} {x:Value} {u r:AV} (hx:AVRel ι S u x) (e:unV op u=some r):∃ z,(Op.unary op x).run P w=.ok z w∧AVRel ι S r z:=by
 unfold unV at e
 split at e
 ·obtain rfl:=inv_bool hx
  cases op<;>simp at e
  subst e
  exact ⟨_,rfl,rel_bool _⟩
 ·obtain rfl:=inv_int hx
  cases op<;>simp at e
  subst e
  exact ⟨_,rfl,by simpa using rel_int _ _⟩
 ·simp at e
theorem equal_bool {t:TypeId} {m n:Bool} (hu:P.underlying t=some .bool):(Op.equal t (.bool m) (.bool n)).run P w=.ok (m == n) w:=by
 unfold Op.equal Op.maxDepth
 rw [show (10000:Nat)=9999+1 from rfl,Op.equalIn]
 simp only [Sem.run_bind,run_underlying hu,Result.andThen_ok,Sem.run_pure]
theorem eqb_ok {neg:Bool} {t:TypeId} {m n:Bool} (hu:P.underlying t=some .bool) :
  (binOp (if neg then .neq else .eql) t (.bool m) (.bool n)).run P w=.ok (.bool (if neg then !(m == n) else (m == n))) w:=by
 cases neg
 ·simp only [Bool.false_eq_true,if_false,binOp,Sem.run_bind,equal_bool hu,Result.andThen_ok,Sem.run_pure]
 ·simp only [if_true,binOp,Sem.run_bind,equal_bool hu,Result.andThen_ok,Sem.run_pure]
theorem bound_run {dflt:Nat} {lo:Option Operand} {o:Option Opd} {l:Int} (h:St N w0 ι S F a w) (hr:rOo lo=some o) (hb:boundO F dflt o=some l) :
  (lo=none∧l=dflt)∨∃ x k,lo=some x∧a.eval x=.int k l:=by
 cases lo with
 | none=>simp [rOo] at hr;subst hr;simp [boundO] at hb;exact .inl ⟨rfl,hb.symm⟩
 | some x=>
  simp only [rOo,Option.map_eq_some_iff] at hr
  obtain ⟨o',h1,rfl⟩:=hr
  simp only [boundO,Option.bind_eq_some_iff] at hb
  obtain ⟨v,h2,h3⟩:=hb
  have:=h.val h1 h2
  unfold intO at h3
  split at h3
  ·simp at h3;subst h3;exact .inr ⟨x,_,rfl,inv_int this⟩
  ·simp at h3
theorem bounds_run {isSlice:Bool} {len cap:Nat} {lo hi:Option Operand} {o o':Option Opd} {l h:Int} (hst:St N w0 ι S F a w) (h1:rOo lo=some o) (h2:rOo hi=some o')
  (h3:boundO F 0 o=some l) (h4:boundO F len o'=some h) (hl:0≤l) (hlh:l≤h) (hh:h≤len) (hc:len≤cap) :
  (Instr.sliceBounds isSlice len cap (lo.map a.eval) (hi.map a.eval) none).run P w=.ok (l.toNat,h.toNat,cap) w:=by
 have q1:=bound_run hst h1 h3
 have q2:=bound_run hst h2 h4
 have c1:h≤(cap:Int):=by omega
 have c0:0≤h:=by omega
 have e1:∀ x k,a.eval x=.int k h→(Instr.sliceBound (a.eval x) cap (if isSlice then .sliceAcap else .sliceAlen)).run P w=.ok h.toNat w:=by
  intro x k e
  simp [Instr.sliceBound,e,asIntOf,c0,c1]
 have e2:∀ x k,a.eval x=.int k l→(Instr.sliceBound (a.eval x) h.toNat .sliceB).run P w=.ok l.toNat w:=by
  intro x k e
  have:l≤(h.toNat:Int):=by omega
  simp only [Instr.sliceBound,e,asIntOf,Sem.run_bind,Sem.run_pure,Result.andThen_ok]
  rw [if_pos ⟨hl,this⟩];rfl
 rcases q1 with ⟨rfl,rfl⟩ | ⟨x,k,rfl,ex⟩<;>rcases q2 with ⟨rfl,rfl⟩ | ⟨y,k',rfl,ey⟩
 ·simp [Instr.sliceBounds]
 ·have:=e1 y k' ey
  simp [Instr.sliceBounds,this]
 ·have:=e2 x k ex
  simp at this
  simp [Instr.sliceBounds,this]
 ·have:=e1 y k' ey
  have t2:=e2 x k ex
  simp [Instr.sliceBounds,this,t2]
theorem slcS_ok (h:St N w0 ι S F a w) {t:TypeId} {x:Operand} {lo hi:Option Operand} {o:Opd} {o1 o2:Option Opd} {v:AV} (hu:P.underlying t=some .string) (hx:rO x=some o) (h1:rOo lo=some o1) (h2:rOo hi=some o2)
  (he:evV F (.slcS o o1 o2)=some v):∃ z,(Instr.sliceAt t (a.eval x) (lo.map a.eval) (hi.map a.eval) none).run P w=.ok z w∧AVRel ι S v z:=by
 simp only [evV] at he
 split at he
 ·rename_i s hs
  split at he
  ·rename_i l hh e1 e2
   split at he
   ·rename_i hc
    simp at he;subst he
    have:=inv_str (h.val hx hs)
    refine ⟨.string (s.extract l.toNat hh.toNat),?_,rel_str _⟩
    have hb:=bounds_run (P:=P) (isSlice:=false) (cap:=s.size) h h1 h2 e1 e2 hc.1 hc.2.1 hc.2.2 (Nat.le_refl _)
    simp [Instr.sliceAt,Instr.slice,run_underlying hu,this,hb]
   ·simp at he
  ·simp at he
 ·simp at he
theorem slcV_ok (h:St N w0 ι S F a w) {t e:TypeId} {n:Nat} {x:Operand} {lo hi:Option Operand} {o:Opd} {o1 o2:Option Opd} {v:AV} (hu:P.underlying t=some (.slice e)) (hn:sizeO P e=some n) (hx:rO x=some o) (h1:rOo lo=some o1) (h2:rOo hi=some o2)
  (he:evV F (.slcV n o o1 o2)=some v):∃ z,(Instr.sliceAt t (a.eval x) (lo.map a.eval) (hi.map a.eval) none).run P w=.ok z w∧AVRel ι S v z:=by
 have run:∀ (p:Option Addr) (len cap:Nat) (l hh:Int),a.eval x=.slice p len cap→boundO F 0 o1=some l→boundO F len o2=some hh→0≤l→l≤hh→hh≤len→len≤cap →
   (Instr.sliceAt t (a.eval x) (lo.map a.eval) (hi.map a.eval) none).run P w=.ok (.slice (if cap=l.toNat then p else p.map (·.add (l.toNat*n))) (hh.toNat - l.toNat) (cap - l.toNat)) w:=by
  intro p len cap l hh ex e1 e2 c1 c2 c3 c4
  have hb:=bounds_run (P:=P) (isSlice:=true) (cap:=cap) h h1 h2 e1 e2 c1 c2 c3 c4
  simp [Instr.sliceAt,Instr.slice,run_underlying hu,ex,hb,sizeO_run hn]
 simp only [evV] at he
 split at he
 ·rename_i hs
  have hrel:=h.val hx hs
  split at he
  ·rename_i l hh e1 e2
   split at he
   ·rename_i hc
    simp at he;subst he
    have hx':a.eval x=.slice none 0 0:=by
     generalize a.eval x=y at hrel
     cases hrel.inv_p
     rfl
    have hl0:l=0:=by omega
    have hh0:hh=0:=by omega
    subst hl0;subst hh0
    refine ⟨.slice none 0 0,?_,.p _ _ .nsl⟩
    rw [run none 0 0 0 0 hx' e1 e2 (by omega) (by omega) (by omega) (by omega)]
    simp
   ·simp at he
  ·simp at he
 ·rename_i sz rows hs
  have hrel:=(h.val hx hs).inv_p
  split at he
  ·rename_i l hh e1 e2
   split at he
   ·rename_i hc
    obtain ⟨rfl,c1,c2,c3⟩:=hc
    simp at he;subst he
    generalize hy:a.eval x=y at hrel
    cases hrel with
    | sl _ _ p cap f hcap hsz hcell hr=>
     have hrun:=run p rows.length cap l hh hy e1 e2 c1 c2 c3 hcap
     rw [hy] at hrun
     refine ⟨_,hrun,.p _ _ ?_⟩
     have hlen:((rows.take hh.toNat).drop l.toNat).length=hh.toNat - l.toNat:=by simp;omega
     rw [←hlen]
     have hget:∀ i,((rows.take hh.toNat).drop l.toNat)[i]?=if l.toNat+i<hh.toNat then rows[l.toNat+i]? else none:=by
      intro i;simp [List.getElem?_drop,List.getElem?_take]
     refine .sl sz _ _ _ (fun i j=>f (l.toNat+i) j) (by rw [hlen];omega) (fun i row e=>?_) (fun i row j q e e'=>?_) (fun i row j q e e'=>?_)
     ·rw [hget] at e
      split at e
      ·exact hsz _ row e
      ·simp at e
     ·rw [hget] at e
      split at e
      ·obtain ⟨b,hb,hS⟩:=hcell _ row j q e e'
       have hlt:l.toNat+i<rows.length:=(List.getElem?_eq_some_iff.1 e).1
       rw [if_neg (by omega),hb]
       refine ⟨_,rfl,?_⟩
       rw [←hS]
       congr 1
       cases b with
       | mk blk o sp=>
        simp only [Addr.add]
        by_cases q1:l.toNat*sz=0
        ·simp [q1,Nat.add_mul]
        ·rw [if_neg q1]
         by_cases q2:i*sz+j=0
         ·rw [if_pos q2,if_neg (by rw [Nat.add_mul];omega)]
          simp [Nat.add_mul];omega
         ·rw [if_neg q2,if_neg (by rw [Nat.add_mul];omega)]
          simp [Nat.add_mul];omega
      ·simp at e
     ·rw [hget] at e
      split at e
      ·exact hr _ row j q e e'
      ·simp at e
   ·simp at he
  ·simp at he
 ·rename_i s sz off len hs
  have hrel:=h.val hx hs
  split at he
  ·rename_i l hh e1 e2
   split at he
   ·rename_i hc
    obtain ⟨rfl,c1,c2,c3⟩:=hc
    simp at he;subst he
    generalize hy:a.eval x=y at hrel
    cases hrel with
    | ref _ _ _ _ b total cap p hi hct hl ha=>
     have hrun:=run (some p) len cap l hh hy e1 e2 c1 c2 c3 hl
     rw [hy] at hrun
     refine ⟨_,hrun,?_⟩
     have key:∃ p',(if cap=l.toNat then some p else (some p).map (·.add (l.toNat*sz)))=some p'∧(cap - l.toNat=0∨p'=⟨b,(off+l.toNat)*sz,none⟩):=by
      by_cases q:cap=l.toNat
      ·exact ⟨p,by simp [q],.inl (by omega)⟩
      ·refine ⟨p.add (l.toNat*sz),by simp [q],?_⟩
       rcases ha with h0 | rfl
       ·exact .inl (by omega)
       ·exact .inr (by rw [addr_add,Nat.add_mul])
     obtain ⟨p',k1,k2⟩:=key
     rw [k1]
     exact .ref s sz (off+l.toNat) (hh.toNat - l.toNat) b total (cap - l.toNat) p' hi (by omega) (by omega) k2
    | refnil _ _ hi=>
     have hl0:l=0:=by omega
     have hh0:hh=0:=by omega
     subst hl0;subst hh0
     have hrun:=run none 0 0 0 0 hy e1 e2 (by omega) (by omega) (by omega) (by omega)
     rw [hy] at hrun
     refine ⟨_,hrun,?_⟩
     simpa using .refnil s sz hi
   ·simp at he
  ·simp at he
 ·simp at he
end
end Go.Abs
namespace Go.Abs
open Go
set_option linter.unusedSimpArgs false
set_option linter.unusedVariables false
section
variable {P:Program} {N:Nat} {w0:Base} {ι:Inj} {S:Snap} {F:FF} {a:Act} {w:World}
theorem pick_rel {t:Bool} {u v:AV} {x y:Value} (hx:AVRel ι S u x) (hy:AVRel ι S v y):AVRel ι S (pickV t u v) (if t then x else y):=by
 unfold pickV
 split
 ·obtain rfl:=inv_bool hx
  obtain rfl:=inv_bool hy
  cases t<;>exact rel_bool _
 ·cases t<;>simpa
theorem aggc_rel {v:AV} {x:Value} {cs:List AV} (h:AVRel ι S v x) (e:v.aggc=some cs):∃ us:List Value,x=.agg us.toArray∧Rs ι S cs us:=by
 unfold AV.aggc at e
 split at e
 ·simp at e;subst e
  have:=h.inv_p
  cases this with
  | agg _ vs hl hh=>exact ⟨vs,rfl,Ps.toRs ⟨hl,hh⟩⟩
 ·simp at e;subst e
  cases h with
  | agg _ vs hl hh=>exact ⟨vs,rfl,hl,hh⟩
 ·simp at e
theorem Rs.seg {cs:List AV} {us:List Value} (h:Rs ι S cs us) (off n:Nat):Rs ι S ((cs.drop off).take n) ((us.drop off).take n):=by
 refine ⟨by simp [h.1],fun j p v e1 e2=>?_⟩
 simp only [List.getElem?_take,List.getElem?_drop] at e1 e2
 split at e1
 ·rename_i hj;rw [if_pos hj] at e2;exact h.2 _ p v e1 e2
 ·simp at e1
theorem part_ok {t:TypeId} {b:Bool} {n off:Nat} {cs:List AV} {us:List Value} {v:AV} (hb:aggB P t=some b) (hn:sizeO P t=some n) (h:Rs ι S cs us) (hl:off+(if b then n else 1)≤cs.length)
  (he:headO b ((cs.drop off).take (if b then n else 1))=some v):∃ x,(part t us.toArray off).run P w=.ok x w∧AVRel ι S v x:=by
 obtain ⟨x,h1,h2⟩:=headO_rel (h.seg off (if b then n else 1)) he
 refine ⟨x,?_,h2⟩
 simp only [part,Sem.run_bind,aggB_run hb,Result.andThen_ok]
 cases b with
 | true=>
  simp at h1 hl
  simp only [if_true,Sem.run_bind,sizeO_run hn,Result.andThen_ok,Sem.run_pure]
  rw [h1]
  congr 2
  simp [List.take_drop,Nat.add_comm]
 | false=>
  simp at h1 hl
  obtain ⟨y,hy⟩:∃ y,us[off]?=some y:=⟨us[off]'(by have:=h.1;omega),by simp⟩
  rw [hy] at h1
  simp only [List.getElem?_toArray,hy]
  simp at h1
  subst h1
  simp
theorem ro_drop {cells:List PV} {x:Value} (h:PRel S (.ro cells) x) (off:Nat):∃ p:Addr,x=.pointer (some p)∧PRel S (.ro (cells.drop off)) (.pointer (some (p.add off))):=by
 cases h with
 | ro _ p f hc hr=>
  refine ⟨p,rfl,.ro _ _ (fun j=>f (off+j)) (fun j q e=>?_) (fun j q e=>?_)⟩
  ·rw [List.getElem?_drop] at e
   rw [←hc _ q e]
   congr 1
   cases p with
   | mk blk o sp=>
    simp only [Addr.add]
    by_cases q1:off=0
    ·simp [q1]
    ·rw [if_neg q1]
     by_cases q2:j=0
     ·rw [if_pos q2,if_neg (by omega)];simp [q2]
     ·rw [if_neg q2,if_neg (by omega)];simp;omega
  ·rw [List.getElem?_drop] at e
   exact hr _ q e
theorem faddr_ok (h:St N w0 ι S F a w) {s:TypeId} {fs:Array Field} {fd:Field} {f n:Nat} {x:Operand} {o:Opd} {v:AV} (hu:P.underlying s=some (.struct fs)) (hf:fs[f]?=some fd) (hn:sizeO P fd.type=some n) (h0:n≠0) (hx:rO x=some o)
  (he:evV F (.faddr fd.offset o)=some v):∃ z,(Instr.fieldAt s (a.eval x) f).run P w=.ok z w∧AVRel ι S v z:=by
 have run:∀ p:Addr,a.eval x=.pointer (some p)→(Instr.fieldAt s (a.eval x) f).run P w=.ok (.pointer (some (p.add fd.offset))) w:=by
  intro p e
  simp [Instr.fieldAt,run_underlying hu,hf,e,Instr.sureAddr,fieldPlace,sizeO_run hn,h0]
 simp only [evV] at he
 split at he
 ·rename_i sl size row off hs
  simp at he;subst he
  have hrel:=h.val hx hs
  generalize hy:a.eval x=y at hrel
  cases hrel with
  | ptr _ _ _ _ b total hi=>
   refine ⟨_,by rw [←hy];exact run _ hy,?_⟩
   rw [addr_add,Nat.add_assoc]
   exact .ptr sl size row (off+fd.offset) b total hi
 ·rename_i cells hs
  simp at he;subst he
  obtain ⟨p,e1,e2⟩:=ro_drop (h.val hx hs).inv_p fd.offset
  exact ⟨_,run p e1,.p _ _ e2⟩
 ·simp at he
theorem intO_inv {x:Operand} {o:Opd} {i:Int} (h:St N w0 ι S F a w) (hx:rO x=some o) (e:(F.val o).bind intO=some i):∃ k,a.eval x=.int k i:=by
 simp only [Option.bind_eq_some_iff] at e
 obtain ⟨v,h1,h2⟩:=e
 have:=h.val hx h1
 unfold intO at h2
 split at h2
 ·simp at h2;subst h2;exact ⟨_,inv_int this⟩
 ·simp at h2
theorem iaddr_ok (h:St N w0 ι S F a w) {t e:TypeId} {n:Nat} {x i:Operand} {o o':Opd} {v:AV} (hu:P.underlying t=some (.slice e)) (hn:sizeO P e=some n) (h0:n≠0) (hx:rO x=some o) (hi:rO i=some o')
  (he:evV F (.iaddr n o o')=some v):∃ z,(Instr.indexAt t (a.eval x) (a.eval i)).run P w=.ok z w∧AVRel ι S v z:=by
 have run:∀ (p:Addr) (len cap:Nat) (q:Int) (k:IntKind),a.eval x=.slice (some p) len cap→a.eval i=.int k q→0≤q→q<len→(Instr.indexAt t (a.eval x) (a.eval i)).run P w=.ok (.pointer (some (p.add (q.toNat*n)))) w:=by
  intro p len cap q k e1 e2 c1 c2
  simp [Instr.indexAt,run_underlying hu,e1,e2,asIntOf,c1,c2,sizeO_run hn]
 simp only [evV] at he
 split at he
 ·rename_i sz rows q hs hq
  obtain ⟨k,hk⟩:=intO_inv h hi hq
  split at he
  ·rename_i hc
   obtain ⟨rfl,c1⟩:=hc
   simp only [Option.map_eq_some_iff] at he
   obtain ⟨row,hrow,rfl⟩:=he
   have hrel:=(h.val hx hs).inv_p
   generalize hy:a.eval x=y at hrel
   cases hrel with
   | sl _ _ p cap f hcap hsz hcell hr=>
    have hlt:=(List.getElem?_eq_some_iff.1 hrow).1
    have hlen:=hsz _ row hrow
    obtain ⟨c0,hc0⟩:∃ c,row[0]?=some c:=⟨row[0]'(by omega),by simp⟩
    obtain ⟨b,rfl,_⟩:=hcell _ row 0 c0 hrow hc0
    refine ⟨_,by rw [←hy];exact run b rows.length cap q k hy hk c1 (by omega),.p _ _ ?_⟩
    refine .ro row _ (fun j=>f q.toNat j) (fun j c e=>?_) (fun j c e=>hr _ row j c hrow e)
    obtain ⟨b',hb',hS⟩:=hcell _ row j c hrow e
    simp at hb';subst hb'
    rw [←hS]
    congr 1
    cases b with
    | mk blk of sp=>
     simp only [Addr.add]
     by_cases q1:q.toNat*sz=0
     ·simp [q1]
     ·rw [if_neg q1]
      by_cases q2:j=0
      ·rw [if_pos q2,if_neg (by omega)];simp [q2]
      ·rw [if_neg q2,if_neg (by omega)];simp;omega
  ·simp at he
 ·rename_i s sz off len q hs hq
  obtain ⟨k,hk⟩:=intO_inv h hi hq
  split at he
  ·rename_i hc
   obtain ⟨rfl,c1,c2⟩:=hc
   simp at he;subst he
   have hrel:=h.val hx hs
   generalize hy:a.eval x=y at hrel
   cases hrel with
   | ref _ _ _ _ b total cap p hi' hct hl ha=>
    refine ⟨_,by rw [←hy];exact run p len cap q k hy hk c1 c2,?_⟩
    rcases ha with h1 | rfl
    ·omega
    ·rw [addr_add,←Nat.add_mul]
     exact .ptr s sz (off+q.toNat) 0 b total hi'
   | refnil _ _ hi'=>omega
  ·simp at he
 ·simp at he
theorem iaddrA_ok (h:St N w0 ι S F a w) {t e:TypeId} {n len:Nat} {x i:Operand} {o o':Opd} {v:AV} (hu:P.underlying t=some (.array len e)) (hn:sizeO P e=some n) (hx:rO x=some o) (hi:rO i=some o')
  (he:evV F (.iaddrA n len o o')=some v):∃ z,(Instr.indexAt t (a.eval x) (a.eval i)).run P w=.ok z w∧AVRel ι S v z:=by
 have run:∀ (p:Addr) (q:Int) (k:IntKind),a.eval x=.pointer (some p)→a.eval i=.int k q→0≤q→q<len→(Instr.indexAt t (a.eval x) (a.eval i)).run P w=.ok (.pointer (some (p.add (q.toNat*n)))) w:=by
  intro p q k e1 e2 c1 c2
  simp [Instr.indexAt,run_underlying hu,e1,e2,asIntOf,c1,c2,sizeO_run hn,Instr.sureAddr]
 simp only [evV] at he
 split at he
 ·rename_i cells q hs hq
  obtain ⟨k,hk⟩:=intO_inv h hi hq
  split at he
  ·rename_i hc
   simp at he;subst he
   obtain ⟨p,e1,e2⟩:=ro_drop (h.val hx hs).inv_p (q.toNat*n)
   exact ⟨_,run p q k e1 hk hc.1 hc.2,.p _ _ e2⟩
  ·simp at he
 ·rename_i s sz row o2 q hs hq
  obtain ⟨k,hk⟩:=intO_inv h hi hq
  split at he
  ·rename_i hc
   simp at he;subst he
   have hrel:=h.val hx hs
   generalize hy:a.eval x=y at hrel
   cases hrel with
   | ptr _ _ _ _ b total hi'=>
    refine ⟨_,by rw [←hy];exact run _ q k hy hk hc.1 hc.2,?_⟩
    rw [addr_add,Nat.add_assoc]
    exact .ptr s sz row _ b total hi'
  ·simp at he
 ·simp at he
theorem idxS_ok (h:St N w0 ι S F a w) {t:TypeId} {x i:Operand} {o o':Opd} {v:AV} (hu:P.underlying t=some .string) (hx:rO x=some o) (hi:rO i=some o')
  (he:evV F (.idxS o o')=some v):∃ z,(Instr.index t (a.eval x) (a.eval i)).run P w=.ok z w∧AVRel ι S v z:=by
 simp only [evV] at he
 split at he
 ·rename_i s q hs hq
  obtain ⟨k,hk⟩:=intO_inv h hi hq
  have:=inv_str (h.val hx hs)
  split at he
  ·rename_i hc
   simp only [Option.map_eq_some_iff] at he
   obtain ⟨b,hb,rfl⟩:=he
   refine ⟨_,?_,rel_int _ _⟩
   simp [Instr.index,this,hk,asIntOf,run_underlying hu,hc,hb]
  ·simp at he
 ·simp at he
theorem idxA_ok (h:St N w0 ι S F a w) {t e:TypeId} {n len:Nat} {b:Bool} {x i:Operand} {o o':Opd} {v:AV} (hu:P.underlying t=some (.array len e)) (hb:aggB P e=some b) (hn:sizeO P e=some n) (hx:rO x=some o) (hi:rO i=some o')
  (he:evV F (.idxA n b len o o')=some v):∃ z,(Instr.index t (a.eval x) (a.eval i)).run P w=.ok z w∧AVRel ι S v z:=by
 simp only [evV] at he
 split at he
 ·rename_i cs q hs hq
  obtain ⟨k,hk⟩:=intO_inv h hi hq
  simp only [Option.bind_eq_some_iff] at hs
  obtain ⟨u,h1,h2⟩:=hs
  obtain ⟨us,e1,e2⟩:=aggc_rel (h.val hx h1) h2
  split at he
  ·rename_i hc
   obtain ⟨c1,c2,c3,c4⟩:=hc
   have hif:(if b then n else 1)=n:=by cases b<;>simp at c4 ⊢;omega
   obtain ⟨z,z1,z2⟩:=part_ok (P:=P) (w:=w) (off:=q.toNat*n) hb hn e2 (by rw [hif];exact c3) (by rw [hif];exact he)
   refine ⟨z,?_,z2⟩
   simp [Instr.index,e1,hk,asIntOf,run_underlying hu,c1,c2,sizeO_run hn,z1]
  ·simp at he
 ·simp at he
theorem field_ok (h:St N w0 ι S F a w) {t:TypeId} {fs:Array Field} {fd:Field} {f n:Nat} {b:Bool} {x:Operand} {o:Opd} {v:AV} (hu:P.underlying t=some (.struct fs)) (hf:fs[f]?=some fd) (hb:aggB P fd.type=some b) (hn:sizeO P fd.type=some n) (hx:rO x=some o)
  (he:evV F (.field fd.offset b (if b then n else 1) o)=some v):∃ z,(Instr.field t (a.eval x) f).run P w=.ok z w∧AVRel ι S v z:=by
 simp only [evV,Option.bind_eq_some_iff] at he
 obtain ⟨cs,⟨u,h1,h2⟩,he⟩:=he
 obtain ⟨us,e1,e2⟩:=aggc_rel (h.val hx h1) h2
 by_cases hc:fd.offset+(if b then n else 1)≤cs.length
 ·rw [if_pos hc] at he
  obtain ⟨z,z1,z2⟩:=part_ok (P:=P) (w:=w) hb hn e2 hc he
  refine ⟨z,?_,z2⟩
  simp [Instr.field,e1,run_underlying hu,hf,asAgg,z1]
 ·rw [if_neg hc] at he;simp at he
theorem ext_ok (h:St N w0 ι S F a w) {x:Operand} {o:Opd} {i:Nat} {v:AV} (hx:rO x=some o) (he:evV F (.ext o i)=some v):∃ z,(Instr.extract (a.eval x) i).run P w=.ok z w∧AVRel ι S v z:=by
 simp only [evV] at he
 split at he
 ·rename_i vs hs
  simp only [Option.map_eq_some_iff] at he
  obtain ⟨q,hq,rfl⟩:=he
  have hrel:=(h.val hx hs).inv_p
  generalize a.eval x=y at hrel
  cases hrel with
  | tup _ us hl hh=>
   obtain ⟨z,hz⟩:∃ z,us[i]?=some z:=⟨us[i]'(by have:=(List.getElem?_eq_some_iff.1 hq).1;omega),by simp⟩
   exact ⟨z,by simp [Instr.extract,hz],.p _ _ (hh i q z hq hz)⟩
 ·rename_i vs hs
  have hrel:=h.val hx hs
  generalize a.eval x=y at hrel
  cases hrel with
  | tup _ us hl hh=>
   obtain ⟨z,hz⟩:∃ z,us[i]?=some z:=⟨us[i]'(by have:=(List.getElem?_eq_some_iff.1 he).1;omega),by simp⟩
   exact ⟨z,by simp [Instr.extract,hz],hh i v z he hz⟩
 ·simp at he
theorem lenV_ok {v:AV} {x:Value} {n:Nat} {t:TypeId} {str:Bool} (hu:if str then P.underlying t=some .string else ∃ e,P.underlying t=some (.slice e))
  (h:AVRel ι S v x) (e:lenV str v=some n) (ty:TypeId):(Builtin.len_ #[t] ty #[x]).run P w=.ok (.int .i64 n) w:=by
 unfold lenV at e
 split at e
 ·split at e
  ·rename_i hs
   simp at e;subst e
   obtain rfl:=inv_str h
   rw [if_pos hs] at hu
   simp [Builtin.len_,run_underlying hu,goInt]
  ·simp at e
 ·split at e
  ·simp at e
  ·rename_i hs
   simp at e;subst e
   rw [if_neg hs] at hu
   obtain ⟨e,hu⟩:=hu
   have:=h.inv_p
   cases this
   simp [Builtin.len_,run_underlying hu,goInt]
 ·split at e
  ·simp at e
  ·rename_i hs
   simp at e;subst e
   rw [if_neg hs] at hu
   obtain ⟨e,hu⟩:=hu
   have:=h.inv_p
   cases this
   simp [Builtin.len_,run_underlying hu,goInt]
 ·split at e
  ·simp at e
  ·rename_i hs
   simp at e;subst e
   rw [if_neg hs] at hu
   obtain ⟨e,hu⟩:=hu
   cases h with
   | ref _ _ _ _ b total cap p hi hct hl ha=>simp [Builtin.len_,run_underlying hu,goInt]
   | refnil=>simp [Builtin.len_,run_underlying hu,goInt]
 ·simp at e
theorem mm_ok {mx:Bool} {k k':IntKind} {m n:Int} (t:Array TypeId) (ty:TypeId) :
  ((if mx then Builtin.max_ t ty else Builtin.min_ t ty) #[.int k m,.int k' n]).run P w=.ok (.int k (if mx then max m n else min m n)) w:=by
 cases mx
 ·simp [Builtin.min_,Builtin.min2];omega
 ·simp [Builtin.max_,Builtin.max2];omega
theorem mm3_ok {mx:Bool} {k k' k'':IntKind} {m n l:Int} (t:Array TypeId) (ty:TypeId) :
  ((if mx then Builtin.max_ t ty else Builtin.min_ t ty) #[.int k m,.int k' n,.int k'' l]).run P w=.ok (.int k (if mx then max (max m n) l else min (min m n) l)) w:=by
 cases mx
 ·simp [Builtin.min_,Builtin.min2];omega
 ·simp [Builtin.max_,Builtin.max2];omega
theorem mkfn_rel {fn:Fn} {f c:List AV} {fs cs:List Value} (h1:Rs ι S f fs) (h2:Rs ι S c cs) :
  AVRel ι S (match allP f,allP c with | some f',some c'=>.p (.clo fn f' c') | _,_=>.clo fn f c) (.func fn fs.toArray cs.toArray):=by
 split
 ·rename_i f' c' e1 e2
  exact .p _ _ (.clo fn f' c' fs cs (h1.toPs e1).1 (h2.toPs e2).1 (h1.toPs e1).2 (h2.toPs e2).2)
 ·exact .clo fn f c fs cs h1.1 h2.1 h1.2 h2.2
end
end Go.Abs
namespace Go.Abs
open Go
set_option linter.unusedSimpArgs false
set_option linter.unusedVariables false
section
variable {P:Program} {N:Nat} {w0:Base} {ι:Inj} {S:Snap} {F:FF} {a:Act} {w:World}
theorem leavesEq_append {us vs:List PV}:∀ {l m:List (Nat×Nat)} {r:Bool},leavesEq us vs (l++m)=some r→∃ p q,leavesEq us vs l=some p∧leavesEq us vs m=some q∧r=(p && q)
 | [],m,r,h=>⟨true,r,rfl,h,by simp⟩
 | (i,k) :: l,m,r,h=>by
  simp only [List.cons_append,leavesEq] at h
  split at h
  ·rename_i b q e1 e2
   obtain ⟨p',q',h1,h2,rfl⟩:=leavesEq_append e2
   simp at h
   exact ⟨b && p',q',by simp [leavesEq,e1,h1],h2,by rw [←h,Bool.and_assoc]⟩
  ·simp at h
def PartOf (P:Program) (t:TypeId) (xs:List Value) (base:Nat) (x:Value):Prop:=
 (aggB P t=some false∧xs[base]?=some x)∨(aggB P t=some true∧∃ n,sizeO P t=some n∧x=.agg (xs.toArray.extract base (base+n)))
def isAggD:TypeDesc→Bool
 | .struct _ | .array _ _=>true
 | _=>false
theorem aggB_some {t:TypeId} {d:TypeDesc} (h:P.underlying t=some d):aggB P t=some (isAggD d):=by
 simp only [aggB,h];cases d<;>rfl
theorem part_of {t:TypeId} {n N0 off base:Nat} {b:Bool} {xs:List Value} (hb:aggB P t=some b) (hn:sizeO P t=some n) (hle:off+n≤N0) (hl:b=false→n=1) (hlen:base+N0≤xs.length) :
  ∃ x,(part t (xs.toArray.extract base (base+N0)) off).run P w=.ok x w∧PartOf P t xs (base+off) x:=by
 cases b with
 | true=>
  refine ⟨_,?_,.inr ⟨hb,n,hn,rfl⟩⟩
  simp only [part,Sem.run_bind,aggB_run hb,Result.andThen_ok,if_true,sizeO_run hn,Sem.run_pure]
  congr 2
  rw [Array.extract_extract]
  congr 1
  omega
 | false=>
  have h1:=hl rfl
  subst h1
  obtain ⟨x,hx⟩:∃ x,xs[base+off]?=some x:=⟨xs[base+off]'(by omega),by simp⟩
  refine ⟨x,?_,.inl ⟨hb,hx⟩⟩
  have:(xs.toArray.extract base (base+N0))[off]?=some x:=by
   rw [Array.getElem?_extract]
   simp only [List.size_toArray,List.getElem?_toArray]
   rw [if_pos (by omega)]
   exact hx
  simp only [part,Sem.run_bind,aggB_run hb,Result.andThen_ok,Bool.false_eq_true,if_false,this,Sem.run_pure]
theorem leaves_size1 {d:Nat} {t:TypeId} {base:Nat} {ls:List (Nat×Nat)} (h:leaves P d t base=some ls):∃ b n,aggB P t=some b∧sizeO P t=some n∧(b=false→n=1):=by
 cases d with
 | zero=>simp [leaves] at h
 | succ d=>
  simp only [leaves] at h
  split at h
  ·rename_i hu hs;exact ⟨false,1,aggB_some hu,hs,fun _=>rfl⟩
  ·rename_i hu hs;exact ⟨false,1,aggB_some hu,hs,fun _=>rfl⟩
  ·rename_i hu hs;exact ⟨false,1,aggB_some hu,hs,fun _=>rfl⟩
  ·rename_i fs n hu hs;exact ⟨true,n,aggB_some hu,hs,by simp⟩
  ·rename_i len e n hu hs;exact ⟨true,n,aggB_some hu,hs,by simp⟩
  ·simp at h
theorem scalar_leaf {us vs:List PV} {xs ys:List Value} {base tag:Nat} {x y:Value} {r:Bool} (hx:Ps S us xs) (hy:Ps S vs ys) (e1:xs[base]?=some x) (e2:ys[base]?=some y) (h:leavesEq us vs [(base,tag)]=some r) :
  (tag=1∧∃ k m n,x=.int k m∧y=.int k n∧r=(m == n))∨(tag=0∧∃ m n,x=.bool m∧y=.bool n∧r=(m == n))∨(tag=2∧∃ m n,x=.string m∧y=.string n∧r=(m.toList == n.toList)):=by
 simp only [leavesEq] at h
 split at h
 ·rename_i b q h1 h2
  simp at h2 h;subst h2;simp at h;subst h
  simp only [Option.bind_eq_some_iff] at h1
  obtain ⟨u,hu,v,hv,hs⟩:=h1
  have r1:=hx.2 base u x hu e1
  have r2:=hy.2 base v y hv e2
  unfold scalarEq at hs
  split at hs
  ·split at hs
   ·rename_i hk;subst hk;simp at hs;subst hs;cases r1;cases r2;exact .inl ⟨rfl,_,_,_,rfl,rfl,(beq_dec _ _).symm⟩
   ·simp at hs
  ·simp at hs;subst hs;cases r1;cases r2;exact .inr (.inl ⟨rfl,_,_,rfl,rfl,rfl⟩)
  ·simp at hs;subst hs;cases r1;cases r2;exact .inr (.inr ⟨rfl,_,_,rfl,rfl,rfl⟩)
  ·simp at hs
 ·simp at h
theorem partOf_scalar {t:TypeId} {xs:List Value} {base:Nat} {x:Value} {d:TypeDesc} (hu:P.underlying t=some d) (hd:isAggD d=false) (h:PartOf P t xs base x):xs[base]?=some x:=by
 have hb:=aggB_some hu
 rcases h with ⟨_,h⟩ | ⟨h,_⟩
 ·exact h
 ·rw [hb,hd] at h;simp at h
theorem partOf_agg {t:TypeId} {xs:List Value} {base n:Nat} {x:Value} {d:TypeDesc} (hu:P.underlying t=some d) (hd:isAggD d=true) (hn:sizeO P t=some n) (h:PartOf P t xs base x):x=.agg (xs.toArray.extract base (base+n)):=by
 have hb:=aggB_some hu
 rcases h with ⟨h,_⟩ | ⟨_,m,h1,h2⟩
 ·rw [hb,hd] at h;simp at h
 ·rw [hn] at h1;simp at h1;subst h1;exact h2
def EqAt (P:Program) (S:Snap) (us vs:List PV) (xs ys:List Value) (d:Nat):Prop:=
 ∀ (w:World) (D:Nat) (t:TypeId) (base n:Nat) (ls:List (Nat×Nat)) (x y:Value) (r:Bool),d≤D→leaves P d t base=some ls→sizeO P t=some n→base+n≤xs.length→base+n≤ys.length →
  PartOf P t xs base x→PartOf P t ys base y→leavesEq us vs ls=some r→(Op.equalIn D t x y).run P w=.ok r w
theorem eqFields_ok {us vs:List PV} {xs ys:List Value} {d D n base:Nat} (ih:EqAt P S us vs xs ys d) (hD:d≤D) (hl:base+n≤xs.length) (hl':base+n≤ys.length):∀ {fs:List Field} {ls:List (Nat×Nat)} {r:Bool},leavesF P d n base fs=some ls→leavesEq us vs ls=some r →
  (Op.eqFields D (xs.toArray.extract base (base+n)) (ys.toArray.extract base (base+n)) fs).run P w=.ok r w
 | [],ls,r,h,he=>by simp [leavesF,leavesFg] at h;subst h;simp [leavesEq] at he;subst he;simp [Op.eqFields]
 | f :: fs,ls,r,h,he=>by
  simp only [leavesF,leavesFg] at h
  split at h
  ·rename_i m l q e1 e2 e3
   split at h
   ·rename_i hc
    simp at h;subst h
    obtain ⟨p1,p2,h1,h2,rfl⟩:=leavesEq_append he
    obtain ⟨b,n',hb,hn,h01⟩:=leaves_size1 e2
    rw [e1] at hn;simp at hn;subst hn
    obtain ⟨x,x1,x2⟩:=part_of (P:=P) (w:=w) hb e1 hc.2 h01 hl
    obtain ⟨y,y1,y2⟩:=part_of (P:=P) (w:=w) hb e1 hc.2 h01 hl'
    have hq:=ih w D f.type _ m l x y p1 hD e2 e1 (by omega) (by omega) x2 y2 h1
    have hr:=eqFields_ok ih hD hl hl' (fs:=fs) e3 h2
    simp only [Op.eqFields,if_pos hc.1,Sem.run_bind,x1,y1,hq,Result.andThen_ok,Sem.run_ite]
    cases p1
    ·simp
    ·simpa using hr
   ·simp at h
  ·simp at h
theorem eqArr_ok {us vs:List PV} {xs ys:List Value} {d D n base m len:Nat} {e:TypeId} (ih:EqAt P S us vs xs ys d) (hD:d≤D) (hl:base+n≤xs.length) (hl':base+n≤ys.length) (hm:sizeO P e=some m) (hlen:len*m≤n) :
  ∀ {is:List Nat} {ls:List (Nat×Nat)} {r:Bool},(∀ i∈is,i<len)→leavesA P d e m base is=some ls→leavesEq us vs ls=some r →
  (forIn (m:=Sem) is ((none:Option Bool),()) (fun i _=>do
   let a ←part e (xs.toArray.extract base (base+n)) (i*m)
   let b ←part e (ys.toArray.extract base (base+n)) (i*m)
   let q ←Op.equalIn D e a b
   if (!q)=true then pure (ForInStep.done (some false,())) else pure (ForInStep.yield (none,())))).run P w=.ok (if r then (none,()) else (some false,())) w
 | [],ls,r,hi,h,he=>by simp [leavesA,leavesAg] at h;subst h;simp [leavesEq] at he;subst he;simp
 | i :: is,ls,r,hi,h,he=>by
  simp only [leavesA,leavesAg] at h
  split at h
  ·rename_i l q e2 e3
   simp at h;subst h
   obtain ⟨p1,p2,h1,h2,rfl⟩:=leavesEq_append he
   obtain ⟨b,n',hb,hn,h01⟩:=leaves_size1 e2
   rw [hm] at hn;simp at hn;subst hn
   have hil:i<len:=hi i (by simp)
   have hle:i*m+m≤n:=by
    have:(i+1)*m≤len*m:=Nat.mul_le_mul_right _ hil
    rw [Nat.add_mul] at this;omega
   obtain ⟨x,x1,x2⟩:=part_of (P:=P) (w:=w) hb hm hle h01 hl
   obtain ⟨y,y1,y2⟩:=part_of (P:=P) (w:=w) hb hm hle h01 hl'
   have hq:=ih w D e _ m l x y p1 hD e2 hm (by omega) (by omega) x2 y2 h1
   have hr:=eqArr_ok ih hD hl hl' hm hlen (is:=is) (fun j hj=>hi j (by simp [hj])) e3 h2
   simp only [List.forIn_cons,Sem.run_bind,x1,y1,hq,Result.andThen_ok,Sem.run_ite]
   cases p1
   ·simp
   ·simpa using hr
  ·simp at h
theorem leaves_ok {us vs:List PV} {xs ys:List Value} (hx:Ps S us xs) (hy:Ps S vs ys):∀ d,EqAt P S us vs xs ys d:=by
 intro d
 induction d with
 | zero=>intro w D t base n ls x y r hD h;simp [leaves] at h
 | succ d ih=>
  intro w D t base n ls x y r hD h hn hl hl' px py he
  obtain ⟨D,rfl⟩:∃ D',D=D'+1:=⟨D - 1,by omega⟩
  simp only [leaves] at h
  split at h
  ·rename_i hu hs
   simp at h;subst h
   rcases scalar_leaf hx hy (partOf_scalar hu rfl px) (partOf_scalar hu rfl py) he with ⟨q,_⟩ | ⟨_,m,n,rfl,rfl,rfl⟩ | ⟨q,_⟩
   ·simp at q
   ·exact run_equalIn_bool' w D t m n hu
   ·simp at q
  ·rename_i k hu hs
   simp at h;subst h
   rcases scalar_leaf hx hy (partOf_scalar hu rfl px) (partOf_scalar hu rfl py) he with ⟨_,k,m,n,rfl,rfl,rfl⟩ | ⟨q,_⟩ | ⟨q,_⟩
   ·exact run_equalIn_int w D t k _ m n hu
   ·simp at q
   ·simp at q
  ·rename_i hu hs
   simp at h;subst h
   rcases scalar_leaf hx hy (partOf_scalar hu rfl px) (partOf_scalar hu rfl py) he with ⟨q,_⟩ | ⟨q,_⟩ | ⟨_,m,n,rfl,rfl,rfl⟩
   ·simp at q
   ·simp at q
   ·exact run_equalIn_string w D t m n hu
  ·rename_i fs n' hu hs
   rw [hn] at hs;simp at hs;subst hs
   split at h
   ·rename_i hst
    have ex:=partOf_agg hu rfl hn px
    have ey:=partOf_agg hu rfl hn py
    subst ex;subst ey
    have hfo:P.fieldsOf t=fs:=by simp [Program.fieldsOf,hu]
    rw [run_equalIn_agg w D t _ _ (by rw [hfo];exact hu) hst,hfo]
    exact eqFields_ok ih (by omega) hl hl' h he
   ·simp at h
  ·rename_i len e n' hu hs
   rw [hn] at hs;simp at hs;subst hs
   split at h
   ·rename_i m hm
    split at h
    ·rename_i hlen
     have ex:=partOf_agg hu rfl hn px
     have ey:=partOf_agg hu rfl hn py
     subst ex;subst ey
     have key:=eqArr_ok (w:=w) ih (by omega:d≤D) hl hl' hm hlen (is:=List.range' 0 len) (fun i hi=>by simpa using hi) h he
     simp only [Op.equalIn,Sem.run_bind,run_underlying hu,Result.andThen_ok,sizeO_run hm]
     rw [Std.Legacy.Range.forIn_eq_forIn_range']
     simp only [Std.Legacy.Range.size,Nat.sub_zero,Nat.add_sub_cancel,Nat.div_one]
     rw [key]
     cases r<;>rfl
    ·simp at h
   ·simp at h
  ·simp at h
end
end Go.Abs
