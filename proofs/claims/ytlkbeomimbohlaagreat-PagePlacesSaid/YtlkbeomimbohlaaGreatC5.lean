/- A part of the proof: an abstract reading of the model, contracts of functions. -/
import Derived.Test.YtlkbeomimbohlaaGreatC4
namespace Go.Abs
open Go
set_option linter.unusedSimpArgs false
set_option linter.unusedVariables false
inductive Res where
 | p (v:PV)
 | own (v:Slot→AV) (k:Blk)
def ResAt (w:World) (S':Snap) (w':World) (x:Value):Res→Prop
 | .p v=>PRel S' v x
 | .own v k=>∃ r:Option (Nat×Nat),(∀ b t,r=some (b,t)→w.heap.size≤b∧∀ a:Addr,a.block=b→S' a=none) ∧
   ∀ (ι:Inj) (s:Slot),ι s=r→AVRel ι S' (v s) x∧BRel ι S' w' s k
def Best (P:Program) (f:FuncId) (args:List PV) (res:Res):Prop:=
 (∃ fn,P.funcs[f]?=some fn∧fn.body.isSome=true∧(fn.name == "runtime.NumGoroutine")=false) ∧
 ∀ (S:Snap) (w:World) (xs:List Value),S.holds w→Ps S args xs→Calls P f xs.toArray w fun e w'=>
  ∃ (x:Value) (S':Snap),e=.returned x∧Keep w w'∧S.le S'∧S'.holds w'∧(∀ a v,S' a=some v→S a=some v∨w.heap.size≤a.block)∧ResAt w S' w' x res
mutual
def PV.flat:PV→Bool
 | .int _ _ | .bool _ | .str _ | .nsl | .nptr | .nfn | .nif=>true
 | .agg cs=>PV.flatL cs
 | .tup cs=>PV.flatL cs
 | _=>false
def PV.flatL:List PV→Bool
 | []=>true
 | p :: l=>p.flat && PV.flatL l
end
theorem PV.flatL_get:∀ {l:List PV} {j:Nat} {p:PV},PV.flatL l=true→l[j]?=some p→p.flat=true
 | [],_,_,_,h=>by simp at h
 | x :: l,0,p,h,e=>by simp [PV.flatL] at h e;exact e ▸ h.1
 | x :: l,j+1,p,h,e=>by simp [PV.flatL] at h e;exact PV.flatL_get h.2 e
theorem PRel.flat {S S':Snap} {p:PV} {x:Value} (h:PRel S p x) (hf:p.flat=true):PRel S' p x:=by
 induction h with
 | int k n=>exact .int k n
 | bool b=>exact .bool b
 | str s=>exact .str s
 | nsl=>exact .nsl
 | sl size rows a cap f hcap hsz hcell hrel ih=>simp [PV.flat] at hf
 | nptr=>exact .nptr
 | ro cells a f hcell hrel ih=>simp [PV.flat] at hf
 | nfn=>exact .nfn
 | clo fn first captured fs cs hf' hc h1 h2 ih1 ih2=>simp [PV.flat] at hf
 | agg cells vs hl h ih=>exact .agg cells vs hl fun j p v e1 e2=>ih j p v e1 e2 (PV.flatL_get (by simpa [PV.flat] using hf) e1)
 | tup cells vs hl h ih=>exact .tup cells vs hl fun j p v e1 e2=>ih j p v e1 e2 (PV.flatL_get (by simpa [PV.flat] using hf) e1)
 | nif=>exact .nif
 | ifc t p v h ih=>simp [PV.flat] at hf
def FF.reify (F:FF):Nat→AV→Option PV
 | _,.p v=>some v
 | _,.ref s size off len=>(F.rows size (.ref s size off len)).map (.sl size)
 | 0,_=>none
 | n+1,.ptr s size row off=>match F.blk s with
  | some (.sl _ sz rows)=>if sz=size then (rows[row]?).map fun r=>.ro (r.drop off) else none
  | some (.box cells)=>if row=0 then ((cells.drop off).mapM (FF.reify F n)).map .ro else none
  | none=>none
 | n+1,.agg cells=>(cells.mapM (FF.reify F n)).map .agg
 | n+1,.tup cells=>(cells.mapM (FF.reify F n)).map .tup
 | n+1,.clo fn first captured=>match first.mapM (FF.reify F n),captured.mapM (FF.reify F n) with
  | some f,some c=>some (.clo fn f c)
  | _,_=>none
 | _,.top=>none
theorem mapM_some {α β:Type} {f:α→Option β}:∀ {l:List α} {r:List β},l.mapM f=some r→r.length=l.length∧∀ (j:Nat) (b:β),r[j]?=some b→∃ a,l[j]?=some a∧f a=some b
 | [],r,h=>by simp at h;subst h;simp
 | x :: l,r,h=>by
  simp only [List.mapM_cons,Option.bind_eq_bind,Option.bind_eq_some_iff,Option.pure_def,Option.some.injEq] at h
  obtain ⟨y,h1,ys,h2,rfl⟩:=h
  obtain ⟨h3,h4⟩:=mapM_some h2
  refine ⟨by simp [h3],fun j b e=>?_⟩
  cases j with
  | zero=>simp at e;subst e;exact ⟨x,rfl,h1⟩
  | succ j=>simp at e ⊢;exact h4 j b e
section
variable {P:Program} {N:Nat} {w0:Base} {ι:Inj} {S:Snap} {F:FF} {a:Act} {w:World}
def full (w:World):Snap:=fun a=>w.cell? a
theorem rows_T (h:St N w0 ι S F a w) {T:Snap} (hS:S.le T) (hT:∀ s k b t,F.blk s=some k→ι s=some (b,t)→∀ a:Addr,a.block=b→∀ u,w.cell? a=some u→T a=some u) {x:AV} {v:Value} {size:Nat} {rows:List (List PV)} (hx:AVRel ι S x v) (e:F.rows size x=some rows) (hs:0<size∨∃ s off len,x=.ref s size off len):PRel T (.sl size rows) v:=by
 unfold FF.rows at e
 split at e
 ·simp at e;subst e
  cases hx.inv_p
  exact .sl size [] none 0 (fun _ _=>undef) (Nat.le_refl _) (by simp) (by simp) (by simp)
 ·rename_i sz rows'
  split at e
  ·rename_i hsz;subst hsz
   simp at e;subst e
   exact hx.inv_p.mono hS
  ·simp at e
 ·rename_i s sz off len
  split at e
  ·rename_i e0 sz' rows' hb
   split at e
   ·rename_i hc
    obtain ⟨rfl,rfl,hle⟩:=hc
    simp at e;subst e
    obtain ⟨hwf,hm⟩:=h.mem s _ hb
    have hget:∀ i,((rows'.drop off).take len)[i]?=if i<len then rows'[off+i]? else none:=by
     intro i;simp [List.getElem?_take,List.getElem?_drop]
    have hlen:((rows'.drop off).take len).length=len:=by simp;omega
    have hwf':∀ (i:Nat) (row:List PV),((rows'.drop off).take len)[i]?=some row→row.length=sz':=fun i row e1=>by
     rw [hget] at e1
     split at e1
     ·exact hwf _ row e1
     ·simp at e1
    cases hx with
    | ref _ _ _ _ b total cap p hi hct hl ha=>
     have hcell:∀ (i:Nat) (row:List PV) (j:Nat) (pv:PV),((rows'.drop off).take len)[i]?=some row→row[j]?=some pv→∃ u,w.cell? (p.add (i*sz'+j))=some u∧PRel S pv u:=by
      intro i row j pv e1 e2
      have hlt:i<len:=by have:=(List.getElem?_eq_some_iff.1 e1).1;omega
      have hp:p=⟨b,off*sz',none⟩:=by
       rcases ha with h0 | h0
       ·omega
       ·exact h0
      subst hp
      rw [hget,if_pos hlt] at e1
      rcases hm with ⟨q,_⟩ | ⟨b',t',e',c,q1,q2,q3,q4,q5,q6,q7⟩
      ·rw [hi] at q;simp at q
      ·rw [hi] at q1;simp at q1;obtain ⟨rfl,rfl⟩:=q1
       obtain ⟨u,u1,u2⟩:=q7 (off+i) j (.p pv) (by simp [Blk.cell,e1,e2])
       refine ⟨u,?_,u2.inv_p⟩
       rw [addr_add,q2.cell,←u1]
       congr 1
       simp only [Blk.size,Nat.add_mul,Nat.add_assoc]
     have hpb:∀ (i:Nat) (row:List PV) (j:Nat) {pv:PV},((rows'.drop off).take len)[i]?=some row→row[j]?=some pv→p=⟨b,off*sz',none⟩:=by
      intro i row j pv e1 e2
      have hlt:i<len:=by have:=(List.getElem?_eq_some_iff.1 e1).1;omega
      rcases ha with h0 | h0
      ·omega
      ·exact h0
     have:=PRel.sl (S:=T) sz' ((rows'.drop off).take len) (some p) cap (fun i j=>(w.cell? (p.add (i*sz'+j))).getD undef) (by omega) hwf'
      (fun i row j pv e1 e2=>by
       obtain ⟨u,u1,_⟩:=hcell i row j pv e1 e2
       exact ⟨p,rfl,hT s _ b total hb hi _ (by rw [hpb i row j e1 e2,addr_add]) _ (by rw [u1];rfl)⟩)
      (fun i row j pv e1 e2=>by
       obtain ⟨u,u1,u2⟩:=hcell i row j pv e1 e2
       simp only [u1,Option.getD_some]
       exact u2.mono hS)
     rw [hlen] at this
     exact this
    | refnil _ _ hi=>
     simp
     exact .sl sz' [] none 0 (fun _ _=>undef) (Nat.le_refl _) (by simp) (by simp) (by simp)
   ·simp at e
  ·simp at e
 ·simp at e
theorem reify_T (h:St N w0 ι S F a w) {T:Snap} (hS:S.le T) (hT:∀ s k b t,F.blk s=some k→ι s=some (b,t)→∀ a:Addr,a.block=b→∀ u,w.cell? a=some u→T a=some u):∀ (n:Nat) {v:AV} {p:PV} {x:Value},F.reify n v=some p→AVRel ι S v x→PRel T p x:=by
 have base:∀ (n:Nat) {v:AV} {p:PV} {x:Value},(∃ q,v=.p q)∨(∃ s size off len,v=.ref s size off len)→F.reify n v=some p→AVRel ι S v x→PRel T p x:=by
  intro n v p x hv e hx
  rcases hv with ⟨q,rfl⟩ | ⟨s,size,off,len,rfl⟩
  ·cases n<;>(simp only [FF.reify,Option.some.injEq] at e;subst e;exact hx.inv_p.mono hS)
  ·have:(F.rows size (.ref s size off len)).map (PV.sl size)=some p:=by cases n<;>simpa only [FF.reify] using e
   simp only [Option.map_eq_some_iff] at this
   obtain ⟨rows,h1,rfl⟩:=this
   exact rows_T h hS hT hx h1 (.inr ⟨s,off,len,rfl⟩)
 intro n
 induction n with
 | zero=>
  intro v p x e hx
  cases v with
  | p q=>exact base 0 (.inl ⟨q,rfl⟩) e hx
  | ref s size off len=>exact base 0 (.inr ⟨s,size,off,len,rfl⟩) e hx
  | _=>simp [FF.reify] at e
 | succ n ih=>
  have ihL:∀ {vs:List AV} {ps:List PV} {xs:List Value},vs.mapM (FF.reify F n)=some ps→Rs ι S vs xs→Ps T ps xs:=by
   intro vs ps xs e hr
   obtain ⟨h1,h2⟩:=mapM_some e
   refine ⟨by rw [h1];exact hr.1,fun j q u e1 e2=>?_⟩
   obtain ⟨v,e3,e4⟩:=h2 j q e1
   exact ih e4 (hr.2 j v u e3 e2)
  intro v p x e hx
  cases v with
  | p q=>exact base _ (.inl ⟨q,rfl⟩) e hx
  | ref s size off len=>exact base _ (.inr ⟨s,size,off,len,rfl⟩) e hx
  | ptr s size row off=>
   simp only [FF.reify] at e
   cases hx with
   | ptr _ _ _ _ b total hi=>
    split at e
    ·rename_i t sz rows hb
     split at e
     ·rename_i hsz;subst hsz
      simp only [Option.map_eq_some_iff] at e
      obtain ⟨r,hr,rfl⟩:=e
      obtain ⟨hwf,hm⟩:=h.mem s _ hb
      rcases hm with ⟨q,_⟩ | ⟨b',t',e',c,q1,q2,q3,q4,q5,q6,q7⟩
      ·rw [hi] at q;simp at q
      ·rw [hi] at q1;simp at q1;obtain ⟨rfl,rfl⟩:=q1
       have hcell:∀ (j:Nat) (pv:PV),(r.drop off)[j]?=some pv→∃ u,w.cell? ((⟨b,row*sz+off,none⟩:Addr).add j)=some u∧PRel S pv u:=by
        intro j pv e1
        rw [List.getElem?_drop] at e1
        obtain ⟨u,u1,u2⟩:=q7 row (off+j) (.p pv) (by simp [Blk.cell,hr,e1])
        refine ⟨u,?_,u2.inv_p⟩
        rw [addr_add,q2.cell,←u1]
        simp only [Blk.size,Nat.add_assoc]
       exact .ro _ _ (fun j=>(w.cell? ((⟨b,row*sz+off,none⟩:Addr).add j)).getD undef) (fun j pv e1=>by obtain ⟨u,u1,_⟩:=hcell j pv e1;exact hT s _ b total hb hi _ (by rw [addr_add]) _ (by rw [u1];rfl)) (fun j pv e1=>by
        obtain ⟨u,u1,u2⟩:=hcell j pv e1
        simp only [u1,Option.getD_some];exact u2.mono hS)
     ·simp at e
    ·rename_i cells hb
     split at e
     ·rename_i hrow;subst hrow
      simp only [Option.map_eq_some_iff] at e
      obtain ⟨ps,hps,rfl⟩:=e
      obtain ⟨h1,h2⟩:=mapM_some hps
      obtain ⟨hwf,hm⟩:=h.mem s _ hb
      rcases hm with ⟨q,_⟩ | ⟨b',t',e',c,q1,q2,q3,q4,q5,q6,q7⟩
      ·rw [hi] at q;simp at q
      ·rw [hi] at q1;simp at q1;obtain ⟨rfl,rfl⟩:=q1
       have hcell:∀ (j:Nat) (pv:PV),ps[j]?=some pv→∃ u,w.cell? ((⟨b,0*size+off,none⟩:Addr).add j)=some u∧PRel T pv u:=by
        intro j pv e1
        obtain ⟨v,e2,e3⟩:=h2 j pv e1
        rw [List.getElem?_drop] at e2
        obtain ⟨u,u1,u2⟩:=q7 0 (off+j) v (by simp [Blk.cell,e2])
        refine ⟨u,?_,ih e3 u2⟩
        rw [addr_add,q2.cell,←u1]
        simp only [Nat.zero_mul,Nat.zero_add]
       exact .ro _ _ (fun j=>(w.cell? ((⟨b,0*size+off,none⟩:Addr).add j)).getD undef) (fun j pv e1=>by obtain ⟨u,u1,_⟩:=hcell j pv e1;exact hT s _ b total hb hi _ (by rw [addr_add]) _ (by rw [u1];rfl)) (fun j pv e1=>by
        obtain ⟨u,u1,u2⟩:=hcell j pv e1
        simp only [u1,Option.getD_some];exact u2)
     ·simp at e
    ·simp at e
  | agg cells=>
   simp only [FF.reify,Option.map_eq_some_iff] at e
   obtain ⟨ps,hps,rfl⟩:=e
   cases hx with
   | agg _ vs hl hh=>exact .agg ps vs (ihL hps ⟨hl,hh⟩).1 (ihL hps ⟨hl,hh⟩).2
  | tup cells=>
   simp only [FF.reify,Option.map_eq_some_iff] at e
   obtain ⟨ps,hps,rfl⟩:=e
   cases hx with
   | tup _ vs hl hh=>exact .tup ps vs (ihL hps ⟨hl,hh⟩).1 (ihL hps ⟨hl,hh⟩).2
  | clo fn first captured=>
   simp only [FF.reify] at e
   split at e
   ·rename_i f c h1 h2
    simp at e;subst e
    cases hx with
    | clo _ _ _ fs cs hf hc g1 g2=>
     have r1:=ihL h1 ⟨hf,g1⟩
     have r2:=ihL h2 ⟨hc,g2⟩
     exact .clo fn f c fs cs r1.1 r2.1 r1.2 r2.2
   ·simp at e
  | top=>simp [FF.reify] at e
theorem reify_ok (h:St N w0 ι S F a w) (n:Nat) {v:AV} {p:PV} {x:Value} (e:F.reify n v=some p) (hx:AVRel ι S v x):PRel (full w) p x:=
 reify_T h (fun a u q=>h.snap a u q) (fun _ _ _ _ _ _ _ _ u q=>q) n e hx
def FF.reifyL (F:FF) (vs:List AV):Option (List PV):=vs.mapM (F.reify 4)
theorem reifyL_ok (h:St N w0 ι S F a w) {vs:List AV} {ps:List PV} {xs:List Value} (e:F.reifyL vs=some ps) (hr:Rs ι S vs xs):Ps (full w) ps xs:=by
 obtain ⟨h1,h2⟩:=mapM_some e
 refine ⟨by rw [h1];exact hr.1,fun j q u e1 e2=>?_⟩
 obtain ⟨v,e3,e4⟩:=h2 j q e1
 exact reify_ok h 4 e4 (hr.2 j v u e3 e2)
def Res.del (d:Nat):Res→Del
 | .p v=>⟨.p v,[],[]⟩
 | .own v k=>⟨v (d,0),[((d,0),k)],[]⟩
mutual
def AV.among (l:List Slot):AV→Bool
 | .p _=>true
 | .ref s _ _ _=>decide (s∈l)
 | .ptr s _ _ _=>decide (s∈l)
 | .agg cs=>AV.amongL l cs
 | .tup cs=>AV.amongL l cs
 | .clo _ f c=>AV.amongL l f && AV.amongL l c
 | .top=>true
def AV.amongL (l:List Slot):List AV→Bool
 | []=>true
 | v :: vs=>v.among l && AV.amongL l vs
end
def Blk.among (l:List Slot):Blk→Bool
 | .sl _ _ _=>true
 | .box cells=>AV.amongL l cells
theorem AV.amongL_get {l:List Slot}:∀ {vs:List AV} {j:Nat} {v:AV},AV.amongL l vs=true→vs[j]?=some v→v.among l=true
 | [],j,v,h,e=>by simp at e
 | x :: vs,0,v,h,e=>by simp [AV.amongL] at h e;exact e ▸ h.1
 | x :: vs,j+1,v,h,e=>by simp [AV.amongL] at h e;exact AV.amongL_get h.2 e
theorem AVRel.among {ι ι':Inj} {S:Snap} {l:List Slot} (hi:∀ s∈l,ι' s=ι s) {p:AV} {v:Value} (r:AVRel ι S p v) (hn:p.among l=true):AVRel ι' S p v:=by
 induction r with
 | p v x h=>exact .p v x h
 | ref s size off len b total cap a h1 hc hl ha=>exact .ref s size off len b total cap a (by rw [hi s (by simpa [AV.among] using hn)];exact h1) hc hl ha
 | refnil s size h1=>exact .refnil s size (by rw [hi s (by simpa [AV.among] using hn)];exact h1)
 | ptr s size row off b total h1=>exact .ptr s size row off b total (by rw [hi s (by simpa [AV.among] using hn)];exact h1)
 | agg cells vs hl h ih=>exact .agg cells vs hl fun j p v h1 h2=>ih j p v h1 h2 (AV.amongL_get (by simpa [AV.among] using hn) h1)
 | tup cells vs hl h ih=>exact .tup cells vs hl fun j p v h1 h2=>ih j p v h1 h2 (AV.amongL_get (by simpa [AV.among] using hn) h1)
 | clo fn first captured fs cs hf hc h1 h2 ih1 ih2=>
  simp [AV.among] at hn
  exact .clo fn first captured fs cs hf hc (fun j p v e1 e2=>ih1 j p v e1 e2 (AV.amongL_get hn.1 e1)) (fun j p v e1 e2=>ih2 j p v e1 e2 (AV.amongL_get hn.2 e1))
 | top x=>exact .top x
theorem Blk.cell_among {l:List Slot} {k:Blk} (h:k.among l=true) {i j:Nat} {av:AV} (e:k.cell i j=some av):av.among l=true:=by
 cases k with
 | sl _ _ rows=>
  simp only [Blk.cell,Option.map_eq_some_iff] at e
  obtain ⟨p,_,rfl⟩:=e
  rfl
 | box cells=>
  simp only [Blk.cell] at e
  split at e
  ·exact AV.amongL_get h e
  ·simp at e
theorem BRel.among {ι ι':Inj} {S:Snap} {w:World} {s:Slot} {k:Blk} {l:List Slot} (hi:∀ s∈l,ι' s=ι s) (hs:ι' s=ι s) (hn:k.among l=true) (h:BRel ι S w s k):BRel ι' S w s k:=by
 obtain ⟨h0,h⟩:=h
 refine ⟨h0,?_⟩
 rw [hs]
 exact h.imp id fun ⟨b,total,t,c,h1,h2,h3,h4,h5,h6,h7⟩=>⟨b,total,t,c,h1,h2,h3,h4,h5,h6,fun i j av e=>let ⟨v,e1,e2⟩:=h7 i j av e;⟨v,e1,e2.among hi (Blk.cell_among hn e)⟩⟩
theorem AVRel.fresh {ι ι':Inj} {S:Snap} {q:Slot→Prop} (hi:∀ s,¬q s→ι' s=ι s) {p:AV} {v:Value} (r:AVRel ι S p v) (hn:∀ s,q s→p.noSlot s=true):AVRel ι' S p v:=by
 induction r with
 | p v x h=>exact .p v x h
 | ref s size off len b total cap a h1 hc hl ha=>exact .ref s size off len b total cap a (by rw [hi s (fun e=>by have:=hn s e;simp [AV.noSlot] at this)];exact h1) hc hl ha
 | refnil s size h1=>exact .refnil s size (by rw [hi s (fun e=>by have:=hn s e;simp [AV.noSlot] at this)];exact h1)
 | ptr s size row off b total h1=>exact .ptr s size row off b total (by rw [hi s (fun e=>by have:=hn s e;simp [AV.noSlot] at this)];exact h1)
 | agg cells vs hl h ih=>exact .agg cells vs hl fun j p v h1 h2=>ih j p v h1 h2 fun s hs=>AV.noSlotL_get (by simpa [AV.noSlot] using hn s hs) h1
 | tup cells vs hl h ih=>exact .tup cells vs hl fun j p v h1 h2=>ih j p v h1 h2 fun s hs=>AV.noSlotL_get (by simpa [AV.noSlot] using hn s hs) h1
 | clo fn first captured fs cs hf hc h1 h2 ih1 ih2=>
  simp [AV.noSlot] at hn
  exact .clo fn first captured fs cs hf hc (fun j p v e1 e2=>ih1 j p v e1 e2 fun s hs=>AV.noSlotL_get (hn s.1 s.2 hs).1 e1) (fun j p v e1 e2=>ih2 j p v e1 e2 fun s hs=>AV.noSlotL_get (hn s.1 s.2 hs).2 e1)
 | top x=>exact .top x
theorem BRel.fresh {ι ι':Inj} {S:Snap} {w:World} {s:Slot} {k:Blk} {q:Slot→Prop} (hi:∀ s,¬q s→ι' s=ι s) (hs:ι' s=ι s) (hn:∀ s,q s→k.noSlot s=true) (h:BRel ι S w s k):BRel ι' S w s k:=by
 obtain ⟨h0,h⟩:=h
 refine ⟨h0,?_⟩
 rw [hs]
 exact h.imp id fun ⟨b,total,t,c,h1,h2,h3,h4,h5,h6,h7⟩=>⟨b,total,t,c,h1,h2,h3,h4,h5,h6,fun i j av e=>let ⟨v,e1,e2⟩:=h7 i j av e;⟨v,e1,e2.fresh hi fun s hs=>Blk.cell_noSlot (hn s hs) e⟩⟩
structure Pl (ι:Inj) (S:Snap) (w:World) (M:List (Slot×Blk)):Prop where
 mem:∀ s k,look s M=some k→BRel ι S w s k
 own:∀ s k,look s M=some k→∀ b t,ι s=some (b,t)→∀ x:Addr,x.block=b→S x=none
 sep:∀ s s' k k',look s M=some k→look s' M=some k'→s≠s'→∀ b t b' t',ι s=some (b,t)→ι s'=some (b',t')→b≠b'
def Lent (ι:Inj) (M:List (Slot×Blk)) (b:Nat):Prop:=∃ s k t,look s M=some k∧ι s=some (b,t)
def BestF (P:Program) (f:FuncId) (M0:List (Slot×Blk)) (args:List AV) (K:List Slot) (v:AV) (M1:List (Slot×Blk)):Prop:=
 (∃ fn,P.funcs[f]?=some fn∧fn.body.isSome=true∧(fn.name == "runtime.NumGoroutine")=false) ∧
 ∀ (ι:Inj) (S:Snap) (w:World) (xs:List Value),S.holds w→Pl ι S w M0→Rs ι S args xs→Calls P f xs.toArray w fun e w'=>
  ∃ (x:Value) (ι':Inj) (S':Snap),e=.returned x∧KeepX (Lent ι M0) w w'∧S.le S'∧S'.holds w'∧(∀ a v,S' a=some v→S a=some v∨w.heap.size≤a.block∨Lent ι M0 a.block) ∧
   AVRel ι' S' v x∧Pl ι' S' w' M1∧(∀ s∈K,ι' s=ι s)∧∀ s k,look s M1=some k→∀ b t,ι' s=some (b,t)→w.heap.size≤b∨Lent ι M0 b
def okF (M0:List (Slot×Blk)) (K:List Slot) (v:AV) (M1:List (Slot×Blk)):Bool:=
 K.all (fun s=>(look s M0).isSome && (look s M1).isSome) && (M1.all (fun x=>decide (x.1∈K) || (!decide (fixS x.1) && (look x.1 M0).isNone)) && (v.among (M1.map (·.1)) && M1.all fun x=>x.2.among (M1.map (·.1))))
def exCall (P:Program) (F:FF) (d:Nat) (f:FuncId) (vs:List AV) (δ:Del):Prop:=
 (∃ ps r,allP vs=some ps∧Best P f ps r∧δ=r.del d)∨(∃ ps v,F.reifyL vs=some ps∧Best P f ps (.p v)∧v.flat=true∧δ=⟨.p v,[],[]⟩) ∨
  (∃ M0 K v M1,(∀ s k,look s M0=some k→F.blk s=some k)∧BestF P f M0 vs K v M1∧okF M0 K v M1=true∧δ=⟨v,M1,M0.map (·.1)⟩) ∨
  ∃ ps e sz rows,F.reifyL vs=some ps∧Best P f ps (.own (fun s=>.ref s sz 0 rows.length) (.sl e sz rows))∧(rows.all fun r=>r.all PV.flat)=true∧δ=⟨.p (.sl sz rows),[],[]⟩
def snap2 (S:Snap) (r:Option (Nat×Nat)) (w:World):Snap:=fun y=>match S y with
 | some v=>some v
 | none=>match r with
  | some (b,_)=>if y.block=b then w.cell? y else none
  | none=>none
theorem own_flat {r:Option (Nat×Nat)} {S' S2:Snap} {w':World} {x:Value} {e:TypeId} {sz len:Nat} {rows:List (List PV)} (hlen:len=rows.length) (hf:(rows.all fun r=>r.all PV.flat)=true)
  (q1:AVRel (fun _=>r) S' (.ref (0,0) sz 0 len) x) (q2:BRel (fun _=>r) S' w' (0,0) (.sl e sz rows)) (hS2:∀ b t,r=some (b,t)→∀ y:Addr,y.block=b→S2 y=w'.cell? y):PRel S2 (.sl sz rows) x:=by
 cases q1 with
 | ref _ _ _ _ b total cap a hi hc hl ha=>
  obtain ⟨hwf,hm⟩:=q2
  have hcell:∀ (i:Nat) (row:List PV) (j:Nat) (pv:PV),rows[i]?=some row→row[j]?=some pv→∃ u,S2 (a.add (i*sz+j))=some u∧PRel S2 pv u:=by
   intro i row j pv e1 e2
   have hlt:i<rows.length:=(List.getElem?_eq_some_iff.1 e1).1
   have hp:a=⟨b,0*sz,none⟩:=by
    rcases ha with h0 | h0
    ·omega
    ·exact h0
   subst hp
   rcases hm with ⟨q,_⟩ | ⟨b',t',e',c,p1,p2,p3,p4,p5,p6,p7⟩
   ·simp only at q hi;rw [hi] at q;simp at q
   ·simp only at p1 hi;rw [hi] at p1;simp at p1;obtain ⟨rfl,rfl⟩:=p1
    obtain ⟨u,u1,u2⟩:=p7 i j (.p pv) (by simp [Blk.cell,e1,e2])
    have hpf:pv.flat=true:=by
     rw [List.all_eq_true] at hf
     have:=hf row (List.mem_of_getElem? e1)
     rw [List.all_eq_true] at this
     exact this pv (List.mem_of_getElem? e2)
    refine ⟨u,?_,u2.inv_p.flat hpf⟩
    rw [hS2 b total hi _ (by rw [addr_add]),addr_add,p2.cell,←u1]
    congr 1
    simp only [Blk.size,Nat.zero_mul,Nat.zero_add]
  have:=PRel.sl (S:=S2) sz rows (some a) cap (fun i j=>(S2 (a.add (i*sz+j))).getD undef) (by omega) hwf
   (fun i row j pv e1 e2=>by
    obtain ⟨u,u1,_⟩:=hcell i row j pv e1 e2
    exact ⟨a,rfl,by rw [u1];rfl⟩)
   (fun i row j pv e1 e2=>by
    obtain ⟨u,u1,u2⟩:=hcell i row j pv e1 e2
    simp only [u1,Option.getD_some]
    exact u2)
  rw [hlen]
  exact this
 | refnil _ _ hi=>
  have:rows=[]:=List.length_eq_zero_iff.1 hlen.symm
  subst this
  exact .sl sz [] none 0 (fun _ _=>undef) (Nat.le_refl _) (by simp) (by simp) (by simp)
theorem exCall_ok (h:St N w0 ι S F a w) {d:Nat} {f:FuncId} {vs:List AV} {xs:List Value} {δ:Del} {dst:Option Nat} (hex:exCall P F d f vs δ) (hr:Rs ι S vs xs) (hd:∀ s k,(s,k)∈δ.blks→s ∉ δ.del→F.noSlot s) (hdb:d<BIG) (hdst:∀ d,dst=some d→d<N) :
  (∃ fn,P.funcs[f]?=some fn∧fn.body.isSome=true∧(fn.name == "runtime.NumGoroutine")=false) ∧
  Calls P f xs.toArray w fun e w'=>∃ x ι' S',e=.returned x∧St N w0 ι' S' (F.app dst δ) (a.put dst x) w':=by
 rcases hex with ⟨ps,r,h1,h2,rfl⟩ | ⟨ps,v,h1,h2,h3,rfl⟩ | ⟨M0,K,v,M1,hM,hB,hok,rfl⟩ | ⟨ps,e0,sz,rows,h1,h2,h3,rfl⟩
 rotate_left 3
 ·refine ⟨h2.1,(h2.2 (full w) w xs (fun _ _ q=>q) (reifyL_ok h h1 hr)).mono ?_⟩
  rintro e w' ⟨x,S',rfl,hk,hS,hS',hnew,r,hr1,hr2⟩
  obtain ⟨q1,q2⟩:=hr2 (fun _=>r) (0,0) rfl
  obtain ⟨S2,hS2⟩:∃ S2:Snap,S2=snap2 S r w':=⟨_,rfl⟩
  unfold snap2 at hS2
  have g1:S.le S2:=fun y v q=>by rw [hS2];simp only [q]
  have g2:S2.holds w':=fun y v q=>by
   rw [hS2] at q
   dsimp only at q
   split at q
   ·rename_i u hu
    rw [←q];exact hk.cell (h.snap y u hu)
   ·split at q
    ·split at q
     ·exact q
     ·simp at q
    ·simp at q
  have g3:∀ y v,S2 y=some v→S y=some v∨w.heap.size≤y.block:=fun y v q=>by
   rw [hS2] at q
   dsimp only at q
   split at q
   ·rename_i u hu
    exact .inl (by rw [hu,q])
   ·split at q
    ·rename_i b t
     split at q
     ·rename_i hb
      exact .inr (by rw [hb];exact (hr1 b t rfl).1)
     ·simp at q
    ·simp at q
  have g4:∀ b t,r=some (b,t)→∀ y:Addr,y.block=b→S2 y=w'.cell? y:=fun b t e y hy=>by
   rw [hS2]
   dsimp only
   split
   ·rename_i u hu
    exact (hk.cell (h.snap y u hu)).symm
   ·subst e;simp [hy]
  have hpr:=own_flat (S2:=S2) rfl h3 q1 q2 g4
  refine ⟨x,ι,S2,rfl,?_⟩
  have hst:=h.step0 (S':=S2) hk g1 g2 g3
  have:=hst.put (dst:=dst) (v:=.p (.sl sz rows)) (x:=x) (.p _ _ hpr) hdst
  have e:F.app dst ⟨.p (.sl sz rows),[],[]⟩={ F with var:=fun t=>if dst=some t then some (.p (.sl sz rows)) else F.var t }:=by
   unfold FF.app;congr 1
  rw [e];exact this
 ·refine ⟨h2.1,(h2.2 S w xs h.snap (hr.toPs h1)).mono ?_⟩
  rintro e w' ⟨x,S',rfl,hk,hS,hS',hnew,hres⟩
  cases r with
  | p v=>
   refine ⟨x,ι,S',rfl,?_⟩
   have hst:=h.step0 hk hS hS' hnew
   have:=hst.put (dst:=dst) (v:=.p v) (x:=x) (.p _ _ hres) hdst
   have e:F.app dst ⟨.p v,[],[]⟩={ F with var:=fun t=>if dst=some t then some (.p v) else F.var t }:=by
    unfold FF.app;congr 1
   simp only [Res.del]
   rw [e];exact this
  | own v k=>
   obtain ⟨r,hr1,hr2⟩:=hres
   have hns:=hd (d,0) k (by simp [Res.del]) (by simp [Res.del])
   refine ⟨x,setι ι (d,0) r,S',rfl,?_⟩
   have hst:=h.step (ι':=setι ι (d,0) r) (d,0) hk hS hS' hnew (fun s hs=>setι_ne hs) hns (not_fix hdb)
   obtain ⟨q1,q2⟩:=hr2 (setι ι (d,0) r) (d,0) setι_eq
   have hlay:=hst.lay (d,0) k q2 (fun b t q=>by
    rw [setι_eq] at q
    refine ⟨.inl (Nat.le_trans h.keep.size (hr1 b t q).1),(hr1 b t q).2,fun s' k' g1 g2 b' t' g3=>?_⟩
    rw [setι_ne g2] at g3
    rcases (h.mem s' k' g1).2 with ⟨q4,_⟩ | ⟨b2,t2,e2,c2,q4,q5,_⟩
    ·rw [g3] at q4;simp at q4
    ·rw [g3] at q4;simp at q4
     have:=q5.lt
     have:=(hr1 b t q).1
     omega)
   have:=hlay.put (dst:=dst) q1 hdst
   have e:=FF.app_append (F:=F) (dst:=dst) (s:=(d,0)) (s1:=(d,0)) (k:=k) (v:=v (d,0)) (del:=[]) (by simp)
   simp only [Res.del]
   rw [e]
   simpa using this
 ·refine ⟨h2.1,(h2.2 (full w) w xs (fun _ _ q=>q) (reifyL_ok h h1 hr)).mono ?_⟩
  rintro e w' ⟨x,S',rfl,hk,hS,hS',hnew,hres⟩
  refine ⟨x,ι,S,rfl,?_⟩
  have hst:=h.step0 (S':=S) hk (fun _ _ q=>q) (fun y v q=>hk.cell (h.snap y v q)) (fun y v q=>.inl q)
  have:=hst.put (dst:=dst) (v:=.p v) (x:=x) (.p _ _ (hres.flat h3)) hdst
  have e:F.app dst ⟨.p v,[],[]⟩={ F with var:=fun t=>if dst=some t then some (.p v) else F.var t }:=by
   unfold FF.app;congr 1
  rw [e];exact this
 ·simp only [okF,Bool.and_eq_true,List.all_eq_true,Bool.or_eq_true,decide_eq_true_eq,Bool.not_eq_true',decide_eq_false_iff_not,Option.isNone_iff_eq_none,Option.isSome_iff_exists] at hok
  obtain ⟨hK,hN,hv,hm⟩:=hok
  have hpl:Pl ι S w M0:=⟨fun s k e=>h.mem s k (hM s k e),fun s k e b t hi=>(h.own s k (hM s k e) b t hi).2,fun s s' k k' e e'=>h.sep s s' k k' (hM s k e) (hM s' k' e')⟩
  refine ⟨hB.1,(hB.2 ι S w xs h.snap hpl hr).mono ?_⟩
  rintro e w' ⟨x,ι',S',rfl,hk,hS,hS',hnew,hx,hP,hKK,hown⟩
  have inM:∀ {s:Slot} {k:Blk},look s M1=some k→(s,k)∈M1:=fun e=>look_mem e
  have key:∀ {s:Slot},s∈M1.map (·.1)↔∃ k,look s M1=some k:=by
   intro s
   constructor
   ·intro hs
    cases e:look s M1 with
    | some k=>exact ⟨k,rfl⟩
    | none=>
     exfalso
     clear hm hv hN hK hP hown hB
     induction M1 with
     | nil=>simp at hs
     | cons y l ih=>
      simp only [look] at e
      split at e
      ·simp at e
      ·rename_i hne
       simp only [List.map_cons,List.mem_cons] at hs
       exact hs.elim (fun q=>hne q) (fun q=>ih (fun s k h1 h2=>hd s k (List.mem_cons_of_mem _ h1) h2) (fun e=>look_mem e) q e)
   ·rintro ⟨k,e⟩;exact List.mem_map_of_mem (look_mem e)
  -- which slots are new
  have hnw:∀ s k,look s M1=some k→s ∉ K→¬fixS s∧F.noSlot s:=by
   intro s k e hs
   have:=hN (s,k) (inM e)
   rcases this with q | ⟨q1,q2⟩
   ·exact absurd q hs
   ·refine ⟨q1,hd s k (inM e) fun hin=>?_⟩
    have:∀ (l:List (Slot×Blk)),s∈l.map (·.1)→look s l≠none:=by
     intro l
     induction l with
     | nil=>intro h;simp at h
     | cons y l ih=>
      intro h
      simp only [look]
      split
      ·simp
      ·rename_i hne
       simp only [List.map_cons,List.mem_cons] at h
       exact h.elim (fun q=>absurd q hne) ih
    exact this M0 hin q2
  obtain ⟨J,hJ⟩:∃ J:Inj,J=fun s=>if s∈M1.map (·.1) then ι' s else ι s:=⟨_,rfl⟩
  have J1:∀ s∈M1.map (·.1),J s=ι' s:=fun s hs=>by rw [hJ];exact if_pos hs
  have J2:∀ s,¬((∃ k,look s M1=some k)∧s ∉ K)→J s=ι s:=by
   intro s hs
   rw [hJ]
   dsimp only
   split
   ·rename_i hin
    have:=key.1 hin
    exact hKK s (Classical.byContradiction fun q=>hs ⟨this,q⟩)
   ·rfl
  have J3:∀ s,((∃ k,look s M1=some k)∧s ∉ K)→F.noSlot s:=fun s hs=>let ⟨⟨k,e⟩,q⟩:=hs;(hnw s k e q).2
  have lies:∀ s k b t,F.blk s=some k→ι s=some (b,t)→b<w.heap.size∧∃ e c,w.heap[b]?=some (.cells c e (0,0)):=by
   intro s k b t e hi
   rcases (h.mem s k e).2 with ⟨q,_⟩ | ⟨b2,t2,e2,c2,q4,q5,_⟩
   ·rw [hi] at q;simp at q
   ·rw [hi] at q4;simp at q4
    rw [q4.1];exact ⟨q5.lt,e2,c2,q5⟩
  have lentOwn:∀ b,Lent ι M0 b→(w0.w.heap.size≤b∨w0.M b):=fun b ⟨s,k,t,e,hi⟩=>(h.own s k (hM s k e) b t hi).1
  have notLent:∀ s k b t,F.blk s=some k→look s M0=none→ι s=some (b,t)→¬Lent ι M0 b:=by
   rintro s k b t e hn hi ⟨s',k',t',e',hi'⟩
   exact h.sep s s' k k' e (hM s' k' e') (fun q=>by rw [q,e'] at hn;simp at hn) b t b t' hi hi' rfl
  have outside:∀ s k,(F.app dst ⟨v,M1,M0.map (·.1)⟩).blk s=some k→(look s M1=some k)∨(look s M1=none∧look s M0=none∧F.blk s=some k):=by
   intro s k e
   simp only [FF.app,Del.blk] at e
   cases e1:look s M1 with
   | some k1=>rw [e1] at e;simp at e;left;rw [e]
   | none=>
    rw [e1] at e
    dsimp only at e
    split at e
    ·simp at e
    ·rename_i hc
     refine .inr ⟨rfl,?_,by simpa using e⟩
     cases e0:look s M0 with
     | none=>rfl
     | some k0=>simp at hc;exact absurd (look_mem e0) (hc k0)
  refine ⟨x,J,S',rfl,⟨?_,h.nb,?_,?_,?_,h.keep.transX hk lentOwn,fun y u q=>hS y u (h.sle y u q),?_,hS',?_,?_,?_,?_⟩⟩
  ·rw [a_put_size];exact h.nt
  ·intro s hs
   rw [J2 s (fun ⟨⟨k,e⟩,q⟩=>(hnw s k e q).1 hs)]
   exact h.fix s hs
  ·rw [a_put_defers];exact h.df
  ·intro r o e
   obtain ⟨o1,o2,o3⟩:=h.ob r o e
   refine ⟨o1,?_,o3⟩
   rw [hk.heap r (Array.getElem?_eq_some_iff.1 o2).1 fun ⟨s,k,t,e1,hi⟩=>?_]
   ·exact o2
   ·obtain ⟨_,e2,c2,q⟩:=lies s k r t (hM s k e1) hi
    rw [o2] at q
    exact o3 _ _ _ (Option.some.inj q)
  ·intro y u q
   rcases hnew y u q with q | q | q
   ·exact h.snew y u q
   ·exact .inr (.inl (Nat.le_trans h.keep.size q))
   ·exact .inr (lentOwn _ q)
  ·intro t u e
   simp only [FF.app] at e
   cases dst with
   | none=>
    simp at e
    obtain ⟨y,y1,y2⟩:=h.vars t u e
    exact ⟨y,by simpa [Act.put] using y1,(y2.mono hS).fresh J2 fun s hs=>(J3 s hs).1 t u e⟩
   | some d'=>
    have hlt:d'<a.tmps.size:=by rw [h.nt];exact hdst d' rfl
    rw [a_put_get hlt]
    simp only [Option.some.injEq] at e
    by_cases ht:d'=t
    ·subst ht;simp at e;subst e;exact ⟨x,by simp,hx.among J1 hv⟩
    ·rw [if_neg ht] at e;rw [if_neg (fun q=>ht q.symm)]
     obtain ⟨y,y1,y2⟩:=h.vars t u e
     exact ⟨y,y1,(y2.mono hS).fresh J2 fun s hs=>(J3 s hs).1 t u e⟩
  ·intro s k e
   rcases outside s k e with e1 | ⟨e1,e2,e3⟩
   ·exact (hP.mem s k e1).among J1 (J1 s (key.2 ⟨k,e1⟩)) (hm (s,k) (inM e1))
   ·refine BRel.fresh (ι:=ι) J2 (J2 s fun q=>by rw [e1] at q;obtain ⟨⟨_,q⟩,_⟩:=q;simp at q) (fun s' hs=>((J3 s' hs).2 s k e3).2) ?_
    obtain ⟨hwf,hb⟩:=h.mem s k e3
    refine ⟨hwf,hb.imp id fun ⟨b,total,t',c,g1,g2,g3,g4,g5,g6,g7⟩=>⟨b,total,t',c,g1,?_,g3,g4,g5,g6,fun i j av q=>let ⟨u,u1,u2⟩:=g7 i j av q;⟨u,u1,u2.mono hS⟩⟩⟩
    unfold Lies at g2 ⊢
    rw [hk.heap b (lies s k b total e3 g1).1 (notLent s k b total e3 e2 g1)]
    exact g2
  ·intro s k e b t hi
   rcases outside s k e with e1 | ⟨e1,e2,e3⟩
   ·rw [J1 s (key.2 ⟨k,e1⟩)] at hi
    refine ⟨?_,hP.own s k e1 b t hi⟩
    rcases hown s k e1 b t hi with q | q
    ·exact .inl (Nat.le_trans h.keep.size q)
    ·exact lentOwn b q
   ·rw [J2 s fun q=>by rw [e1] at q;obtain ⟨⟨_,q⟩,_⟩:=q;simp at q] at hi
    refine ⟨(h.own s k e3 b t hi).1,fun y hy=>?_⟩
    cases hq:S' y with
    | none=>rfl
    | some u=>
     exfalso
     rcases hnew y u hq with q | q | q
     ·rw [(h.own s k e3 b t hi).2 y hy] at q;simp at q
     ·have:=(lies s k b t e3 hi).1;omega
     ·exact notLent s k b t e3 e2 hi (hy ▸ q)
  ·intro s s' k k' e e' hne b t b' t' hi hi'
   rcases outside s k e with e1 | ⟨e1,e2,e3⟩<;>rcases outside s' k' e' with e1' | ⟨e1',e2',e3'⟩
   ·rw [J1 s (key.2 ⟨k,e1⟩)] at hi
    rw [J1 s' (key.2 ⟨k',e1'⟩)] at hi'
    exact hP.sep s s' k k' e1 e1' hne b t b' t' hi hi'
   ·rw [J1 s (key.2 ⟨k,e1⟩)] at hi
    rw [J2 s' fun q=>by rw [e1'] at q;obtain ⟨⟨_,q⟩,_⟩:=q;simp at q] at hi'
    intro hbb
    rcases hown s k e1 b t hi with q | q
    ·have:=(lies s' k' b' t' e3' hi').1;omega
    ·exact notLent s' k' b' t' e3' e2' hi' (hbb ▸ q)
   ·rw [J2 s fun q=>by rw [e1] at q;obtain ⟨⟨_,q⟩,_⟩:=q;simp at q] at hi
    rw [J1 s' (key.2 ⟨k',e1'⟩)] at hi'
    intro hbb
    rcases hown s' k' e1' b' t' hi' with q | q
    ·have:=(lies s k b t e3 hi).1;omega
    ·exact notLent s k b t e3 e2 hi (hbb ▸ q)
   ·rw [J2 s fun q=>by rw [e1] at q;obtain ⟨⟨_,q⟩,_⟩:=q;simp at q] at hi
    rw [J2 s' fun q=>by rw [e1'] at q;obtain ⟨⟨_,q⟩,_⟩:=q;simp at q] at hi'
    exact h.sep s s' k k' e3 e3' hne b t b' t' hi hi'
end
end Go.Abs
namespace Go.Abs
open Go
set_option linter.unusedSimpArgs false
set_option linter.unusedVariables false
def evDel (F:FF) (d:Nat) (op:AOp):Option Del:=
 match op with
 | .alloc z=>(evN F d (.alloc z)).map fun x=>⟨x.1,[((d,0),x.2)],[]⟩
 | .allocR e z=>(evN F d (.allocR e z)).map fun x=>⟨x.1,[((d,0),x.2)],[]⟩
 | .box x=>(evN F d (.box x)).map fun x=>⟨x.1,[((d,0),x.2)],[]⟩
 | .bslice e n l z ps=>(evN F d (.bslice e n l z ps)).map fun x=>⟨x.1,[((d,0),x.2)],[]⟩
 | .mksl e n b z l c=>(evN F d (.mksl e n b z l c)).map fun x=>⟨x.1,[((d,0),x.2)],[]⟩
 | .store n x v=>(evS F (.store n x v)).map fun x=>⟨.top,[(x.1,x.2)],[]⟩
 | .app e n b s x=>(evA F d (.app e n b s x)).map fun x=>⟨x.1,[(x.2.1,x.2.2.1)],x.2.2.2⟩
 | .b2s x=>(evC F (.b2s x)).map fun x=>⟨x.1,x.2,[]⟩
 | .s2b e x=>(evC F (.s2b e x)).map fun x=>⟨x.1,x.2,[]⟩
 | .cpy n x y=>(evC F (.cpy n x y)).map fun x=>⟨x.1,x.2,[]⟩
 | op=>(evV F op).map fun v=>⟨v,[],[]⟩
def cloOf:AV→Option (FuncId×List AV×List AV)
 | .p (.clo (.func f) fi ca)=>some (f,fi.map .p,ca.map .p)
 | .clo (.func f) fi ca=>some (f,fi,ca)
 | _=>none
def exOp (P:Program) (F:FF) (d:Nat) (op:AOp) (δ:Del):Prop:=
 match op with
 | .call f args=>∃ vs,F.vals args=some vs∧exCall P F d f vs δ
 | .callv x args=>∃ u vs f fi ca,F.val x=some u∧F.vals args=some vs∧cloOf u=some (f,fi,ca)∧exCall P F d f (fi++vs++ca) δ
 | op=>evDel F d op=some δ
def newS (op:AOp) (δ:Del):List Slot:=match op with
 | .store _ _ _=>[]
 | .cpy _ _ _=>[]
 | _=>(δ.blks.map (·.1)).filter fun s=>!δ.del.contains s
section
variable {P:Program} {N:Nat} {w0:Base} {ι:Inj} {S:Snap} {F:FF} {a:Act} {w:World}
theorem FF.app_val {dst:Option Nat} {v:AV}:F.app dst ⟨v,[],[]⟩={ F with var:=fun t=>if dst=some t then some v else F.var t }:=by
 unfold FF.app;congr 1
theorem evA_del {F:FF} {d:Nat} {op:AOp} {v:AV} {s1:Slot} {k:Blk} {del:List Slot} (h:evA F d op=some (v,s1,k,del)):s1 ∉ del:=by
 unfold evA at h
 repeat' split at h
 all_goals first
 | (simp at h;done)
 | (simp only [Option.some.injEq,Prod.mk.injEq] at h
    obtain ⟨-,rfl,-,rfl⟩:=h
    simp
    try (rename_i s0 _ _ _ _ _ _ _ _ _ _;intro e;have:=congrArg Prod.snd e;simp at this))
theorem exOp_ok (h:St N w0 ι S F a w) {o:Oper} {op:AOp} {d:Nat} {δ:Del} (hr:resolveOp P o.op=some op) (hex:exOp P F d op δ) (hf:∀ s∈newS op δ,F.noSlot s) (hdb:d<BIG) (hdst:∀ d,o.dst=some d→d<N)
  {K:Act→World→Prop} {Q:Exit→Act→World→Prop} (hK:∀ ι' S' a' w',St N w0 ι' S' (F.app o.dst δ) a' w'→K a' w'):o.wp P a w K Q:=by
 have val:∀ {x:Value} {w':World} {ι':Inj},(execOp a.eval o).run P w=.ok (.value x) w'→St N w0 ι' S (F.app o.dst δ) (a.put o.dst x) w'→o.wp P a w K Q:=by
  intro x w' ι' h1 h2
  unfold Oper.wp
  rw [h1]
  exact hK _ _ _ _ h2
 have skp:∀ {w':World} {ι':Inj},(execOp a.eval o).run P w=.ok .skip w'→St N w0 ι' S (F.app o.dst δ) (a.put o.dst undef) w'→o.wp P a w K Q:=by
  intro w' ι' h1 h2
  unfold Oper.wp
  rw [h1]
  exact hK _ _ _ _ h2
 have isV:(evV F op).map (fun v=>(⟨v,[],[]⟩:Del))=some δ→o.wp P a w K Q:=by
  intro hv
  simp only [Option.map_eq_some_iff] at hv
  obtain ⟨v,h1,rfl⟩:=hv
  obtain ⟨x,h2,h3⟩:=evV_ok h hr h1
  refine val (ι':=ι) h2 ?_
  rw [FF.app_val]
  exact h.put h3 hdst
 have isC:∀ q,(evC F op).map q=some δ→(∀ x,q x=⟨x.1,x.2,[]⟩)→o.wp P a w K Q:=by
  intro q hv hq
  simp only [Option.map_eq_some_iff] at hv
  obtain ⟨⟨v,ks⟩,h1,rfl⟩:=hv
  rw [hq] at *
  obtain ⟨x,w',S',h2,h3⟩:=evC_ok h hr h1 hdst
  unfold Oper.wp
  rw [h2]
  exact hK _ _ _ _ h3
 have isN:∀ q,(evN F d op).map q=some δ→(∀ x,q x=⟨x.1,[((d,0),x.2)],[]⟩)→newS op δ=(δ.blks.map (·.1)).filter (fun s=>!δ.del.contains s)→o.wp P a w K Q:=by
  intro q hv hq hn
  simp only [Option.map_eq_some_iff] at hv
  obtain ⟨⟨v,k⟩,h1,rfl⟩:=hv
  rw [hq] at *
  obtain ⟨x,w',ι',h2,h3⟩:=evN_ok h hr h1 (hf (d,0) (by rw [hn];simp)) hdb hdst
  exact val h2 h3
 have call:∀ {f:FuncId} {vs:List AV} {xs:List Value},exCall P F d f vs δ→Rs ι S vs xs→(∀ w',((∃ fn,P.funcs[f]?=some fn∧fn.body.isSome=true∧(fn.name == "runtime.NumGoroutine")=false))→(callFunc f xs.toArray).run P w'=.ok (.enter f xs.toArray) w') →
   (execOp a.eval o).run P w=(callFunc f xs.toArray).run P w→newS op δ=(δ.blks.map (·.1)).filter (fun s=>!δ.del.contains s)→o.wp P a w K Q:=by
  intro f vs xs h1 h2 h3 h4 h5
  obtain ⟨q1,q2⟩:=exCall_ok h h1 h2 (dst:=o.dst) (fun s k hs hd=>hf s (by rw [h5];exact List.mem_filter.2 ⟨List.mem_map.2 ⟨_,hs,rfl⟩,by simpa using hd⟩)) hdb hdst
  unfold Oper.wp
  rw [h4,h3 w q1]
  simp only [Oper.upon]
  refine q2.mono ?_
  rintro e w' ⟨x,ι',S',rfl,hst⟩
  exact hK _ _ _ _ hst
 have cf:∀ {f:FuncId} {xs:List Value} (w':World),(∃ fn,P.funcs[f]?=some fn∧fn.body.isSome=true∧(fn.name == "runtime.NumGoroutine")=false)→(callFunc f xs.toArray).run P w'=.ok (.enter f xs.toArray) w':=by
  rintro f xs w' ⟨fn,h1,h2,h3⟩
  have h4:fn.body.isNone=false:=by cases hb:fn.body<;>simp_all
  simp only [callFunc,Sem.run_bind,run_program,Result.andThen_ok,h1,h3,h4,Bool.false_eq_true,if_false,Sem.run_pure]
 cases op with
 | call f args=>
  obtain ⟨vs,h1,h2⟩:=hex
  have hop:∃ c:Call,o.op=.call c∧c.callee=.value (.func f)∧rOs c.args.toList=some args:=by
   cases hop:o.op with
   | call c=>
    obtain ⟨callee,cargs,argTypes⟩:=c
    simp only [hop,resolveOp,resolveCall] at hr
    split at hr
    ·repeat' split at hr
     all_goals (try (simp at hr;done))
     simp only [Option.map_eq_some_iff,AOp.call.injEq] at hr
     obtain ⟨q,g1,rfl,rfl⟩:=hr
     exact ⟨_,rfl,rfl,g1⟩
    all_goals (repeat' split at hr)
    all_goals first
    | (simp at hr;done)
    | (simp only [Option.map_eq_some_iff] at hr;obtain ⟨q,h1,h2⟩:=hr;simp at h2;done)
   | slice t x lo hi mx=>
    exfalso
    cases mx with
    | some m=>simp [hop,resolveOp] at hr
    | none=>
     simp only [hop,resolveOp] at hr
     repeat' split at hr
     all_goals (simp at hr;done)
   | _=>
    exfalso
    simp only [hop,resolveOp] at hr
    first
    | (simp at hr;done)
    | (simp only [Option.map_eq_some_iff] at hr;obtain ⟨q,h1,h2⟩:=hr;first | (simp at h2;done) | (unfold allocOf at h2;split at h2<;>simp at h2;done))
    | (repeat' split at hr
       all_goals first
       | (simp at hr;done)
       | (simp only [Option.map_eq_some_iff] at hr;obtain ⟨q,h1,h2⟩:=hr;simp at h2;done))
  obtain ⟨c,hop,hc,hargs⟩:=hop
  refine call h2 (h.vals hargs h1) cf ?_ rfl
  obtain ⟨callee,cargs,argTypes⟩:=c
  simp only at hc hargs
  subst hc
  have e1:cargs.map a.eval=(cargs.toList.map a.eval).toArray:=by apply Array.ext';simp
  simp only [execOp,hop,resolve,Act.eval,Deferred.ofValue,Sem.run_bind,Sem.run_pure,Result.andThen_ok,invoke]
  rw [e1]
  simp
 | callv x args=>
  obtain ⟨u,vs,f,fi,ca,h1,h2,h3,h4⟩:=hex
  have hop:∃ (c:Call) (g:Operand),o.op=.call c∧c.callee=.value g∧rO g=some x∧rOs c.args.toList=some args:=by
   cases hop:o.op with
   | call c=>
    obtain ⟨callee,cargs,argTypes⟩:=c
    simp only [hop,resolveOp,resolveCall] at hr
    split at hr
    ·repeat' split at hr
     all_goals first
     | (simp at hr;done)
     | (simp only [Option.map_eq_some_iff] at hr;obtain ⟨q,h1,h2⟩:=hr;simp at h2;done)
    ·split at hr
     ·rename_i g1 g2
      simp at hr
      obtain ⟨rfl,rfl⟩:=hr
      exact ⟨_,_,rfl,rfl,g1,g2⟩
     ·simp at hr
    all_goals (repeat' split at hr)
    all_goals first
    | (simp at hr;done)
    | (simp only [Option.map_eq_some_iff] at hr;obtain ⟨q,h1,h2⟩:=hr;simp at h2;done)
   | slice t x lo hi mx=>
    exfalso
    cases mx with
    | some m=>simp [hop,resolveOp] at hr
    | none=>
     simp only [hop,resolveOp] at hr
     repeat' split at hr
     all_goals (simp at hr;done)
   | _=>
    exfalso
    simp only [hop,resolveOp] at hr
    first
    | (simp at hr;done)
    | (simp only [Option.map_eq_some_iff] at hr;obtain ⟨q,h1,h2⟩:=hr;first | (simp at h2;done) | (unfold allocOf at h2;split at h2<;>simp at h2;done))
    | (repeat' split at hr
       all_goals first
       | (simp at hr;done)
       | (simp only [Option.map_eq_some_iff] at hr;obtain ⟨q,h1,h2⟩:=hr;simp at h2;done))
  obtain ⟨c,g,hop,hc,hg,hargs⟩:=hop
  have hrel:=h.val hg h1
  have hclo:∃ fs cs:List Value,a.eval g=.func (.func f) fs.toArray cs.toArray∧Rs ι S fi fs∧Rs ι S ca cs:=by
   unfold cloOf at h3
   split at h3
   ·simp at h3
    obtain ⟨rfl,rfl,rfl⟩:=h3
    have:=hrel.inv_p
    generalize a.eval g=y at this
    cases this with
    | clo _ _ _ fs cs hf hc g1 g2=>exact ⟨fs,cs,rfl,Ps.toRs ⟨hf,g1⟩,Ps.toRs ⟨hc,g2⟩⟩
   ·simp at h3
    obtain ⟨rfl,rfl,rfl⟩:=h3
    generalize a.eval g=y at hrel
    cases hrel with
    | clo _ _ _ fs cs hf hc g1 g2=>exact ⟨fs,cs,rfl,⟨hf,g1⟩,⟨hc,g2⟩⟩
   ·simp at h3
  obtain ⟨fs,cs,e1,r1,r2⟩:=hclo
  have r3:=h.vals hargs h2
  have happ:∀ {l1 l2:List AV} {v1 v2:List Value},Rs ι S l1 v1→Rs ι S l2 v2→Rs ι S (l1++l2) (v1++v2):=by
   intro l1 l2 v1 v2 q1 q2
   refine ⟨by simp [q1.1,q2.1],fun j p v g1 g2=>?_⟩
   rw [List.getElem?_append] at g1 g2
   have hl:=q1.1
   by_cases hj:j<l1.length
   ·rw [if_pos hj] at g1;rw [if_pos (by omega)] at g2;exact q1.2 j p v g1 g2
   ·rw [if_neg hj] at g1;rw [if_neg (by omega),hl] at g2;exact q2.2 _ p v g1 g2
  refine call h4 (happ (happ r1 r3) r2) cf ?_ rfl
  obtain ⟨callee,cargs,argTypes⟩:=c
  simp only at hc hargs
  subst hc
  have e2:cargs.map a.eval=(cargs.toList.map a.eval).toArray:=by apply Array.ext';simp
  simp only [execOp,hop,resolve,e1,Deferred.ofValue,Sem.run_bind,Sem.run_pure,Result.andThen_ok,invoke]
  rw [e2]
  simp
 | alloc z=>exact isN (fun x=>⟨x.1,[((d,0),x.2)],[]⟩) hex (fun _=>rfl) rfl
 | allocR e z=>exact isN (fun x=>⟨x.1,[((d,0),x.2)],[]⟩) hex (fun _=>rfl) rfl
 | box x=>exact isN (fun x=>⟨x.1,[((d,0),x.2)],[]⟩) hex (fun _=>rfl) rfl
 | bslice e n l z ps=>exact isN (fun x=>⟨x.1,[((d,0),x.2)],[]⟩) hex (fun _=>rfl) rfl
 | mksl e n b z l c=>exact isN (fun x=>⟨x.1,[((d,0),x.2)],[]⟩) hex (fun _=>rfl) rfl
 | store n x v=>
  simp only [exOp,evDel,Option.map_eq_some_iff] at hex
  obtain ⟨⟨s,k⟩,h1,rfl⟩:=hex
  obtain ⟨w',h2,h3⟩:=evS_ok h hr h1 hdst
  exact skp h2 h3
 | app e n b s x=>
  simp only [exOp,evDel,Option.map_eq_some_iff] at hex
  obtain ⟨⟨v,s1,k,del⟩,h1,rfl⟩:=hex
  obtain ⟨x,w',ι',h2,h3⟩:=evA_ok h hr h1 (hf s1 (by simp only [newS,List.map_cons,List.map_nil];exact List.mem_filter.2 ⟨by simp,by simpa using evA_del h1⟩)) hdb hdst
  exact val h2 h3
 | b2s x=>exact isC _ hex (fun _=>rfl)
 | s2b e x=>exact isC _ hex (fun _=>rfl)
 | cpy n x y=>exact isC _ hex (fun _=>rfl)
 | _=>exact isV hex
end
end Go.Abs
