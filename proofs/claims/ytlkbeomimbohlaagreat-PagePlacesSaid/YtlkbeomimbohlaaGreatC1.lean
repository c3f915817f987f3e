/- A part of the proof: an abstract reading of the model, contracts of functions. -/
import Derived.Calls
import Derived.Orders
import Derived.Laws.Sem
import Derived.Laws.Rows
import Derived.Laws.World
import Derived.Laws.AppendOwn
import Derived.Laws.MakeOwn
import Derived.KernelRfl
namespace Go.Abs
open Go
inductive PV where
 | int (k:IntKind) (n:Int)
 | bool (b:Bool)
 | str (s:ByteArray)
 | nsl
 | sl (size:Nat) (rows:List (List PV))
 | nptr
 | ro (cells:List PV)
 | nfn
 | clo (fn:Fn) (first captured:List PV)
 | agg (cells:List PV)
 | tup (vs:List PV)
 | nif
 | ifc (t:TypeId) (v:PV)
 deriving Inhabited
abbrev Slot:=Nat×Nat
inductive AV where
 | p (v:PV)
 | ref (s:Slot) (size off len:Nat)
 | ptr (s:Slot) (size row off:Nat)
 | agg (cells:List AV)
 | tup (vs:List AV)
 | clo (fn:Fn) (first captured:List AV)
 | top
 deriving Inhabited
inductive Blk where
 | sl (e:TypeId) (size:Nat) (rows:List (List PV))
 | box (cells:List AV)
 deriving Inhabited
abbrev Snap:=Addr→Option Value
def Snap.holds (S:Snap) (w:World):Prop:=∀ a v,S a=some v→w.cell? a=some v
def Snap.le (S S':Snap):Prop:=∀ a v,S a=some v→S' a=some v
inductive PRel (S:Snap):PV→Value→Prop where
 | int (k:IntKind) (n:Int):PRel S (.int k n) (.int k n)
 | bool (b:Bool):PRel S (.bool b) (.bool b)
 | str (s:ByteArray):PRel S (.str s) (.string s)
 | nsl:PRel S .nsl (.slice none 0 0)
 | sl (size:Nat) (rows:List (List PV)) (a:Option Addr) (cap:Nat) (f:Nat→Nat→Value) (hcap:rows.length≤cap)
   (hsz:∀ (i:Nat) (row:List PV),rows[i]?=some row→row.length=size)
   (hcell:∀ (i:Nat) (row:List PV) (j:Nat) (p:PV),rows[i]?=some row→row[j]?=some p→∃ b:Addr,a=some b∧S (b.add (i*size+j))=some (f i j))
   (hrel:∀ (i:Nat) (row:List PV) (j:Nat) (p:PV),rows[i]?=some row→row[j]?=some p→PRel S p (f i j)) :
   PRel S (.sl size rows) (.slice a rows.length cap)
 | nptr:PRel S .nptr (.pointer none)
 | ro (cells:List PV) (a:Addr) (f:Nat→Value) (hcell:∀ (j:Nat) (p:PV),cells[j]?=some p→S (a.add j)=some (f j))
   (hrel:∀ (j:Nat) (p:PV),cells[j]?=some p→PRel S p (f j)):PRel S (.ro cells) (.pointer (some a))
 | nfn:PRel S .nfn .nilFunc
 | clo (fn:Fn) (first captured:List PV) (fs cs:List Value) (hf:fs.length=first.length) (hc:cs.length=captured.length)
   (h1:∀ (j:Nat) (p:PV) (v:Value),first[j]?=some p→fs[j]?=some v→PRel S p v)
   (h2:∀ (j:Nat) (p:PV) (v:Value),captured[j]?=some p→cs[j]?=some v→PRel S p v):PRel S (.clo fn first captured) (.func fn fs.toArray cs.toArray)
 | agg (cells:List PV) (vs:List Value) (hl:vs.length=cells.length)
   (h:∀ (j:Nat) (p:PV) (v:Value),cells[j]?=some p→vs[j]?=some v→PRel S p v):PRel S (.agg cells) (.agg vs.toArray)
 | tup (cells:List PV) (vs:List Value) (hl:vs.length=cells.length)
   (h:∀ (j:Nat) (p:PV) (v:Value),cells[j]?=some p→vs[j]?=some v→PRel S p v):PRel S (.tup cells) (.tuple vs.toArray)
 | nif:PRel S .nif .nilIface
 | ifc (t:TypeId) (p:PV) (v:Value) (h:PRel S p v):PRel S (.ifc t p) (.iface t v)
abbrev Inj:=Slot→Option (Nat×Nat)
inductive AVRel (ι:Inj) (S:Snap):AV→Value→Prop where
 | p (v:PV) (x:Value) (h:PRel S v x):AVRel ι S (.p v) x
 | ref (s:Slot) (size off len b total cap:Nat) (a:Addr) (hi:ι s=some (b,total)) (hc:off+cap≤total) (hl:len≤cap)
   (ha:cap=0∨a=⟨b,off*size,none⟩):AVRel ι S (.ref s size off len) (.slice (some a) len cap)
 | refnil (s:Slot) (size:Nat) (hi:ι s=none):AVRel ι S (.ref s size 0 0) (.slice none 0 0)
 | ptr (s:Slot) (size row off b total:Nat) (hi:ι s=some (b,total)):AVRel ι S (.ptr s size row off) (.pointer (some ⟨b,row*size+off,none⟩))
 | agg (cells:List AV) (vs:List Value) (hl:vs.length=cells.length)
   (h:∀ (j:Nat) (p:AV) (v:Value),cells[j]?=some p→vs[j]?=some v→AVRel ι S p v):AVRel ι S (.agg cells) (.agg vs.toArray)
 | tup (cells:List AV) (vs:List Value) (hl:vs.length=cells.length)
   (h:∀ (j:Nat) (p:AV) (v:Value),cells[j]?=some p→vs[j]?=some v→AVRel ι S p v):AVRel ι S (.tup cells) (.tuple vs.toArray)
 | clo (fn:Fn) (first captured:List AV) (fs cs:List Value) (hf:fs.length=first.length) (hc:cs.length=captured.length)
   (h1:∀ (j:Nat) (p:AV) (v:Value),first[j]?=some p→fs[j]?=some v→AVRel ι S p v)
   (h2:∀ (j:Nat) (p:AV) (v:Value),captured[j]?=some p→cs[j]?=some v→AVRel ι S p v):AVRel ι S (.clo fn first captured) (.func fn fs.toArray cs.toArray)
 | top (x:Value):AVRel ι S .top x
theorem PRel.mono {S S':Snap} (h:S.le S') {p:PV} {v:Value} (r:PRel S p v):PRel S' p v:=by
 induction r with
 | int k n=>exact .int k n
 | bool b=>exact .bool b
 | str s=>exact .str s
 | nsl=>exact .nsl
 | sl size rows a cap f hcap hsz hcell hrel ih=>
  exact .sl size rows a cap f hcap hsz (fun i row j p h1 h2=>let ⟨b,e,hs⟩:=hcell i row j p h1 h2;⟨b,e,h _ _ hs⟩) ih
 | nptr=>exact .nptr
 | ro cells a f hcell hrel ih=>exact .ro cells a f (fun j p h1=>h _ _ (hcell j p h1)) ih
 | nfn=>exact .nfn
 | clo fn first captured fs cs hf hc h1 h2 ih1 ih2=>exact .clo fn first captured fs cs hf hc ih1 ih2
 | agg cells vs hl h ih=>exact .agg cells vs hl ih
 | tup cells vs hl h ih=>exact .tup cells vs hl ih
 | nif=>exact .nif
 | ifc t p v h ih=>exact .ifc t p v ih
theorem AVRel.mono {ι:Inj} {S S':Snap} (h:S.le S') {p:AV} {v:Value} (r:AVRel ι S p v):AVRel ι S' p v:=by
 induction r with
 | p v x hr=>exact .p v x (hr.mono h)
 | ref s size off len b total cap a hi hc hl ha=>exact .ref s size off len b total cap a hi hc hl ha
 | refnil s size hi=>exact .refnil s size hi
 | ptr s size row off b total hi=>exact .ptr s size row off b total hi
 | agg cells vs hl h ih=>exact .agg cells vs hl ih
 | tup cells vs hl h ih=>exact .tup cells vs hl ih
 | clo fn first captured fs cs hf hc h1 h2 ih1 ih2=>exact .clo fn first captured fs cs hf hc ih1 ih2
 | top x=>exact .top x
mutual
def AV.noSlot (d:Slot):AV→Bool
 | .p _=>true
 | .ref s _ _ _=>decide (s≠d)
 | .ptr s _ _ _=>decide (s≠d)
 | .agg cs=>AV.noSlotL d cs
 | .tup cs=>AV.noSlotL d cs
 | .clo _ f c=>AV.noSlotL d f && AV.noSlotL d c
 | .top=>true
def AV.noSlotL (d:Slot):List AV→Bool
 | []=>true
 | v :: l=>v.noSlot d && AV.noSlotL d l
end
theorem AV.noSlotL_get {d:Slot}:∀ {l:List AV} {j:Nat} {v:AV},AV.noSlotL d l=true→l[j]?=some v→v.noSlot d=true
 | [],_,_,_,h=>by simp at h
 | x :: l,0,v,h,e=>by simp [AV.noSlotL] at h e;exact e ▸ h.1
 | x :: l,j+1,v,h,e=>by simp [AV.noSlotL] at h e;exact AV.noSlotL_get h.2 e
theorem AVRel.inj {ι ι':Inj} {S:Snap} {d:Slot} (hi:∀ s:Slot,s≠d→ι' s=ι s) {p:AV} {v:Value} (r:AVRel ι S p v) (hn:p.noSlot d=true):AVRel ι' S p v:=by
 induction r with
 | p v x hr=>exact .p v x hr
 | ref s size off len b total cap a h1 hc hl ha=>exact .ref s size off len b total cap a (by rw [hi s (by simpa [AV.noSlot] using hn)];exact h1) hc hl ha
 | refnil s size h1=>exact .refnil s size (by rw [hi s (by simpa [AV.noSlot] using hn)];exact h1)
 | ptr s size row off b total h1=>exact .ptr s size row off b total (by rw [hi s (by simpa [AV.noSlot] using hn)];exact h1)
 | agg cells vs hl h ih=>exact .agg cells vs hl fun j p v h1 h2=>ih j p v h1 h2 (AV.noSlotL_get (by simpa [AV.noSlot] using hn) h1)
 | tup cells vs hl h ih=>exact .tup cells vs hl fun j p v h1 h2=>ih j p v h1 h2 (AV.noSlotL_get (by simpa [AV.noSlot] using hn) h1)
 | clo fn first captured fs cs hf hc h1 h2 ih1 ih2=>
  simp [AV.noSlot] at hn
  exact .clo fn first captured fs cs hf hc (fun j p v e1 e2=>ih1 j p v e1 e2 (AV.noSlotL_get hn.1 e1)) (fun j p v e1 e2=>ih2 j p v e1 e2 (AV.noSlotL_get hn.2 e1))
 | top x=>exact .top x
def Blk.size:Blk→Nat
 | .sl _ size _=>size
 | .box cells=>cells.length
def Blk.nrows:Blk→Nat
 | .sl _ _ rows=>rows.length
 | .box _=>1
def Blk.cell:Blk→Nat→Nat→Option AV
 | .sl _ _ rows,i,j=>(rows[i]?.bind (·[j]?)).map AV.p
 | .box cells,i,j=>if i=0 then cells[j]? else none
def Blk.wf:Blk→Prop
 | .sl _ size rows=>∀ (i:Nat) (row:List PV),rows[i]?=some row→row.length=size
 | .box _=>True
def Blk.elem:Blk→TypeId→Prop
 | .sl e _ _,e'=>e=e'
 | .box _,_=>True
def Blk.noSlot (d:Slot):Blk→Bool
 | .sl _ _ _=>true
 | .box cells=>AV.noSlotL d cells
def Lies (w:World) (b:Nat) (e:TypeId) (c:Array Value):Prop:=w.heap[b]?=some (.cells c e (0,0))
def BRel (ι:Inj) (S:Snap) (w:World) (s:Slot) (k:Blk):Prop:=
 k.wf∧((ι s=none∧k.nrows=0) ∨
  ∃ b total e c,ι s=some (b,total)∧Lies w b e c∧k.elem e∧c.size=total*k.size∧k.nrows≤total∧total≤maxLen ∧
   ∀ i j av,k.cell i j=some av→∃ v,c[i*k.size+j]?=some v∧AVRel ι S av v)
theorem Blk.cell_noSlot {d:Slot} {k:Blk} (h:k.noSlot d=true) {i j:Nat} {av:AV} (e:k.cell i j=some av):av.noSlot d=true:=by
 cases k with
 | sl _ size rows=>
  simp only [Blk.cell,Option.map_eq_some_iff] at e
  obtain ⟨x,_,rfl⟩:=e
  rfl
 | box cells=>
  simp only [Blk.cell] at e
  split at e
  ·exact AV.noSlotL_get h e
  ·simp at e
theorem Lies.of_heap {w w':World} {b:Nat} {t:TypeId} {c:Array Value} (h:Lies w b t c) (e:w'.heap[b]?=w.heap[b]?):Lies w' b t c:=by
 unfold Lies at *;rw [e];exact h
theorem Lies.lt {w:World} {b:Nat} {t:TypeId} {c:Array Value} (h:Lies w b t c):b<w.heap.size:=
 (Array.getElem?_eq_some_iff.1 h).1
theorem Lies.cell {w:World} {b:Nat} {t:TypeId} {c:Array Value} (h:Lies w b t c) (j:Nat):w.cell? ⟨b,j,none⟩=c[j]?:=by
 unfold Lies at h;simp [World.cell?,h]
theorem BRel.mono {ι:Inj} {S S':Snap} {w w':World} {s:Slot} {k:Blk} (hS:S.le S')
  (hw:∀ b,b<w.heap.size→w'.heap[b]?=w.heap[b]?) (h:BRel ι S w s k):BRel ι S' w' s k:=by
 refine ⟨h.1,h.2.imp id ?_⟩
 rintro ⟨b,total,t,c,h1,h2,h3,h4,h5,h6,h7⟩
 exact ⟨b,total,t,c,h1,h2.of_heap (hw b h2.lt),h3,h4,h5,h6,fun i j av e=>let ⟨v,e1,e2⟩:=h7 i j av e;⟨v,e1,e2.mono hS⟩⟩
theorem BRel.inj {ι ι':Inj} {S:Snap} {w:World} {s:Slot} {k:Blk} {d:Slot} (hi:∀ s:Slot,s≠d→ι' s=ι s) (hs:s≠d) (hn:k.noSlot d=true) (h:BRel ι S w s k):BRel ι' S w s k:=by
 refine ⟨h.1,?_⟩
 rw [hi s hs]
 refine h.2.imp id ?_
 rintro ⟨b,total,t,c,h1,h2,h3,h4,h5,h6,h7⟩
 exact ⟨b,total,t,c,h1,h2,h3,h4,h5,h6,fun i j av e=>let ⟨v,e1,e2⟩:=h7 i j av e;⟨v,e1,e2.inj hi (Blk.cell_noSlot hn e)⟩⟩
def look {κ α:Type} [DecidableEq κ] (k:κ):List (κ×α)→Option α
 | []=>none
 | (k',v) :: l=>if k=k' then some v else look k l
structure FF where
 var:Nat→Option AV
 blk:Slot→Option Blk
structure Fr where
 vars:List (Nat×AV)
 mem:List (Slot×Blk)
def Fr.var (F:Fr) (t:Nat):Option AV:=look t F.vars
def Fr.blk (F:Fr) (s:Slot):Option Blk:=look s F.mem
def Fr.ff (F:Fr):FF:=⟨F.var,F.blk⟩
structure Keep (w0 w:World):Prop where
 os:w.os=w0.os
 tape:w.tape=w0.tape
 output:w.output=w0.output
 size:w0.heap.size≤w.heap.size
 heap:∀ k,k<w0.heap.size→w.heap[k]?=w0.heap[k]?
theorem Keep.refl (w:World):Keep w w:=⟨rfl,rfl,rfl,Nat.le_refl _,fun _ _=>rfl⟩
theorem Keep.trans {a b c:World} (h:Keep a b) (k:Keep b c):Keep a c:=
 ⟨k.os.trans h.os,k.tape.trans h.tape,k.output.trans h.output,Nat.le_trans h.size k.size,fun i hi=>(k.heap i (Nat.lt_of_lt_of_le hi h.size)).trans (h.heap i hi)⟩
theorem Keep.alloc (w:World) (o:Obj):Keep w (w.alloc o):=⟨rfl,rfl,rfl,by simp,fun k hk=>heap_alloc_old w o k hk⟩
theorem Keep.drew (w:World):Keep w { w with drawn:=w.drawn+1 }:=⟨rfl,rfl,rfl,Nat.le_refl _,fun _ _=>rfl⟩
theorem Keep.cell {w w':World} (h:Keep w w') {a:Addr} {v:Value} (e:w.cell? a=some v):w'.cell? a=some v:=by
 have hlt:=World.block_lt_of_cell? w a e
 unfold World.cell? at e ⊢
 rw [h.heap _ hlt]
 exact e
structure KeepX (M:Nat→Prop) (w0 w:World):Prop where
 os:w.os=w0.os
 tape:w.tape=w0.tape
 output:w.output=w0.output
 size:w0.heap.size≤w.heap.size
 heap:∀ k,k<w0.heap.size→¬M k→w.heap[k]?=w0.heap[k]?
theorem KeepX.trans {M:Nat→Prop} {a b c:World} (h:KeepX M a b) (k:Keep b c):KeepX M a c:=
 ⟨k.os.trans h.os,k.tape.trans h.tape,k.output.trans h.output,Nat.le_trans h.size k.size,fun i hi hm=>(k.heap i (Nat.lt_of_lt_of_le hi h.size)).trans (h.heap i hi hm)⟩
theorem KeepX.transX {M M':Nat→Prop} {a b c:World} (h:KeepX M a b) (k:KeepX M' b c) (hm:∀ i,M' i→a.heap.size≤i∨M i):KeepX M a c:=
 ⟨k.os.trans h.os,k.tape.trans h.tape,k.output.trans h.output,Nat.le_trans h.size k.size,fun i hi hi'=>(k.heap i (Nat.lt_of_lt_of_le hi h.size) fun q=>(hm i q).elim (fun q=>by omega) hi').trans (h.heap i hi hi')⟩
theorem Keep.toX {M:Nat→Prop} {a b:World} (h:Keep a b):KeepX M a b:=⟨h.os,h.tape,h.output,h.size,fun k hk _=>h.heap k hk⟩
theorem KeepX.keep {M:Nat→Prop} {a b:World} (h:KeepX M a b) (hm:∀ k,¬M k):Keep a b:=⟨h.os,h.tape,h.output,h.size,fun k hk=>h.heap k hk (hm k)⟩
def BIG:Nat:=1000000
def fixS (s:Slot):Prop:=BIG≤s.1∧s.2=0
instance {s:Slot}:Decidable (fixS s):=inferInstanceAs (Decidable (_∧_))
structure Base where
 w:World
 S:Snap
 M:Nat→Prop:=fun _=>False
 J:Slot→Option (Nat×Nat):=fun _=>none
 D:List Nat:=[]
 O:Nat→Option Obj:=fun _=>none
def markOf (r:Nat):Deferred:={ target:=.collected r,args:=#[] }
structure St (N:Nat) (w0:Base) (ι:Inj) (S:Snap) (F:FF) (a:Act) (w:World):Prop where
 nt:a.tmps.size=N
 nb:N≤BIG
 fix:∀ s,fixS s→ι s=w0.J s
 df:a.defers=w0.D.map markOf
 ob:∀ r o,w0.O r=some o→w0.w.heap.size≤r∧w.heap[r]?=some o∧∀ c e q,o≠.cells c e q
 keep:KeepX w0.M w0.w w
 sle:w0.S.le S
 snew:∀ x v,S x=some v→w0.S x=some v∨w0.w.heap.size≤x.block∨w0.M x.block
 snap:S.holds w
 vars:∀ t v,F.var t=some v→∃ x,a.tmps[t]?=some x∧AVRel ι S v x
 mem:∀ s k,F.blk s=some k→BRel ι S w s k
 own:∀ s k,F.blk s=some k→∀ b t,ι s=some (b,t)→(w0.w.heap.size≤b∨w0.M b)∧∀ x:Addr,x.block=b→S x=none
 sep:∀ s s' k k',F.blk s=some k→F.blk s'=some k'→s≠s'→∀ b t b' t',ι s=some (b,t)→ι s'=some (b',t')→b≠b'
def FF.le (F G:FF):Prop:=(∀ t v,F.var t=some v→G.var t=some v)∧∀ s k,F.blk s=some k→G.blk s=some k
theorem FF.le_refl (F:FF):F.le F:=⟨fun _ _ h=>h,fun _ _ h=>h⟩
theorem FF.le_trans {F G H:FF} (h:F.le G) (k:G.le H):F.le H:=⟨fun t v e=>k.1 t v (h.1 t v e),fun t v e=>k.2 t v (h.2 t v e)⟩
theorem St.weaken {N:Nat} {w0:Base} {ι:Inj} {S:Snap} {F G:FF} {a:Act} {w:World} (h:F.le G) (s:St N w0 ι S G a w):St N w0 ι S F a w where
 nt:=s.nt
 nb:=s.nb
 fix:=s.fix
 df:=s.df
 ob:=s.ob
 keep:=s.keep
 sle:=s.sle
 snew:=s.snew
 snap:=s.snap
 vars:=fun t v e=>s.vars t v (h.1 t v e)
 mem:=fun t v e=>s.mem t v (h.2 t v e)
 own:=fun t v e=>s.own t v (h.2 t v e)
 sep:=fun t t' v v' e e'=>s.sep t t' v v' (h.2 t v e) (h.2 t' v' e')
def FF.noSlot (d:Slot) (F:FF):Prop:=(∀ t v,F.var t=some v→v.noSlot d=true)∧∀ s k,F.blk s=some k→s≠d∧k.noSlot d=true
def Fr.noSlot (d:Slot) (F:Fr):Bool:=F.vars.all (fun x=>x.2.noSlot d) && F.mem.all (fun x=>decide (x.1≠d) && x.2.noSlot d)
theorem look_mem {κ α:Type} [DecidableEq κ] {k:κ} {v:α}:∀ {l:List (κ×α)},look k l=some v→(k,v)∈l
 | [],h=>by simp [look] at h
 | (k',v') :: l,h=>by
  simp only [look] at h
  split at h
  ·rename_i e;simp at h;subst e;subst h;simp
  ·exact List.mem_cons_of_mem _ (look_mem h)
theorem Fr.noSlot_ff {d:Slot} {F:Fr} (h:F.noSlot d=true):F.ff.noSlot d:=by
 simp only [Fr.noSlot,Bool.and_eq_true,List.all_eq_true] at h
 refine ⟨fun t v e=>h.1 _ (look_mem e),fun s k e=>?_⟩
 have:=h.2 _ (look_mem e)
 simpa using this
theorem St.step {N:Nat} {w0:Base} {ι ι':Inj} {S S':Snap} {F:FF} {a:Act} {w w':World} (d:Slot) (s:St N w0 ι S F a w) (hk:Keep w w') (hS:S.le S') (hS':S'.holds w')
  (hnew:∀ x v,S' x=some v→S x=some v∨w.heap.size≤x.block) (hi:∀ s:Slot,s≠d→ι' s=ι s) (hd:F.noSlot d) (hf:¬fixS d):St N w0 ι' S' F a w' where
 nt:=s.nt
 nb:=s.nb
 fix:=fun t ht=>by rw [hi t (fun e=>hf (e ▸ ht))];exact s.fix t ht
 df:=s.df
 ob:=fun r o e=>let ⟨h1,h2,h3⟩:=s.ob r o e;⟨h1,by rw [hk.heap r (Array.getElem?_eq_some_iff.1 h2).1];exact h2,h3⟩
 keep:=s.keep.trans hk
 sle:=fun x v q=>hS x v (s.sle x v q)
 snew:=fun x v q=>(hnew x v q).elim (fun q=>s.snew x v q) (fun q=>.inr (.inl (Nat.le_trans s.keep.size q)))
 snap:=hS'
 vars:=fun t v e=>let ⟨x,h1,h2⟩:=s.vars t v e;⟨x,h1,(h2.mono hS).inj hi (hd.1 t v e)⟩
 mem:=fun t k e=>((s.mem t k e).mono hS hk.heap).inj hi (hd.2 t k e).1 (hd.2 t k e).2
 own:=fun t k e b n h=>by
  rw [hi t (hd.2 t k e).1] at h
  obtain ⟨h1,h2⟩:=s.own t k e b n h
  refine ⟨h1,fun x hx=>?_⟩
  cases hq:S' x with
  | none=>rfl
  | some v=>
   rcases hnew x v hq with h' | h'
   ·rw [h2 x hx] at h';simp at h'
   ·rcases (s.mem t k e).2 with ⟨h3,_⟩ | ⟨b',n',t',c,h3,h4,_⟩
    ·rw [h] at h3;simp at h3
    ·rw [h] at h3;simp at h3
     have:=h4.lt
     rw [←h3.1,←hx] at this
     omega
 sep:=fun t t' k k' e e' hne b n b' n' h h'=>by
  rw [hi t (hd.2 t k e).1] at h
  rw [hi t' (hd.2 t' k' e').1] at h'
  exact s.sep t t' k k' e e' hne b n b' n' h h'
theorem St.step0 {N:Nat} {w0:Base} {ι:Inj} {S S':Snap} {F:FF} {a:Act} {w w':World} (s:St N w0 ι S F a w) (hk:Keep w w') (hS:S.le S') (hS':S'.holds w')
  (hnew:∀ x v,S' x=some v→S x=some v∨w.heap.size≤x.block):St N w0 ι S' F a w' where
 nt:=s.nt
 nb:=s.nb
 fix:=s.fix
 df:=s.df
 ob:=fun r o e=>let ⟨h1,h2,h3⟩:=s.ob r o e;⟨h1,by rw [hk.heap r (Array.getElem?_eq_some_iff.1 h2).1];exact h2,h3⟩
 keep:=s.keep.trans hk
 sle:=fun x v q=>hS x v (s.sle x v q)
 snew:=fun x v q=>(hnew x v q).elim (fun q=>s.snew x v q) (fun q=>.inr (.inl (Nat.le_trans s.keep.size q)))
 snap:=hS'
 vars:=fun t v e=>let ⟨x,h1,h2⟩:=s.vars t v e;⟨x,h1,h2.mono hS⟩
 mem:=fun t k e=>(s.mem t k e).mono hS hk.heap
 own:=fun t k e b n h=>by
  obtain ⟨h1,h2⟩:=s.own t k e b n h
  refine ⟨h1,fun x hx=>?_⟩
  cases hq:S' x with
  | none=>rfl
  | some v=>
   rcases hnew x v hq with h' | h'
   ·rw [h2 x hx] at h';simp at h'
   ·rcases (s.mem t k e).2 with ⟨h3,_⟩ | ⟨b',n',t',c,h3,h4,_⟩
    ·rw [h] at h3;simp at h3
    ·rw [h] at h3;simp at h3
     have:=h4.lt
     rw [←h3.1,←hx] at this
     omega
 sep:=s.sep
structure Del where
 v:AV
 blks:List (Slot×Blk):=[]
 del:List Slot:=[]
def Del.blk (δ:Del) (s:Slot):Option (Option Blk):=
 match look s δ.blks with
 | some k=>some (some k)
 | none=>if δ.del.contains s then some none else none
def FF.app (F:FF) (dst:Option Nat) (δ:Del):FF where
 var t:=if dst=some t then some δ.v else F.var t
 blk s:=(δ.blk s).getD (F.blk s)
def Fr.app (F:Fr) (dst:Option Nat) (δ:Del):Fr where
 vars:=match dst with | some d=>(d,δ.v) :: F.vars | none=>F.vars
 mem:=δ.blks++F.mem.filter fun x=>!δ.del.contains x.1
theorem look_append {κ α:Type} [DecidableEq κ] {k:κ}:∀ {l m:List (κ×α)},look k (l++m)=(look k l).or (look k m)
 | [],m=>by simp [look]
 | (k',v) :: l,m=>by
  simp only [List.cons_append,look]
  split
  ·simp
  ·exact look_append
theorem look_filter {κ α:Type} [DecidableEq κ] {k:κ} (q:κ→Bool):∀ {l:List (κ×α)},look k (l.filter fun x=>q x.1)=if q k then look k l else none
 | []=>by simp [look]
 | (k',v) :: l=>by
  simp only [List.filter_cons]
  by_cases hk:k=k'
  ·subst hk
   by_cases hq:q k
   ·simp [hq,look]
   ·simp only [hq];rw [if_neg (by simp),look_filter q,if_neg hq,if_neg (by simp)]
  ·by_cases hq:q k'
   ·simp only [hq,if_true,look,hk,if_false];exact look_filter q
   ·simp only [hq];rw [if_neg (by simp),look_filter q];simp [look,hk]
theorem Fr.app_ff (F:Fr) (dst:Option Nat) (δ:Del):(F.app dst δ).ff=F.ff.app dst δ:=by
 unfold Fr.ff FF.app
 congr 1
 ·funext t
  cases dst with
  | none=>simp [Fr.app,Fr.var]
  | some d=>
   simp only [Fr.app,Fr.var,look]
   by_cases h:t=d
   ·simp [h]
   ·have:¬d=t:=fun e=>h e.symm
    simp [h,this]
 ·funext s
  simp only [Fr.blk,Fr.app,look_append,Del.blk]
  cases h:look s δ.blks with
  | some k=>simp
  | none=>
   simp only [Option.none_or]
   rw [look_filter (fun x=>!δ.del.contains x)]
   by_cases hd:s∈δ.del<;>simp [hd]
end Go.Abs
namespace Go.Abs
open Go
set_option linter.unusedSimpArgs false
set_option linter.unusedVariables false
theorem a_put_get {a:Act} {d t:Nat} {x:Value} (hd:d<a.tmps.size):(a.put (some d) x).tmps[t]?=if t=d then some x else a.tmps[t]?:=by
 simp only [Act.put,Array.getElem?_setIfInBounds]
 by_cases h:t=d
 ·subst h;simp [hd]
 ·rw [if_neg (fun e=>h e.symm),if_neg h]
theorem a_put_size (a:Act) (d:Option Nat) (x:Value):(a.put d x).tmps.size=a.tmps.size:=by
 cases d<;>simp [Act.put]
theorem a_put_defers (a:Act) (d:Option Nat) (x:Value):(a.put d x).defers=a.defers:=by
 cases d<;>simp [Act.put]
section
variable {N:Nat} {w0:Base} {ι:Inj} {S:Snap} {F:FF} {a:Act} {w:World}
theorem St.put (h:St N w0 ι S F a w) {dst:Option Nat} {v:AV} {x:Value} (hv:AVRel ι S v x) (hd:∀ d,dst=some d→d<N) :
  St N w0 ι S { F with var:=fun t=>if dst=some t then some v else F.var t } (a.put dst x) w where
 nt:=by rw [a_put_size];exact h.nt
 nb:=h.nb
 fix:=h.fix
 df:=by rw [a_put_defers];exact h.df
 ob:=h.ob
 keep:=h.keep
 sle:=h.sle
 snew:=h.snew
 snap:=h.snap
 vars:=fun t u e=>by
  cases dst with
  | none=>simp at e;simpa [Act.put] using h.vars t u e
  | some d=>
   have hlt:d<a.tmps.size:=by rw [h.nt];exact hd d rfl
   rw [a_put_get hlt]
   simp only [Option.some.injEq] at e
   by_cases ht:d=t
   ·subst ht;simp at e;subst e;exact ⟨x,by simp,hv⟩
   ·rw [if_neg ht] at e;rw [if_neg (fun q=>ht q.symm)];exact h.vars t u e
 mem:=h.mem
 own:=h.own
 sep:=h.sep
theorem St.lay (s:Slot) (k:Blk) (h:St N w0 ι S F a w) (hb:BRel ι S w s k)
  (ho:∀ b t,ι s=some (b,t)→(w0.w.heap.size≤b∨w0.M b)∧(∀ x:Addr,x.block=b→S x=none)∧∀ s' k',F.blk s'=some k'→s'≠s→∀ b' t',ι s'=some (b',t')→b'≠b) :
  St N w0 ι S { F with blk:=fun s'=>if s'=s then some k else F.blk s' } a w where
 nt:=h.nt
 nb:=h.nb
 fix:=h.fix
 df:=h.df
 ob:=h.ob
 keep:=h.keep
 sle:=h.sle
 snew:=h.snew
 snap:=h.snap
 vars:=h.vars
 mem:=fun s' k' e=>by
  dsimp only at e
  split at e
  ·rename_i q;subst q;simp at e;subst e;exact hb
  ·exact h.mem s' k' e
 own:=fun s' k' e b t hi=>by
  dsimp only at e
  split at e
  ·rename_i q;subst q;exact ⟨(ho b t hi).1,(ho b t hi).2.1⟩
  ·exact h.own s' k' e b t hi
 sep:=fun s1 s2 k1 k2 e1 e2 hne b t b' t' h1 h2=>by
  dsimp only at e1 e2
  split at e1
  ·rename_i q1;subst q1
   split at e2
   ·rename_i q2;subst q2;exact absurd rfl hne
   ·exact fun q=>(ho b t h1).2.2 s2 k2 e2 (fun q=>hne q.symm) b' t' h2 q.symm
  ·split at e2
   ·rename_i q2;subst q2;exact (ho b' t' h2).2.2 s1 k1 e1 hne b t h1
   ·exact h.sep s1 s2 k1 k2 e1 e2 hne b t b' t' h1 h2
theorem St.touch {s:Slot} {k:Blk} {g t:Nat} {w':World} (h:St N w0 ι S F a w) (hs:F.blk s=some k) (hi:ι s=some (g,t))
  (hos:w'.os=w.os) (htape:w'.tape=w.tape) (hout:w'.output=w.output) (hsize:w.heap.size≤w'.heap.size) (hh:∀ k,k<w.heap.size→k≠g→w'.heap[k]?=w.heap[k]?) :
  St N w0 ι S { F with blk:=fun s'=>if s'=s then none else F.blk s' } a w' where
 nt:=h.nt
 nb:=h.nb
 fix:=h.fix
 df:=h.df
 ob:=fun r o e=>by
  obtain ⟨h1,h2,h3⟩:=h.ob r o e
  refine ⟨h1,?_,h3⟩
  rw [hh r (Array.getElem?_eq_some_iff.1 h2).1 ?_]
  ·exact h2
  ·intro q;subst q
   rcases (h.mem s k hs).2 with ⟨e1,_⟩ | ⟨b,total,e',c,e1,e2,_⟩
   ·rw [hi] at e1;simp at e1
   ·rw [hi] at e1;simp at e1
    have:w.heap[b]?=some (.cells c e' (0,0)):=e2
    rw [←e1.1,h2] at this
    simp at this
    exact h3 _ _ _ this
 keep:=⟨hos.trans h.keep.os,htape.trans h.keep.tape,hout.trans h.keep.output,Nat.le_trans h.keep.size hsize,fun i hlt hm=>by
  rw [hh i (Nat.lt_of_lt_of_le hlt h.keep.size) (fun e=>by
   rcases (h.own s k hs g t hi).1 with h1 | h1
   ·omega
   ·exact hm (e ▸ h1))];exact h.keep.heap i hlt hm⟩
 sle:=h.sle
 snew:=h.snew
 snap:=fun x v e=>by
  have hc:=h.snap x v e
  have hlt:=World.block_lt_of_cell? w x hc
  have hne:x.block≠g:=fun q=>by rw [(h.own s k hs g t hi).2 x q] at e;simp at e
  unfold World.cell? at hc ⊢
  rw [hh _ hlt hne];exact hc
 vars:=h.vars
 mem:=fun s' k' e=>by
  dsimp only at e
  split at e
  ·simp at e
  ·rename_i q
   obtain ⟨h1,h2⟩:=h.mem s' k' e
   refine ⟨h1,h2.imp id ?_⟩
   rintro ⟨b,total,t',c,e1,e2,e3,e4,e5,e6,e7⟩
   exact ⟨b,total,t',c,e1,e2.of_heap (hh b e2.lt (h.sep s' s k' k e hs q b total g t e1 hi)),e3,e4,e5,e6,e7⟩
 own:=fun s' k' e=>by
  dsimp only at e
  split at e
  ·simp at e
  ·exact h.own s' k' e
 sep:=fun s1 s2 k1 k2 e1 e2=>by
  dsimp only at e1 e2
  split at e1
  ·simp at e1
  ·split at e2
   ·simp at e2
   ·exact h.sep s1 s2 k1 k2 e1 e2
end
inductive Opd where
 | v (t:Nat)
 | c (p:PV)
 deriving Inhabited
mutual
def ofVal:Value→Option PV
 | .int k n=>some (.int k n)
 | .bool b=>some (.bool b)
 | .string s=>some (.str s)
 | .slice none 0 0=>some .nsl
 | .pointer none=>some .nptr
 | .nilFunc=>some .nfn
 | .nilIface=>some .nif
 | .agg ⟨cs⟩=>(ofVals cs).map .agg
 | _=>none
def ofVals:List Value→Option (List PV)
 | []=>some []
 | v :: l=>match ofVal v,ofVals l with
  | some p,some ps=>some (p :: ps)
  | _,_=>none
end
mutual
theorem ofVal_rel {S:Snap}:∀ {v:Value} {p:PV},ofVal v=some p→PRel S p v
 | .int k n,p,h=>by simp [ofVal] at h;subst h;exact .int k n
 | .bool b,p,h=>by simp [ofVal] at h;subst h;exact .bool b
 | .string s,p,h=>by simp [ofVal] at h;subst h;exact .str s
 | .slice none 0 0,p,h=>by simp [ofVal] at h;subst h;exact .nsl
 | .slice (some _) _ _,p,h=>by simp [ofVal] at h
 | .slice none (_+1) _,p,h=>by simp [ofVal] at h
 | .slice none 0 (_+1),p,h=>by simp [ofVal] at h
 | .pointer none,p,h=>by simp [ofVal] at h;subst h;exact .nptr
 | .pointer (some _),p,h=>by simp [ofVal] at h
 | .nilFunc,p,h=>by simp [ofVal] at h;subst h;exact .nfn
 | .nilIface,p,h=>by simp [ofVal] at h;subst h;exact .nif
 | .agg ⟨cs⟩,p,h=>by
  simp only [ofVal,Option.map_eq_some_iff] at h
  obtain ⟨ps,h1,rfl⟩:=h
  obtain ⟨h2,h3⟩:=ofVals_rel (S:=S) h1
  exact .agg ps cs h2 h3
 | .float ..,p,h=>by simp [ofVal] at h
 | .complex ..,p,h=>by simp [ofVal] at h
 | .map ..,p,h=>by simp [ofVal] at h
 | .chan ..,p,h=>by simp [ofVal] at h
 | .func ..,p,h=>by simp [ofVal] at h
 | .iface ..,p,h=>by simp [ofVal] at h
 | .tuple ..,p,h=>by simp [ofVal] at h
theorem ofVals_rel {S:Snap}:∀ {l:List Value} {ps:List PV},ofVals l=some ps→l.length=ps.length∧∀ (j:Nat) (p:PV) (v:Value),ps[j]?=some p→l[j]?=some v→PRel S p v
 | [],ps,h=>by simp [ofVals] at h;subst h;simp
 | v :: l,ps,h=>by
  simp only [ofVals] at h
  split at h
  ·rename_i p ps' h1 h2
   simp at h;subst h
   have r1:=ofVal_rel (S:=S) h1
   obtain ⟨r2,r3⟩:=ofVals_rel (S:=S) h2
   refine ⟨by simp [r2],fun j q u e1 e2=>?_⟩
   cases j with
   | zero=>simp at e1 e2;subst e1;subst e2;exact r1
   | succ j=>simp at e1 e2;exact r3 j q u e1 e2
  ·simp at h
end
def rO:Operand→Option Opd
 | .tmp t=>some (.v t)
 | .const v=>(ofVal v).map .c
 | .func f=>some (.c (.clo (.func f) [] []))
 | .global _=>none
def FF.val (F:FF):Opd→Option AV
 | .v t=>F.var t
 | .c p=>some (.p p)
theorem St.val {N:Nat} {w0:Base} {ι:Inj} {S:Snap} {F:FF} {a:Act} {w:World} (h:St N w0 ι S F a w) {x:Operand} {o:Opd} {v:AV} (hx:rO x=some o) (hv:F.val o=some v):AVRel ι S v (a.eval x):=by
 cases x with
 | tmp t=>
  simp [rO] at hx;subst hx
  obtain ⟨y,h1,h2⟩:=h.vars t v hv
  simpa [Act.eval,h1] using h2
 | const u=>
  simp only [rO,Option.map_eq_some_iff] at hx
  obtain ⟨p,h1,rfl⟩:=hx
  simp [FF.val] at hv;subst hv
  exact .p _ _ (ofVal_rel h1)
 | func f=>
  simp [rO] at hx;subst hx
  simp [FF.val] at hv;subst hv
  exact .p _ _ (.clo (.func f) [] [] [] [] rfl rfl (by simp) (by simp))
 | global g=>simp [rO] at hx
theorem FF.val_mono {F G:FF} (h:F.le G) {o:Opd} {v:AV} (hv:F.val o=some v):G.val o=some v:=by
 cases o with
 | v t=>exact h.1 t v hv
 | c p=>exact hv
def Rs (ι:Inj) (S:Snap) (cs:List AV) (vs:List Value):Prop:=vs.length=cs.length∧∀ (j:Nat) (p:AV) (v:Value),cs[j]?=some p→vs[j]?=some v→AVRel ι S p v
theorem Rs.nil {ι:Inj} {S:Snap}:Rs ι S [] []:=⟨rfl,by simp⟩
theorem Rs.cons {ι:Inj} {S:Snap} {c:AV} {cs:List AV} {v:Value} {vs:List Value} (h:AVRel ι S c v) (hs:Rs ι S cs vs):Rs ι S (c :: cs) (v :: vs):=
 ⟨by simp [hs.1],fun j p u e1 e2=>by cases j with
  | zero=>simp at e1 e2;subst e1;subst e2;exact h
  | succ j=>simp at e1 e2;exact hs.2 j p u e1 e2⟩
theorem Rs.uncons {ι:Inj} {S:Snap} {c:AV} {cs:List AV} {vs:List Value} (h:Rs ι S (c :: cs) vs):∃ v vs',vs=v :: vs'∧AVRel ι S c v∧Rs ι S cs vs':=by
 cases vs with
 | nil=>simp [Rs] at h
 | cons v vs=>exact ⟨v,vs,rfl,h.2 0 c v rfl rfl,by have:=h.1;simpa using this,fun j p u e1 e2=>h.2 (j+1) p u (by simpa using e1) (by simpa using e2)⟩
theorem Rs.mono {ι:Inj} {S S':Snap} (h:S.le S') {cs:List AV} {vs:List Value} (r:Rs ι S cs vs):Rs ι S' cs vs:=⟨r.1,fun j p v e1 e2=>(r.2 j p v e1 e2).mono h⟩
def allP:List AV→Option (List PV)
 | []=>some []
 | .p v :: l=>(allP l).map (v :: ·)
 | _ :: _=>none
theorem allP_eq:∀ {l:List AV} {ps:List PV},allP l=some ps→l=ps.map AV.p
 | [],ps,h=>by simp [allP] at h;subst h;rfl
 | .p v :: l,ps,h=>by
  simp only [allP,Option.map_eq_some_iff] at h
  obtain ⟨qs,h1,rfl⟩:=h
  simp [allP_eq h1]
 | .ref .. :: _,_,h=>by simp [allP] at h
 | .ptr .. :: _,_,h=>by simp [allP] at h
 | .agg .. :: _,_,h=>by simp [allP] at h
 | .tup .. :: _,_,h=>by simp [allP] at h
 | .clo .. :: _,_,h=>by simp [allP] at h
 | .top :: _,_,h=>by simp [allP] at h
def Ps (S:Snap) (ps:List PV) (vs:List Value):Prop:=vs.length=ps.length∧∀ (j:Nat) (p:PV) (v:Value),ps[j]?=some p→vs[j]?=some v→PRel S p v
theorem AVRel.inv_p {ι:Inj} {S:Snap} {p:PV} {x:Value} (h:AVRel ι S (.p p) x):PRel S p x:=by cases h;assumption
theorem Rs.toPs {ι:Inj} {S:Snap} {l:List AV} {ps:List PV} {vs:List Value} (e:allP l=some ps) (h:Rs ι S l vs):Ps S ps vs:=by
 obtain rfl:=allP_eq e
 exact ⟨by simpa using h.1,fun j p v e1 e2=>(h.2 j (.p p) v (by simp [e1]) e2).inv_p⟩
theorem Ps.toRs {ι:Inj} {S:Snap} {ps:List PV} {vs:List Value} (h:Ps S ps vs):Rs ι S (ps.map AV.p) vs:=
 ⟨by simpa using h.1,fun j p v e1 e2=>by
  simp only [List.getElem?_map,Option.map_eq_some_iff] at e1
  obtain ⟨q,h1,rfl⟩:=e1
  exact .p _ _ (h.2 j q v h1 e2)⟩
def mkAgg (cs:List AV):AV:=match allP cs with | some ps=>.p (.agg ps) | none=>.agg cs
def mkTup (cs:List AV):AV:=match allP cs with | some ps=>.p (.tup ps) | none=>.tup cs
theorem mkAgg_rel {ι:Inj} {S:Snap} {cs:List AV} {vs:List Value} (h:Rs ι S cs vs):AVRel ι S (mkAgg cs) (.agg vs.toArray):=by
 unfold mkAgg
 split
 ·rename_i ps e;exact .p _ _ (.agg ps vs (h.toPs e).1 (h.toPs e).2)
 ·exact .agg cs vs h.1 h.2
def AV.cells:AV→Option (List AV)
 | .p (.agg cs)=>some (cs.map .p)
 | .p (.tup _)=>none
 | .agg cs=>some cs
 | .tup _=>none
 | .top=>none
 | v=>some [v]
theorem AV.cells_rel {ι:Inj} {S:Snap} {v:AV} {x:Value} {cs:List AV} (h:AVRel ι S v x) (e:v.cells=some cs):Rs ι S cs x.cells.toList:=by
 cases h with
 | p p x hp=>
  have hp':=hp
  cases hp<;>simp only [AV.cells,Option.some.injEq] at e<;>first
   | (simp at e;done)
   | (subst e;exact .cons (.p _ _ hp') .nil)
   | skip
  ·subst e;rename_i ps vs hl hh;exact Ps.toRs ⟨by simpa [Value.cells] using hl,by simpa [Value.cells] using hh⟩
 | ref s size off len b total cap a hi hc hl ha=>simp [AV.cells] at e;subst e;exact .cons (.ref s size off len b total cap a hi hc hl ha) .nil
 | refnil s size hi=>simp [AV.cells] at e;subst e;exact .cons (.refnil s size hi) .nil
 | ptr s size row off b total hi=>simp [AV.cells] at e;subst e;exact .cons (.ptr s size row off b total hi) .nil
 | agg cells vs hl h=>simp [AV.cells] at e;subst e;exact ⟨by simpa [Value.cells] using hl,by simpa [Value.cells] using h⟩
 | tup cells vs hl h=>simp [AV.cells] at e
 | clo fn f c fs cs' hf hc h1 h2=>simp [AV.cells] at e;subst e;exact .cons (.clo fn f c fs cs' hf hc h1 h2) .nil
 | top x=>simp [AV.cells] at e
def FF.read (F:FF):AV→Nat→Option (List AV)
 | .p (.ro cells),n=>if n≤cells.length then some ((cells.take n).map .p) else none
 | .ptr s size row off,n=>match F.blk s with
  | some (.sl _ sz rows)=>if sz=size then (match rows[row]? with | some r=>if off+n≤size then some (((r.drop off).take n).map .p) else none | none=>none) else none
  | some (.box cells)=>if row=0 then (if off+n≤cells.length then some ((cells.drop off).take n) else none) else none
  | none=>none
 | _,_=>none
theorem FF.read_mono {F G:FF} (h:F.le G) {x:AV} {n:Nat} {cs:List AV} (e:F.read x n=some cs):G.read x n=some cs:=by
 unfold FF.read at *
 split at e<;>try (simp at e;done)
 ·simpa using e
 ·rename_i s size row off
  cases hb:F.blk s with
  | none=>simp [hb] at e
  | some k=>simp only [hb] at e;simpa [h.2 s k hb] using e
theorem addr_add (b o j:Nat):(⟨b,o,none⟩:Addr).add j=⟨b,o+j,none⟩:=by unfold Addr.add;split<;>simp_all
theorem FF.read_len {F:FF} {x:AV} {n:Nat} {cs:List AV} (hw:∀ s k,F.blk s=some k→k.wf) (e:F.read x n=some cs):cs.length=n:=by
 unfold FF.read at e
 split at e<;>try (simp at e;done)
 ·split at e
  ·simp at e;subst e;simp;omega
  ·simp at e
 ·rename_i s size row off
  cases hb:F.blk s with
  | none=>simp [hb] at e
  | some k=>
   have hwf:=hw s k hb
   simp only [hb] at e
   cases k with
   | sl t sz rows=>
    simp only at e
    split at e
    ·rename_i hsz;subst hsz
     split at e
     ·rename_i r hr
      split at e
      ·simp at e;subst e
       have:=hwf row r hr
       simp;omega
      ·simp at e
     ·simp at e
    ·simp at e
   | box cells=>
    simp only at e
    split at e
    ·split at e
     ·simp at e;subst e;simp;omega
     ·simp at e
    ·simp at e
theorem St.read {N:Nat} {w0:Base} {ι:Inj} {S:Snap} {F:FF} {a:Act} {w:World} (h:St N w0 ι S F a w) {x:AV} {v:Value} {n:Nat} {cs:List AV} (hx:AVRel ι S x v) (e:F.read x n=some cs) :
  ∃ p:Addr,v=.pointer (some p)∧cs.length=n∧∀ (j:Nat) (c:AV),cs[j]?=some c→∃ u,w.cell? (p.add j)=some u∧AVRel ι S c u:=by
 have hlen:=FF.read_len (fun s k hs=>(h.mem s k hs).1) e
 unfold FF.read at e
 split at e<;>try (simp at e;done)
 ·rename_i cells
  split at e
  ·simp at e;subst e
   cases hx with
   | p _ _ hp=>
    cases hp with
    | ro _ p f hc hr=>
     refine ⟨p,rfl,hlen,fun j c hj=>?_⟩
     simp only [List.getElem?_map,List.getElem?_take] at hj
     split at hj
     ·simp only [Option.map_eq_some_iff] at hj
      obtain ⟨q,h1,rfl⟩:=hj
      exact ⟨f j,h.snap _ _ (hc j q h1),.p _ _ (hr j q h1)⟩
     ·simp at hj
  ·simp at e
 ·rename_i s size row off
  cases hb:F.blk s with
  | none=>simp [hb] at e
  | some k=>
   have hm:=h.mem s k hb
   simp only [hb] at e
   cases hx with
   | ptr _ _ _ _ b total hi=>
    refine ⟨_,rfl,hlen,fun j c hj=>?_⟩
    rcases hm.2 with ⟨h1,_⟩ | ⟨b',total',t',c',h1,h2,h3,h4,h5,h6,h7⟩
    ·rw [hi] at h1;simp at h1
    ·rw [hi] at h1;simp at h1;obtain ⟨rfl,rfl⟩:=h1
     rw [addr_add,h2.cell]
     cases k with
     | sl t sz rows=>
      simp only at e
      split at e
      ·rename_i hsz;subst hsz
       split at e
       ·rename_i r hr
        split at e
        ·simp at e;subst e
         simp only [List.getElem?_take,List.getElem?_drop,List.getElem?_map] at hj
         split at hj
         ·obtain ⟨u,e1,e2⟩:=h7 row (off+j) c (by simpa [Blk.cell,hr] using hj)
          exact ⟨u,by simpa [Blk.size,Nat.add_assoc] using e1,e2⟩
         ·simp at hj
        ·simp at e
       ·simp at e
      ·simp at e
     | box cells=>
      simp only at e
      split at e
      ·rename_i hrow;subst hrow
       split at e
       ·simp at e;subst e
        simp only [List.getElem?_take,List.getElem?_drop] at hj
        split at hj
        ·obtain ⟨u,e1,e2⟩:=h7 0 (off+j) c (by simpa [Blk.cell] using hj)
         exact ⟨u,by simpa [Nat.add_assoc] using e1,e2⟩
        ·simp at hj
       ·simp at e
      ·simp at e
end Go.Abs
namespace Go.Abs
open Go
set_option linter.unusedSimpArgs false
set_option linter.unusedVariables false
inductive AOp where
 | mov (x:Opd)
 | pick (c a b:Opd)
 | alloc (zero:List PV)
 | box (x:Opd)
 | build (zero:List PV) (parts:List (Nat×Nat×Opd))
 | bslice (e:TypeId) (size len:Nat) (zero:List PV) (parts:List (Nat×Nat×Opd))
 | load (agg:Bool) (n:Nat) (x:Opd)
 | store (n:Nat) (x v:Opd)
 | nilck (x:Opd)
 | bin (op:BinOp) (x y:Opd)
 | eqb (neg:Bool) (x y:Opd)
 | eqs (neg:Bool) (n:Nat) (leaves:List (Nat×Nat)) (x y:Opd)
 | un (op:UnOp) (x:Opd)
 | conv (k:IntKind) (x:Opd)
 | mkfn (fn:Fn) (first captured:List Opd)
 | mksl (e:TypeId) (size bytes:Nat) (zero:List PV) (len cap:Opd)
 | slcS (x:Opd) (lo hi:Option Opd)
 | slcV (size:Nat) (x:Opd) (lo hi:Option Opd)
 | faddr (off:Nat) (x:Opd)
 | field (off:Nat) (agg:Bool) (n:Nat) (x:Opd)
 | iaddr (size:Nat) (x i:Opd)
 | iaddrA (size n:Nat) (x i:Opd)
 | idxS (x i:Opd)
 | idxA (size:Nat) (agg:Bool) (len:Nat) (x i:Opd)
 | ext (x:Opd) (i:Nat)
 | call (f:FuncId) (args:List Opd)
 | callv (x:Opd) (args:List Opd)
 | len (str:Bool) (x:Opd)
 | mm (mx:Bool) (x y:Opd)
 | app (e:TypeId) (size bytes:Nat) (s x:Opd)
 | mm3 (mx:Bool) (x y z:Opd)
 | nilsl (neg:Bool) (x:Opd)
 | b2s (x:Opd)
 | s2b (e:TypeId) (x:Opd)
 | cpy (size:Nat) (x y:Opd)
 | allocR (e:TypeId) (zero:List PV)
 deriving Inhabited
def aggB (P:Program) (t:TypeId):Option Bool:=match P.underlying t with
 | some (.struct _) | some (.array _ _)=>some true
 | some _=>some false
 | none=>none
def sizeO (P:Program) (t:TypeId):Option Nat:=(P.info? t).map (·.size)
def zeroO (P:Program) (t:TypeId):Option (List PV):=((P.info? t).bind (·.zero)).bind fun z=>ofVals z.cells.toList
def rOs:List Operand→Option (List Opd)
 | []=>some []
 | x :: l=>match rO x,rOs l with
  | some o,some os=>some (o :: os)
  | _,_=>none
def rOo:Option Operand→Option (Option Opd)
 | none=>some none
 | some x=>(rO x).map some
def fieldsO (P:Program):List Field→Option (List (Nat×Nat))
 | []=>some []
 | f :: l=>match sizeO P f.type,fieldsO P l with
  | some n,some r=>some ((f.offset,n) :: r)
  | _,_=>none
def partsG (place:Nat→Option (Nat×Nat)):List (Nat×Operand)→Option (List (Nat×Nat×Opd))
 | []=>some []
 | (i,x) :: l=>match place i,rO x,partsG place l with
  | some (off,n),some o,some r=>some ((off,n,o) :: r)
  | _,_,_=>none
def leavesFg (P:Program) (g:TypeId→Nat→Option (List (Nat×Nat))) (n base:Nat):List Field→Option (List (Nat×Nat))
 | []=>some []
 | f :: fs=>match sizeO P f.type,g f.type (base+f.offset),leavesFg P g n base fs with
  | some m,some l,some r=>if f.name≠ "_"∧f.offset+m≤n then some (l++r) else none
  | _,_,_=>none
def leavesAg (g:TypeId→Nat→Option (List (Nat×Nat))) (e:TypeId) (m base:Nat):List Nat→Option (List (Nat×Nat))
 | []=>some []
 | i :: is=>match g e (base+i*m),leavesAg g e m base is with
  | some l,some r=>some (l++r)
  | _,_=>none
def leaves (P:Program):Nat→TypeId→Nat→Option (List (Nat×Nat))
 | 0,_,_=>none
 | d+1,t,base=>match P.underlying t,sizeO P t with
  | some .bool,some 1=>some [(base,0)]
  | some (.int _),some 1=>some [(base,1)]
  | some .string,some 1=>some [(base,2)]
  | some (.struct fs),some n=>if P.stoodInHeld t=false then leavesFg P (fun t b=>leaves P d t b) n base fs.toList else none
  | some (.array len e),some n=>match sizeO P e with
   | some m=>if len*m≤n then leavesAg (fun t b=>leaves P d t b) e m base (List.range' 0 len) else none
   | none=>none
  | _,_=>none
abbrev leavesF (P:Program) (d n base:Nat):List Field→Option (List (Nat×Nat)):=leavesFg P (fun t b=>leaves P d t b) n base
abbrev leavesA (P:Program) (d:Nat) (e:TypeId) (m base:Nat):List Nat→Option (List (Nat×Nat)):=leavesAg (fun t b=>leaves P d t b) e m base
def resolveCall (P:Program) (c:Call):Option AOp:=
 match c.callee,c.args.toList,c.argTypes.toList with
 | .value (.func f),args,_=>match P.funcs[f]? with
  | some fn=>if fn.body.isSome=true∧(fn.name == "runtime.NumGoroutine")=false then (rOs args).map (.call f) else none
  | none=>none
 | .value x,args,_=>match rO x,rOs args with
  | some o,some os=>some (.callv o os)
  | _,_=>none
 | .builtin .len,[x],[t]=>match P.underlying t with
  | some .string=>(rO x).map (.len true)
  | some (.slice _)=>(rO x).map (.len false)
  | _=>none
 | .builtin .max,[x,y],_=>match rO x,rO y with | some o,some o'=>some (.mm true o o') | _,_=>none
 | .builtin .min,[x,y],_=>match rO x,rO y with | some o,some o'=>some (.mm false o o') | _,_=>none
 | .builtin .max,[x,y,z],_=>match rO x,rO y,rO z with | some o,some o',some o''=>some (.mm3 true o o' o'') | _,_,_=>none
 | .builtin .min,[x,y,z],_=>match rO x,rO y,rO z with | some o,some o',some o''=>some (.mm3 false o o' o'') | _,_,_=>none
 | .builtin .copy,[x,y],[t,u]=>match P.underlying t,P.underlying u,rO x,rO y with
  | some (.slice e),some (.slice e'),some o,some o'=>match sizeO P e with
   | some n=>if e=e'∧0<n then some (.cpy n o o') else none
   | none=>none
  | _,_,_,_=>none
 | .builtin .append,[s,x],[t,u]=>match P.underlying t with
  | some (.slice e)=>match P.info? e,rO s,rO x with
   | some i,some o,some o'=>if t=u∧i.zero.map (·.cells.size)=some i.size∧0<i.size then some (.app e i.size i.bytes o o') else none
   | _,_,_=>none
  | _=>none
 | _,_,_=>none
def allocOf (t:TypeId) (z:List PV):AOp:=match z with
 | [.nptr,.nsl]=>.allocR t [.nptr,.nsl]
 | z=>.alloc z
def resolveOp (P:Program) (op:Op):Option AOp:=
 match op with
 | .move x | .assign x=>(rO x).map .mov
 | .pick c a b=>match rO c,rO a,rO b with
  | some c,some a,some b=>some (.pick c a b)
  | _,_,_=>none
 | .alloc t=>(zeroO P t).map (allocOf t)
 | .box _ x=>(rO x).map .box
 | .build t parts=>match zeroO P t with
  | none=>none
  | some z=>match P.underlying t with
   | some (.struct fs)=>match fieldsO P fs.toList with
    | some l=>(partsG (l[·]?) parts.toList).map (.build z)
    | none=>none
   | some (.array _ e)=>match sizeO P e with
    | some n=>(partsG (fun i=>some (i*n,n)) parts.toList).map (.build z)
    | none=>none
   | _=>none
 | .buildSlice t len parts=>match P.underlying t with
  | some (.slice e)=>match sizeO P e,zeroO P e with
   | some n,some z=>if len*n≤16777216∧n=z.length∧0<n then (partsG (fun i=>some (i*n,n)) parts.toList).map (.bslice e n len ((List.range (len*n)).map fun j=>z.getD (j % n) .nif)) else none
   | _,_=>none
  | _=>none
 | .load t x=>match aggB P t,sizeO P t,rO x with
  | some b,some n,some o=>some (.load b (if b then n else 1) o)
  | _,_,_=>none
 | .store t x v=>match sizeO P t,rO x,rO v with
  | some n,some o,some o'=>some (.store n o o')
  | _,_,_=>none
 | .nilCheck x=>(rO x).map .nilck
 | .binOp op t x y _=>match rO x,rO y with
  | some o,some o'=>match P.underlying t with
   | some (.int _) | some .string=>some (.bin op o o')
   | some .bool=>match op with | .eql=>some (.eqb false o o') | .neq=>some (.eqb true o o') | _=>none
   | some (.slice _)=>match op,o' with | .eql,.c .nsl=>some (.nilsl false o) | .neq,.c .nsl=>some (.nilsl true o) | _,_=>none
   | some (.struct _) | some (.array _ _)=>if P.eqGuardType P.depth t=false then (match leaves P 20 t 0,sizeO P t,op with | some ls,some n,.eql=>some (.eqs false n ls o o') | some ls,some n,.neq=>some (.eqs true n ls o o') | _,_,_=>none) else none
   | _=>none
  | _,_=>none
 | .unOp op _ x=>(rO x).map (.un op)
 | .convert s t x=>match P.underlying s,P.underlying t,rO x with
  | some _,some (.int k),some o=>some (.conv k o)
  | some (.slice e),some .string,some o=>match P.underlying e with
   | some (.int .u8)=>if sizeO P e=some 1 then some (.b2s o) else none
   | _=>none
  | some .string,some (.slice e),some o=>match P.underlying e with
   | some (.int .u8)=>some (.s2b e o)
   | _=>none
  | _,_,_=>none
 | .makeFunc fn first captured=>match rOs first.toList,rOs captured.toList with
  | some f,some c=>some (.mkfn fn f c)
  | _,_=>none
 | .makeSlice t l c=>match P.underlying t with
  | some (.slice e)=>match P.info? e,zeroO P e,rO l,rO c with
   | some i,some z,some l,some c=>if i.size=z.length∧0<i.size then some (.mksl e i.size i.bytes z l c) else none
   | _,_,_,_=>none
  | _=>none
 | .slice t x lo hi none=>match P.underlying t,rO x,rOo lo,rOo hi with
  | some .string,some o,some lo,some hi=>some (.slcS o lo hi)
  | some (.slice e),some o,some lo,some hi=>match sizeO P e with
   | some n=>some (.slcV n o lo hi)
   | none=>none
  | _,_,_,_=>none
 | .fieldAddr s x f=>match P.underlying s,rO x with
  | some (.struct fs),some o=>match fs[f]? with
   | some fd=>match sizeO P fd.type with
    | some n=>if n=0 then none else some (.faddr fd.offset o)
    | none=>none
   | none=>none
  | _,_=>none
 | .field t x f=>match P.underlying t,rO x with
  | some (.struct fs),some o=>match fs[f]? with
   | some fd=>match aggB P fd.type,sizeO P fd.type with
    | some b,some n=>some (.field fd.offset b (if b then n else 1) o)
    | _,_=>none
   | none=>none
  | _,_=>none
 | .indexAddr t x i=>match P.underlying t,rO x,rO i with
  | some (.slice e),some o,some o'=>match sizeO P e with
   | some n=>if n=0 then none else some (.iaddr n o o')
   | none=>none
  | some (.array len e),some o,some o'=>match sizeO P e with
   | some n=>some (.iaddrA n len o o')
   | none=>none
  | _,_,_=>none
 | .index t x i=>match P.underlying t,rO x,rO i with
  | some .string,some o,some o'=>some (.idxS o o')
  | some (.array len e),some o,some o'=>match aggB P e,sizeO P e with
   | some b,some n=>some (.idxA n b len o o')
   | _,_=>none
  | _,_,_=>none
 | .extract x i=>(rO x).map (.ext · i)
 | .call c=>resolveCall P c
 | _=>none
def pickV (t:Bool):AV→AV→AV
 | .p (.bool x),.p (.bool y)=>.p (.bool (if t then x else y))
 | a,b=>if t then a else b
def binI (op:BinOp) (k:IntKind) (x y:Int):Option PV:=
 match op with
 | .add=>some (.int k (k.wrap (x+y)))
 | .sub=>some (.int k (k.wrap (x - y)))
 | .mul=>some (.int k (k.wrap (x*y)))
 | .quo=>if y=0 then none else some (.int k (k.wrap (x.tdiv y)))
 | .rem=>if y=0 then none else some (.int k (x.tmod y))
 | .and=>some (.int k (k.wrap ((BitVec.ofInt k.bits x &&& BitVec.ofInt k.bits y).toNat)))
 | .or=>some (.int k (k.wrap ((BitVec.ofInt k.bits x ||| BitVec.ofInt k.bits y).toNat)))
 | .xor=>some (.int k (k.wrap ((BitVec.ofInt k.bits x ^^^ BitVec.ofInt k.bits y).toNat)))
 | .andNot=>some (.int k (k.wrap ((BitVec.ofInt k.bits x &&& ~~~ BitVec.ofInt k.bits y).toNat)))
 | .eql=>some (.bool (decide (x=y)))
 | .neq=>some (.bool (!decide (x=y)))
 | .lss=>some (.bool (decide (x<y)))
 | .leq=>some (.bool (decide (x≤y)))
 | .gtr=>some (.bool (decide (x > y)))
 | .geq=>some (.bool (decide (x ≥ y)))
 | _=>none
def shI (op:BinOp) (k:IntKind) (x y:Int):Option PV:=
 if y<0 then none else
 match op with
 | .shl=>some (.int k (k.wrap (x*2 ^ (min y.toNat k.bits))))
 | .shr=>some (.int k (x.fdiv (2 ^ (min y.toNat k.bits))))
 | _=>none
def binS (op:BinOp) (x y:ByteArray):Option PV:=
 match op with
 | .add=>if x.size+y.size≤9223372036854775807 then some (.str (x++y)) else none
 | .eql=>some (.bool (x.toList == y.toList))
 | .neq=>some (.bool (!(x.toList == y.toList)))
 | .lss=>some (.bool (Op.bytesLess x.toList y.toList))
 | .leq=>some (.bool (Op.bytesLess x.toList y.toList || x.toList == y.toList))
 | .gtr=>some (.bool (!(Op.bytesLess x.toList y.toList || x.toList == y.toList)))
 | .geq=>some (.bool (!(Op.bytesLess x.toList y.toList)))
 | _=>none
def binV (op:BinOp):AV→AV→Option AV
 | .p (.int k x),.p (.int k' y)=>(match op with
  | .shl | .shr=>shI op k x y
  | _=>if k=k' then binI op k x y else none).map .p
 | .p (.str x),.p (.str y)=>(binS op x y).map .p
 | _,_=>none
def unV (op:UnOp):AV→Option AV
 | .p (.bool b)=>match op with | .not=>some (.p (.bool (!b))) | _=>none
 | .p (.int k n)=>match op with
  | .neg=>some (.p (.int k (k.wrap (0 - n))))
  | _=>none
 | _=>none
def fillA (cells:List AV):List (Nat×List AV)→Option (List AV)
 | []=>some cells
 | (off,cs) :: l=>if off+cs.length≤cells.length then fillA (cells.take off++cs++cells.drop (off+cs.length)) l else none
def FF.parts (F:FF):List (Nat×Nat×Opd)→Option (List (Nat×List AV))
 | []=>some []
 | (off,n,x) :: l=>match (F.val x).bind AV.cells,F.parts l with
  | some cs,some r=>if cs.length=n then some ((off,cs) :: r) else none
  | _,_=>none
def FF.vals (F:FF):List Opd→Option (List AV)
 | []=>some []
 | x :: l=>match F.val x,F.vals l with
  | some v,some vs=>some (v :: vs)
  | _,_=>none
def headO (agg:Bool) (cs:List AV):Option AV:=if agg then some (mkAgg cs) else cs[0]?
def intO:AV→Option Int
 | .p (.int _ n)=>some n
 | _=>none
def boundO (F:FF) (dflt:Nat):Option Opd→Option Int
 | none=>some dflt
 | some x=>(F.val x).bind intO
def lenV (str:Bool):AV→Option Nat
 | .p (.str s)=>if str then some s.size else none
 | .p .nsl=>if str then none else some 0
 | .p (.sl _ rows)=>if str then none else some rows.length
 | .ref _ _ _ len=>if str then none else some len
 | _=>none
def scalarEq:Nat→PV→PV→Option Bool
 | 1,.int k x,.int k' y=>if k=k' then some (decide (x=y)) else none
 | 0,.bool x,.bool y=>some (x == y)
 | 2,.str x,.str y=>some (x.toList == y.toList)
 | _,_,_=>none
def leavesEq (us vs:List PV):List (Nat×Nat)→Option Bool
 | []=>some true
 | (i,k) :: l=>match (us[i]?.bind fun u=>vs[i]?.bind fun v=>scalarEq k u v),leavesEq us vs l with
  | some b,some r=>some (b && r)
  | _,_=>none
def AV.aggc:AV→Option (List AV)
 | .p (.agg cs)=>some (cs.map .p)
 | .agg cs=>some cs
 | _=>none
def evV (F:FF):AOp→Option AV
 | .mov x=>F.val x
 | .pick c a b=>match F.val c,F.val a,F.val b with
  | some (.p (.bool t)),some va,some vb=>some (pickV t va vb)
  | _,_,_=>none
 | .build zero parts=>(F.parts parts).bind fun ps=>(fillA (zero.map .p) ps).map mkAgg
 | .load agg n x=>(F.val x).bind fun v=>(F.read v n).bind (headO agg)
 | .nilck x=>match F.val x with
  | some (.ptr s a b c)=>some (.ptr s a b c)
  | some (.p (.ro cs))=>some (.p (.ro cs))
  | _=>none
 | .bin op x y=>match F.val x,F.val y with
  | some a,some b=>binV op a b
  | _,_=>none
 | .eqb neg x y=>match F.val x,F.val y with
  | some (.p (.bool a)),some (.p (.bool b))=>some (.p (.bool (if neg then !(a == b) else (a == b))))
  | _,_=>none
 | .un op x=>(F.val x).bind (unV op)
 | .conv k x=>match F.val x with
  | some (.p (.int _ n))=>some (.p (.int k (k.wrap n)))
  | _=>none
 | .mkfn fn first captured=>match F.vals first,F.vals captured with
  | some f,some c=>some (match allP f,allP c with | some f',some c'=>.p (.clo fn f' c') | _,_=>.clo fn f c)
  | _,_=>none
 | .slcS x lo hi=>match F.val x with
  | some (.p (.str s))=>match boundO F 0 lo,boundO F s.size hi with
   | some l,some h=>if 0≤l∧l≤h∧h≤s.size then some (.p (.str (s.extract l.toNat h.toNat))) else none
   | _,_=>none
  | _=>none
 | .slcV size x lo hi=>match F.val x with
  | some (.p .nsl)=>match boundO F 0 lo,boundO F 0 hi with
   | some l,some h=>if 0≤l∧l≤h∧h≤0 then some (.p .nsl) else none
   | _,_=>none
  | some (.p (.sl sz rows))=>match boundO F 0 lo,boundO F rows.length hi with
   | some l,some h=>if sz=size∧0≤l∧l≤h∧h≤rows.length then some (.p (.sl sz ((rows.take h.toNat).drop l.toNat))) else none
   | _,_=>none
  | some (.ref s sz off len)=>match boundO F 0 lo,boundO F len hi with
   | some l,some h=>if sz=size∧0≤l∧l≤h∧h≤len then some (.ref s sz (off+l.toNat) (h.toNat - l.toNat)) else none
   | _,_=>none
  | _=>none
 | .faddr off x=>match F.val x with
  | some (.ptr s size row o)=>some (.ptr s size row (o+off))
  | some (.p (.ro cells))=>some (.p (.ro (cells.drop off)))
  | _=>none
 | .field off agg n x=>((F.val x).bind AV.aggc).bind fun cs=>if off+n≤cs.length then headO agg ((cs.drop off).take n) else none
 | .iaddr size x i=>match F.val x,(F.val i).bind intO with
  | some (.p (.sl sz rows)),some i=>if sz=size∧0≤i then (rows[i.toNat]?).map fun r=>.p (.ro r) else none
  | some (.ref s sz off len),some i=>if sz=size∧0≤i∧i<len then some (.ptr s sz (off+i.toNat) 0) else none
  | _,_=>none
 | .iaddrA size n x i=>match F.val x,(F.val i).bind intO with
  | some (.p (.ro cells)),some i=>if 0≤i∧i<n then some (.p (.ro (cells.drop (i.toNat*size)))) else none
  | some (.ptr s sz row o),some i=>if 0≤i∧i<n then some (.ptr s sz row (o+i.toNat*size)) else none
  | _,_=>none
 | .idxS x i=>match F.val x,(F.val i).bind intO with
  | some (.p (.str s)),some i=>if 0≤i then (s[i.toNat]?).map fun (b:UInt8)=>AV.p (.int .u8 (Int.ofNat b.toNat)) else none
  | _,_=>none
 | .idxA size agg len x i=>match (F.val x).bind AV.aggc,(F.val i).bind intO with
  | some cs,some i=>if 0≤i∧i<len∧i.toNat*size+size≤cs.length∧(agg=false→size=1) then headO agg ((cs.drop (i.toNat*size)).take size) else none
  | _,_=>none
 | .ext x i=>match F.val x with
  | some (.p (.tup vs))=>(vs[i]?).map .p
  | some (.tup vs)=>vs[i]?
  | _=>none
 | .len str x=>((F.val x).bind (lenV str)).map fun (n:Nat)=>AV.p (.int .i64 (Int.ofNat n))
 | .mm mx x y=>match F.val x,F.val y with
  | some (.p (.int k a)),some (.p (.int _ b))=>some (.p (.int k (if mx then max a b else min a b)))
  | _,_=>none
 | .mm3 mx x y z=>match F.val x,F.val y,F.val z with
  | some (.p (.int k a)),some (.p (.int _ b)),some (.p (.int _ c))=>some (.p (.int k (if mx then max (max a b) c else min (min a b) c)))
  | _,_,_=>none
 | .nilsl neg x=>match F.val x with
  | some (.p .nsl)=>some (.p (.bool !neg))
  | some (.p (.sl sz rows))=>if 0<rows.length∧0<sz then some (.p (.bool neg)) else none
  | some (.ref _ _ _ len)=>if 0<len then some (.p (.bool neg)) else none
  | _=>none
 | .eqs neg n ls x y=>match F.val x,F.val y with
  | some (.p (.agg a)),some (.p (.agg b))=>if a.length=n∧b.length=n then (leavesEq a b ls).map fun r=>.p (.bool (if neg then !r else r)) else none
  | _,_=>none
 | _=>none
end Go.Abs
