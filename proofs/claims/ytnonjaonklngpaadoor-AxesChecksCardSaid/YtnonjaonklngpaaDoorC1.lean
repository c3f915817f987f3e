/- A part of the proof: an abstract reading of the model, contracts of functions. -/
import Derived.Calls
import Derived.Orders
import Derived.Laws.Sem
import Derived.Laws.Rows
import Derived.Laws.World
import Derived.Laws.AppendOwn
import Derived.Laws.MakeOwn
import Derived.KernelRfl
import Derived.ChangeKeysEq
import Derived.Laws.StructEq
/- An abstract reading of the model: values without addresses, frames of slots, and how they relate to the model's memory. -/
namespace Go.Abs
open Go

/-- Values by content: nothing in them can be written. -/
inductive PV where
  | int (k : IntKind) (n : Int)
  | bool (b : Bool)
  | str (s : ByteArray)
  | nsl
  | sl (size : Nat) (rows : List (List PV))
  | nptr
  | ro (cells : List PV)
  | nfn
  | clo (fn : Fn) (first captured : List PV)
  | agg (cells : List PV)
  | tup (vs : List PV)
  | nif
  | ifc (t : TypeId) (v : PV)
  deriving Inhabited

abbrev Slot := Nat × Nat

/-- Values of a frame: by content, or into a block that the frame owns. -/
inductive AV where
  | p (v : PV)
  | ref (s : Slot) (size off len : Nat)
  | ptr (s : Slot) (size row off : Nat)
  | agg (cells : List AV)
  | tup (vs : List AV)
  | clo (fn : Fn) (first captured : List AV)
  | top
  deriving Inhabited

/-- Blocks that a frame owns: rows of values by content, or the cells of one variable. -/
inductive Blk where
  | sl (e : TypeId) (size : Nat) (rows : List (List PV))
  | box (cells : List AV)
  deriving Inhabited

/-- What is known of memory for good. -/
abbrev Snap := Addr → Option Value

def Snap.holds (S : Snap) (w : World) : Prop := ∀ a v, S a = some v → w.cell? a = some v
def Snap.le (S S' : Snap) : Prop := ∀ a v, S a = some v → S' a = some v

inductive PRel (S : Snap) : PV → Value → Prop where
  | int (k : IntKind) (n : Int) : PRel S (.int k n) (.int k n)
  | bool (b : Bool) : PRel S (.bool b) (.bool b)
  | str (s : ByteArray) : PRel S (.str s) (.string s)
  | nsl : PRel S .nsl (.slice none 0 0)
  | sl (size : Nat) (rows : List (List PV)) (a : Option Addr) (cap : Nat) (f : Nat → Nat → Value) (hcap : rows.length ≤ cap)
      (hsz : ∀ (i : Nat) (row : List PV), rows[i]? = some row → row.length = size)
      (hcell : ∀ (i : Nat) (row : List PV) (j : Nat) (p : PV), rows[i]? = some row → row[j]? = some p → ∃ b : Addr, a = some b ∧ S (b.add (i * size + j)) = some (f i j))
      (hrel : ∀ (i : Nat) (row : List PV) (j : Nat) (p : PV), rows[i]? = some row → row[j]? = some p → PRel S p (f i j)) :
      PRel S (.sl size rows) (.slice a rows.length cap)
  | nptr : PRel S .nptr (.pointer none)
  | ro (cells : List PV) (a : Addr) (f : Nat → Value) (hcell : ∀ (j : Nat) (p : PV), cells[j]? = some p → S (a.add j) = some (f j))
      (hrel : ∀ (j : Nat) (p : PV), cells[j]? = some p → PRel S p (f j)) : PRel S (.ro cells) (.pointer (some a))
  | nfn : PRel S .nfn .nilFunc
  | clo (fn : Fn) (first captured : List PV) (fs cs : List Value) (hf : fs.length = first.length) (hc : cs.length = captured.length)
      (h1 : ∀ (j : Nat) (p : PV) (v : Value), first[j]? = some p → fs[j]? = some v → PRel S p v)
      (h2 : ∀ (j : Nat) (p : PV) (v : Value), captured[j]? = some p → cs[j]? = some v → PRel S p v) : PRel S (.clo fn first captured) (.func fn fs.toArray cs.toArray)
  | agg (cells : List PV) (vs : List Value) (hl : vs.length = cells.length)
      (h : ∀ (j : Nat) (p : PV) (v : Value), cells[j]? = some p → vs[j]? = some v → PRel S p v) : PRel S (.agg cells) (.agg vs.toArray)
  | tup (cells : List PV) (vs : List Value) (hl : vs.length = cells.length)
      (h : ∀ (j : Nat) (p : PV) (v : Value), cells[j]? = some p → vs[j]? = some v → PRel S p v) : PRel S (.tup cells) (.tuple vs.toArray)
  | nif : PRel S .nif .nilIface
  | ifc (t : TypeId) (p : PV) (v : Value) (h : PRel S p v) : PRel S (.ifc t p) (.iface t v)

/-- Where a slot's block lies: its number, and how many rows it has room for. -/
abbrev Inj := Slot → Option (Nat × Nat)

inductive AVRel (ι : Inj) (S : Snap) : AV → Value → Prop where
  | p (v : PV) (x : Value) (h : PRel S v x) : AVRel ι S (.p v) x
  | ref (s : Slot) (size off len b total cap : Nat) (a : Addr) (hi : ι s = some (b, total)) (hc : off + cap ≤ total) (hl : len ≤ cap)
      (ha : cap = 0 ∨ a = ⟨b, off * size, none⟩) : AVRel ι S (.ref s size off len) (.slice (some a) len cap)
  | refnil (s : Slot) (size : Nat) (hi : ι s = none) : AVRel ι S (.ref s size 0 0) (.slice none 0 0)
  | ptr (s : Slot) (size row off b total : Nat) (hi : ι s = some (b, total)) : AVRel ι S (.ptr s size row off) (.pointer (some ⟨b, row * size + off, none⟩))
  | agg (cells : List AV) (vs : List Value) (hl : vs.length = cells.length)
      (h : ∀ (j : Nat) (p : AV) (v : Value), cells[j]? = some p → vs[j]? = some v → AVRel ι S p v) : AVRel ι S (.agg cells) (.agg vs.toArray)
  | tup (cells : List AV) (vs : List Value) (hl : vs.length = cells.length)
      (h : ∀ (j : Nat) (p : AV) (v : Value), cells[j]? = some p → vs[j]? = some v → AVRel ι S p v) : AVRel ι S (.tup cells) (.tuple vs.toArray)
  | clo (fn : Fn) (first captured : List AV) (fs cs : List Value) (hf : fs.length = first.length) (hc : cs.length = captured.length)
      (h1 : ∀ (j : Nat) (p : AV) (v : Value), first[j]? = some p → fs[j]? = some v → AVRel ι S p v)
      (h2 : ∀ (j : Nat) (p : AV) (v : Value), captured[j]? = some p → cs[j]? = some v → AVRel ι S p v) : AVRel ι S (.clo fn first captured) (.func fn fs.toArray cs.toArray)
  | top (x : Value) : AVRel ι S .top x

theorem PRel.mono {S S' : Snap} (h : S.le S') {p : PV} {v : Value} (r : PRel S p v) : PRel S' p v := by
  induction r with
  | int k n => exact .int k n
  | bool b => exact .bool b
  | str s => exact .str s
  | nsl => exact .nsl
  | sl size rows a cap f hcap hsz hcell hrel ih =>
    exact .sl size rows a cap f hcap hsz (fun i row j p h1 h2 => let ⟨b, e, hs⟩ := hcell i row j p h1 h2; ⟨b, e, h _ _ hs⟩) ih
  | nptr => exact .nptr
  | ro cells a f hcell hrel ih => exact .ro cells a f (fun j p h1 => h _ _ (hcell j p h1)) ih
  | nfn => exact .nfn
  | clo fn first captured fs cs hf hc h1 h2 ih1 ih2 => exact .clo fn first captured fs cs hf hc ih1 ih2
  | agg cells vs hl h ih => exact .agg cells vs hl ih
  | tup cells vs hl h ih => exact .tup cells vs hl ih
  | nif => exact .nif
  | ifc t p v h ih => exact .ifc t p v ih

theorem AVRel.mono {ι : Inj} {S S' : Snap} (h : S.le S') {p : AV} {v : Value} (r : AVRel ι S p v) : AVRel ι S' p v := by
  induction r with
  | p v x hr => exact .p v x (hr.mono h)
  | ref s size off len b total cap a hi hc hl ha => exact .ref s size off len b total cap a hi hc hl ha
  | refnil s size hi => exact .refnil s size hi
  | ptr s size row off b total hi => exact .ptr s size row off b total hi
  | agg cells vs hl h ih => exact .agg cells vs hl ih
  | tup cells vs hl h ih => exact .tup cells vs hl ih
  | clo fn first captured fs cs hf hc h1 h2 ih1 ih2 => exact .clo fn first captured fs cs hf hc ih1 ih2
  | top x => exact .top x

mutual
/-- The value does not speak of slot d. -/
def AV.noSlot (d : Slot) : AV → Bool
  | .p _ => true
  | .ref s _ _ _ => decide (s ≠ d)
  | .ptr s _ _ _ => decide (s ≠ d)
  | .agg cs => AV.noSlotL d cs
  | .tup cs => AV.noSlotL d cs
  | .clo _ f c => AV.noSlotL d f && AV.noSlotL d c
  | .top => true
def AV.noSlotL (d : Slot) : List AV → Bool
  | [] => true
  | v :: l => v.noSlot d && AV.noSlotL d l
end

theorem AV.noSlotL_get {d : Slot} : ∀ {l : List AV} {j : Nat} {v : AV}, AV.noSlotL d l = true → l[j]? = some v → v.noSlot d = true
  | [], _, _, _, h => by simp at h
  | x :: l, 0, v, h, e => by simp [AV.noSlotL] at h e; exact e ▸ h.1
  | x :: l, j + 1, v, h, e => by simp [AV.noSlotL] at h e; exact AV.noSlotL_get h.2 e

/-- The slots of other owners may be laid anew. -/
theorem AVRel.inj {ι ι' : Inj} {S : Snap} {d : Slot} (hi : ∀ s : Slot, s ≠ d → ι' s = ι s) {p : AV} {v : Value} (r : AVRel ι S p v) (hn : p.noSlot d = true) : AVRel ι' S p v := by
  induction r with
  | p v x hr => exact .p v x hr
  | ref s size off len b total cap a h1 hc hl ha => exact .ref s size off len b total cap a (by rw [hi s (by simpa [AV.noSlot] using hn)]; exact h1) hc hl ha
  | refnil s size h1 => exact .refnil s size (by rw [hi s (by simpa [AV.noSlot] using hn)]; exact h1)
  | ptr s size row off b total h1 => exact .ptr s size row off b total (by rw [hi s (by simpa [AV.noSlot] using hn)]; exact h1)
  | agg cells vs hl h ih => exact .agg cells vs hl fun j p v h1 h2 => ih j p v h1 h2 (AV.noSlotL_get (by simpa [AV.noSlot] using hn) h1)
  | tup cells vs hl h ih => exact .tup cells vs hl fun j p v h1 h2 => ih j p v h1 h2 (AV.noSlotL_get (by simpa [AV.noSlot] using hn) h1)
  | clo fn first captured fs cs hf hc h1 h2 ih1 ih2 =>
    simp [AV.noSlot] at hn
    exact .clo fn first captured fs cs hf hc (fun j p v e1 e2 => ih1 j p v e1 e2 (AV.noSlotL_get hn.1 e1)) (fun j p v e1 e2 => ih2 j p v e1 e2 (AV.noSlotL_get hn.2 e1))
  | top x => exact .top x

/-! ### blocks -/
def Blk.size : Blk → Nat
  | .sl _ size _ => size
  | .box cells => cells.length
def Blk.nrows : Blk → Nat
  | .sl _ _ rows => rows.length
  | .box _ => 1
def Blk.cell : Blk → Nat → Nat → Option AV
  | .sl _ _ rows, i, j => (rows[i]?.bind (·[j]?)).map AV.p
  | .box cells, i, j => if i = 0 then cells[j]? else none
def Blk.wf : Blk → Prop
  | .sl _ size rows => ∀ (i : Nat) (row : List PV), rows[i]? = some row → row.length = size
  | .box _ => True
def Blk.elem : Blk → TypeId → Prop
  | .sl e _ _, e' => e = e'
  | .box _, _ => True
def Blk.noSlot (d : Slot) : Blk → Bool
  | .sl _ _ _ => true
  | .box cells => AV.noSlotL d cells

/-- The block lies in memory, whole, and may be written. -/
def Lies (w : World) (b : Nat) (e : TypeId) (c : Array Value) : Prop := w.heap[b]? = some (.cells c e (0, 0))

def BRel (ι : Inj) (S : Snap) (w : World) (s : Slot) (k : Blk) : Prop :=
  k.wf ∧ ((ι s = none ∧ k.nrows = 0) ∨
    ∃ b total e c, ι s = some (b, total) ∧ Lies w b e c ∧ k.elem e ∧ c.size = total * k.size ∧ k.nrows ≤ total ∧ total ≤ maxLen ∧
      ∀ i j av, k.cell i j = some av → ∃ v, c[i * k.size + j]? = some v ∧ AVRel ι S av v)

theorem Blk.cell_noSlot {d : Slot} {k : Blk} (h : k.noSlot d = true) {i j : Nat} {av : AV} (e : k.cell i j = some av) : av.noSlot d = true := by
  cases k with
  | sl _ size rows =>
    simp only [Blk.cell, Option.map_eq_some_iff] at e
    obtain ⟨x, _, rfl⟩ := e
    rfl
  | box cells =>
    simp only [Blk.cell] at e
    split at e
    · exact AV.noSlotL_get h e
    · simp at e

theorem Lies.of_heap {w w' : World} {b : Nat} {t : TypeId} {c : Array Value} (h : Lies w b t c) (e : w'.heap[b]? = w.heap[b]?) : Lies w' b t c := by
  unfold Lies at *; rw [e]; exact h
theorem Lies.lt {w : World} {b : Nat} {t : TypeId} {c : Array Value} (h : Lies w b t c) : b < w.heap.size :=
  (Array.getElem?_eq_some_iff.1 h).1
theorem Lies.cell {w : World} {b : Nat} {t : TypeId} {c : Array Value} (h : Lies w b t c) (j : Nat) : w.cell? ⟨b, j, none⟩ = c[j]? := by
  unfold Lies at h; simp [World.cell?, h]
theorem Lies.frozen {w : World} {b : Nat} {t : TypeId} {c : Array Value} (h : Lies w b t c) (j : Nat) : w.frozen? ⟨b, j, none⟩ = false := by
  unfold Lies at h; simp [World.frozen?, h]

theorem BRel.mono {ι : Inj} {S S' : Snap} {w w' : World} {s : Slot} {k : Blk} (hS : S.le S')
    (hw : ∀ b, b < w.heap.size → w'.heap[b]? = w.heap[b]?) (h : BRel ι S w s k) : BRel ι S' w' s k := by
  refine ⟨h.1, h.2.imp id ?_⟩
  rintro ⟨b, total, t, c, h1, h2, h3, h4, h5, h6, h7⟩
  exact ⟨b, total, t, c, h1, h2.of_heap (hw b h2.lt), h3, h4, h5, h6, fun i j av e => let ⟨v, e1, e2⟩ := h7 i j av e; ⟨v, e1, e2.mono hS⟩⟩

theorem BRel.inj {ι ι' : Inj} {S : Snap} {w : World} {s : Slot} {k : Blk} {d : Slot} (hi : ∀ s : Slot, s ≠ d → ι' s = ι s) (hs : s ≠ d) (hn : k.noSlot d = true) (h : BRel ι S w s k) : BRel ι' S w s k := by
  refine ⟨h.1, ?_⟩
  rw [hi s hs]
  refine h.2.imp id ?_
  rintro ⟨b, total, t, c, h1, h2, h3, h4, h5, h6, h7⟩
  exact ⟨b, total, t, c, h1, h2, h3, h4, h5, h6, fun i j av e => let ⟨v, e1, e2⟩ := h7 i j av e; ⟨v, e1, e2.inj hi (Blk.cell_noSlot hn e)⟩⟩

/-! ### frames -/
def look {κ α : Type} [DecidableEq κ] (k : κ) : List (κ × α) → Option α
  | [] => none
  | (k', v) :: l => if k = k' then some v else look k l

/-- What is known of a frame, slot by slot. -/
structure FF where
  var : Nat → Option AV
  blk : Slot → Option Blk

structure Fr where
  vars : List (Nat × AV)
  mem : List (Slot × Blk)

def Fr.var (F : Fr) (t : Nat) : Option AV := look t F.vars
def Fr.blk (F : Fr) (s : Slot) : Option Blk := look s F.mem
def Fr.ff (F : Fr) : FF := ⟨F.var, F.blk⟩

/-- What of the world no call may turn. -/
structure Keep (w0 w : World) : Prop where
  os : w.os = w0.os
  tape : w.tape = w0.tape
  output : w.output = w0.output
  size : w0.heap.size ≤ w.heap.size
  heap : ∀ k, k < w0.heap.size → w.heap[k]? = w0.heap[k]?

theorem Keep.refl (w : World) : Keep w w := ⟨rfl, rfl, rfl, Nat.le_refl _, fun _ _ => rfl⟩
theorem Keep.trans {a b c : World} (h : Keep a b) (k : Keep b c) : Keep a c :=
  ⟨k.os.trans h.os, k.tape.trans h.tape, k.output.trans h.output, Nat.le_trans h.size k.size, fun i hi => (k.heap i (Nat.lt_of_lt_of_le hi h.size)).trans (h.heap i hi)⟩
theorem Keep.alloc (w : World) (o : Obj) : Keep w (w.alloc o) := ⟨rfl, rfl, rfl, by simp, fun k hk => heap_alloc_old w o k hk⟩
theorem Keep.drew (w : World) : Keep w { w with drawn := w.drawn + 1 } := ⟨rfl, rfl, rfl, Nat.le_refl _, fun _ _ => rfl⟩
theorem Keep.cell {w w' : World} (h : Keep w w') {a : Addr} {v : Value} (e : w.cell? a = some v) : w'.cell? a = some v := by
  have hlt := World.block_lt_of_cell? w a e
  unfold World.cell? at e ⊢
  rw [h.heap _ hlt]
  exact e

/-- Where a call began, and what was known of memory for good. -/
structure Base where
  w : World
  S : Snap
  /-- The marks that loops over functions have left. -/
  D : List Nat := []
  /-- Objects that only loops over functions may turn. -/
  O : Nat → Option Obj := fun _ => none

def markOf (r : Nat) : Deferred := { target := .collected r, args := #[] }

structure St (N : Nat) (w0 : Base) (ι : Inj) (S : Snap) (F : FF) (a : Act) (w : World) : Prop where
  nt : a.tmps.size = N
  df : a.defers = w0.D.map markOf
  ob : ∀ r o, w0.O r = some o → w0.w.heap.size ≤ r ∧ w.heap[r]? = some o ∧ ∀ c e q, o ≠ .cells c e q
  keep : Keep w0.w w
  sle : w0.S.le S
  snew : ∀ x v, S x = some v → w0.S x = some v ∨ w0.w.heap.size ≤ x.block
  snap : S.holds w
  vars : ∀ t v, F.var t = some v → ∃ x, a.tmps[t]? = some x ∧ AVRel ι S v x
  mem : ∀ s k, F.blk s = some k → BRel ι S w s k
  own : ∀ s k, F.blk s = some k → ∀ b t, ι s = some (b, t) → w0.w.heap.size ≤ b ∧ ∀ x : Addr, x.block = b → S x = none
  sep : ∀ s s' k k', F.blk s = some k → F.blk s' = some k' → s ≠ s' → ∀ b t b' t', ι s = some (b, t) → ι s' = some (b', t') → b ≠ b'

/-- A frame of which less is known. -/
def FF.le (F G : FF) : Prop := (∀ t v, F.var t = some v → G.var t = some v) ∧ ∀ s k, F.blk s = some k → G.blk s = some k
theorem FF.le_refl (F : FF) : F.le F := ⟨fun _ _ h => h, fun _ _ h => h⟩
theorem FF.le_trans {F G H : FF} (h : F.le G) (k : G.le H) : F.le H := ⟨fun t v e => k.1 t v (h.1 t v e), fun t v e => k.2 t v (h.2 t v e)⟩

theorem St.weaken {N : Nat} {w0 : Base} {ι : Inj} {S : Snap} {F G : FF} {a : Act} {w : World} (h : F.le G) (s : St N w0 ι S G a w) : St N w0 ι S F a w where
  nt := s.nt
  df := s.df
  ob := s.ob
  keep := s.keep
  sle := s.sle
  snew := s.snew
  snap := s.snap
  vars := fun t v e => s.vars t v (h.1 t v e)
  mem := fun t v e => s.mem t v (h.2 t v e)
  own := fun t v e => s.own t v (h.2 t v e)
  sep := fun t t' v v' e e' => s.sep t t' v v' (h.2 t v e) (h.2 t' v' e')

/-- Nothing in the frame speaks of slot d. -/
def FF.noSlot (d : Slot) (F : FF) : Prop := (∀ t v, F.var t = some v → v.noSlot d = true) ∧ ∀ s k, F.blk s = some k → s ≠ d ∧ k.noSlot d = true

def Fr.noSlot (d : Slot) (F : Fr) : Bool := F.vars.all (fun x => x.2.noSlot d) && F.mem.all (fun x => decide (x.1 ≠ d) && x.2.noSlot d)

theorem look_mem {κ α : Type} [DecidableEq κ] {k : κ} {v : α} : ∀ {l : List (κ × α)}, look k l = some v → (k, v) ∈ l
  | [], h => by simp [look] at h
  | (k', v') :: l, h => by
    simp only [look] at h
    split at h
    · rename_i e; simp at h; subst e; subst h; simp
    · exact List.mem_cons_of_mem _ (look_mem h)

theorem Fr.noSlot_ff {d : Slot} {F : Fr} (h : F.noSlot d = true) : F.ff.noSlot d := by
  simp only [Fr.noSlot, Bool.and_eq_true, List.all_eq_true] at h
  refine ⟨fun t v e => h.1 _ (look_mem e), fun s k e => ?_⟩
  have := h.2 _ (look_mem e)
  simpa using this

/-- A new world (more blocks, more known for good), slot d laid anew. -/
theorem St.step {N : Nat} {w0 : Base} {ι ι' : Inj} {S S' : Snap} {F : FF} {a : Act} {w w' : World} (d : Slot) (s : St N w0 ι S F a w) (hk : Keep w w') (hS : S.le S') (hS' : S'.holds w')
    (hnew : ∀ x v, S' x = some v → S x = some v ∨ w.heap.size ≤ x.block) (hi : ∀ s : Slot, s ≠ d → ι' s = ι s) (hd : F.noSlot d) : St N w0 ι' S' F a w' where
  nt := s.nt
  df := s.df
  ob := fun r o e => let ⟨h1, h2, h3⟩ := s.ob r o e; ⟨h1, by rw [hk.heap r (Array.getElem?_eq_some_iff.1 h2).1]; exact h2, h3⟩
  keep := s.keep.trans hk
  sle := fun x v q => hS x v (s.sle x v q)
  snew := fun x v q => (hnew x v q).elim (fun q => s.snew x v q) (fun q => .inr (Nat.le_trans s.keep.size q))
  snap := hS'
  vars := fun t v e => let ⟨x, h1, h2⟩ := s.vars t v e; ⟨x, h1, (h2.mono hS).inj hi (hd.1 t v e)⟩
  mem := fun t k e => ((s.mem t k e).mono hS hk.heap).inj hi (hd.2 t k e).1 (hd.2 t k e).2
  own := fun t k e b n h => by
    rw [hi t (hd.2 t k e).1] at h
    obtain ⟨h1, h2⟩ := s.own t k e b n h
    refine ⟨h1, fun x hx => ?_⟩
    cases hq : S' x with
    | none => rfl
    | some v =>
      rcases hnew x v hq with h' | h'
      · rw [h2 x hx] at h'; simp at h'
      · rcases (s.mem t k e).2 with ⟨h3, _⟩ | ⟨b', n', t', c, h3, h4, _⟩
        · rw [h] at h3; simp at h3
        · rw [h] at h3; simp at h3
          have := h4.lt
          rw [← h3.1, ← hx] at this
          omega
  sep := fun t t' k k' e e' hne b n b' n' h h' => by
    rw [hi t (hd.2 t k e).1] at h
    rw [hi t' (hd.2 t' k' e').1] at h'
    exact s.sep t t' k k' e e' hne b n b' n' h h'

/-- The same, with no slot laid. -/
theorem St.step0 {N : Nat} {w0 : Base} {ι : Inj} {S S' : Snap} {F : FF} {a : Act} {w w' : World} (s : St N w0 ι S F a w) (hk : Keep w w') (hS : S.le S') (hS' : S'.holds w')
    (hnew : ∀ x v, S' x = some v → S x = some v ∨ w.heap.size ≤ x.block) : St N w0 ι S' F a w' where
  nt := s.nt
  df := s.df
  ob := fun r o e => let ⟨h1, h2, h3⟩ := s.ob r o e; ⟨h1, by rw [hk.heap r (Array.getElem?_eq_some_iff.1 h2).1]; exact h2, h3⟩
  keep := s.keep.trans hk
  sle := fun x v q => hS x v (s.sle x v q)
  snew := fun x v q => (hnew x v q).elim (fun q => s.snew x v q) (fun q => .inr (Nat.le_trans s.keep.size q))
  snap := hS'
  vars := fun t v e => let ⟨x, h1, h2⟩ := s.vars t v e; ⟨x, h1, h2.mono hS⟩
  mem := fun t k e => (s.mem t k e).mono hS hk.heap
  own := fun t k e b n h => by
    obtain ⟨h1, h2⟩ := s.own t k e b n h
    refine ⟨h1, fun x hx => ?_⟩
    cases hq : S' x with
    | none => rfl
    | some v =>
      rcases hnew x v hq with h' | h'
      · rw [h2 x hx] at h'; simp at h'
      · rcases (s.mem t k e).2 with ⟨h3, _⟩ | ⟨b', n', t', c, h3, h4, _⟩
        · rw [h] at h3; simp at h3
        · rw [h] at h3; simp at h3
          have := h4.lt
          rw [← h3.1, ← hx] at this
          omega
  sep := s.sep

/-! ### what an operation does to what is known -/
structure Del where
  v : AV
  blks : List (Slot × Blk) := []
  del : List Slot := []

def Del.blk (δ : Del) (s : Slot) : Option (Option Blk) :=
  match look s δ.blks with
  | some k => some (some k)
  | none => if δ.del.contains s then some none else none

def FF.app (F : FF) (dst : Option Nat) (δ : Del) : FF where
  var t := if dst = some t then some δ.v else F.var t
  blk s := (δ.blk s).getD (F.blk s)

def Fr.app (F : Fr) (dst : Option Nat) (δ : Del) : Fr where
  vars := match dst with | some d => (d, δ.v) :: F.vars | none => F.vars
  mem := δ.blks ++ F.mem.filter fun x => !δ.del.contains x.1

theorem look_append {κ α : Type} [DecidableEq κ] {k : κ} : ∀ {l m : List (κ × α)}, look k (l ++ m) = (look k l).or (look k m)
  | [], m => by simp [look]
  | (k', v) :: l, m => by
    simp only [List.cons_append, look]
    split
    · simp
    · exact look_append
theorem look_filter {κ α : Type} [DecidableEq κ] {k : κ} (q : κ → Bool) : ∀ {l : List (κ × α)}, look k (l.filter fun x => q x.1) = if q k then look k l else none
  | [] => by simp [look]
  | (k', v) :: l => by
    simp only [List.filter_cons]
    by_cases hk : k = k'
    · subst hk
      by_cases hq : q k
      · simp [hq, look]
      · simp only [hq]; rw [if_neg (by simp), look_filter q, if_neg hq, if_neg (by simp)]
    · by_cases hq : q k'
      · simp only [hq, if_true, look, hk, if_false]; exact look_filter q
      · simp only [hq]; rw [if_neg (by simp), look_filter q]; simp [look, hk]

theorem Fr.app_ff (F : Fr) (dst : Option Nat) (δ : Del) : (F.app dst δ).ff = F.ff.app dst δ := by
  unfold Fr.ff FF.app
  congr 1
  · funext t
    cases dst with
    | none => simp [Fr.app, Fr.var]
    | some d =>
      simp only [Fr.app, Fr.var, look]
      by_cases h : t = d
      · simp [h]
      · have : ¬ d = t := fun e => h e.symm
        simp [h, this]
  · funext s
    simp only [Fr.blk, Fr.app, look_append, Del.blk]
    cases h : look s δ.blks with
    | some k => simp
    | none =>
      simp only [Option.none_or]
      rw [look_filter (fun x => !δ.del.contains x)]
      by_cases hd : s ∈ δ.del <;> simp [hd]

end Go.Abs
namespace Go.Abs
open Go
set_option linter.unusedSimpArgs false
set_option linter.unusedVariables false

/-! ### what stays -/
theorem a_put_get {a : Act} {d t : Nat} {x : Value} (hd : d < a.tmps.size) : (a.put (some d) x).tmps[t]? = if t = d then some x else a.tmps[t]? := by
  simp only [Act.put, Array.getElem?_setIfInBounds]
  by_cases h : t = d
  · subst h; simp [hd]
  · rw [if_neg (fun e => h e.symm), if_neg h]
theorem a_put_size (a : Act) (d : Option Nat) (x : Value) : (a.put d x).tmps.size = a.tmps.size := by
  cases d <;> simp [Act.put]
theorem a_put_defers (a : Act) (d : Option Nat) (x : Value) : (a.put d x).defers = a.defers := by
  cases d <;> simp [Act.put]

section
variable {N : Nat} {w0 : Base} {ι : Inj} {S : Snap} {F : FF} {a : Act} {w : World}

/-- A slot of the frame is written. -/
theorem St.put (h : St N w0 ι S F a w) {dst : Option Nat} {v : AV} {x : Value} (hv : AVRel ι S v x) (hd : ∀ d, dst = some d → d < N) :
    St N w0 ι S { F with var := fun t => if dst = some t then some v else F.var t } (a.put dst x) w where
  nt := by rw [a_put_size]; exact h.nt
  df := by rw [a_put_defers]; exact h.df
  ob := h.ob
  keep := h.keep
  sle := h.sle
  snew := h.snew
  snap := h.snap
  vars := fun t u e => by
    cases dst with
    | none => simp at e; simpa [Act.put] using h.vars t u e
    | some d =>
      have hlt : d < a.tmps.size := by rw [h.nt]; exact hd d rfl
      rw [a_put_get hlt]
      simp only [Option.some.injEq] at e
      by_cases ht : d = t
      · subst ht; simp at e; subst e; exact ⟨x, by simp, hv⟩
      · rw [if_neg ht] at e; rw [if_neg (fun q => ht q.symm)]; exact h.vars t u e
  mem := h.mem
  own := h.own
  sep := h.sep

/-- One more block is known. -/
theorem St.lay (s : Slot) (k : Blk) (h : St N w0 ι S F a w) (hb : BRel ι S w s k)
    (ho : ∀ b t, ι s = some (b, t) → w0.w.heap.size ≤ b ∧ (∀ x : Addr, x.block = b → S x = none) ∧ ∀ s' k', F.blk s' = some k' → s' ≠ s → ∀ b' t', ι s' = some (b', t') → b' ≠ b) :
    St N w0 ι S { F with blk := fun s' => if s' = s then some k else F.blk s' } a w where
  nt := h.nt
  df := h.df
  ob := h.ob
  keep := h.keep
  sle := h.sle
  snew := h.snew
  snap := h.snap
  vars := h.vars
  mem := fun s' k' e => by
    dsimp only at e
    split at e
    · rename_i q; subst q; simp at e; subst e; exact hb
    · exact h.mem s' k' e
  own := fun s' k' e b t hi => by
    dsimp only at e
    split at e
    · rename_i q; subst q; exact ⟨(ho b t hi).1, (ho b t hi).2.1⟩
    · exact h.own s' k' e b t hi
  sep := fun s1 s2 k1 k2 e1 e2 hne b t b' t' h1 h2 => by
    dsimp only at e1 e2
    split at e1
    · rename_i q1; subst q1
      split at e2
      · rename_i q2; subst q2; exact absurd rfl hne
      · exact fun q => (ho b t h1).2.2 s2 k2 e2 (fun q => hne q.symm) b' t' h2 q.symm
    · split at e2
      · rename_i q2; subst q2; exact (ho b' t' h2).2.2 s1 k1 e1 hne b t h1
      · exact h.sep s1 s2 k1 k2 e1 e2 hne b t b' t' h1 h2

/-- A block is written, and forgotten. -/
theorem St.touch {s : Slot} {k : Blk} {g t : Nat} {w' : World} (h : St N w0 ι S F a w) (hs : F.blk s = some k) (hi : ι s = some (g, t))
    (hos : w'.os = w.os) (htape : w'.tape = w.tape) (hout : w'.output = w.output) (hsize : w.heap.size ≤ w'.heap.size) (hh : ∀ k, k < w.heap.size → k ≠ g → w'.heap[k]? = w.heap[k]?) :
    St N w0 ι S { F with blk := fun s' => if s' = s then none else F.blk s' } a w' where
  nt := h.nt
  df := h.df
  ob := fun r o e => by
    obtain ⟨h1, h2, h3⟩ := h.ob r o e
    refine ⟨h1, ?_, h3⟩
    rw [hh r (Array.getElem?_eq_some_iff.1 h2).1 ?_]
    · exact h2
    · intro q; subst q
      rcases (h.mem s k hs).2 with ⟨e1, _⟩ | ⟨b, total, e', c, e1, e2, _⟩
      · rw [hi] at e1; simp at e1
      · rw [hi] at e1; simp at e1
        have : w.heap[b]? = some (.cells c e' (0, 0)) := e2
        rw [← e1.1, h2] at this
        simp at this
        exact h3 _ _ _ this
  keep := ⟨hos.trans h.keep.os, htape.trans h.keep.tape, hout.trans h.keep.output, Nat.le_trans h.keep.size hsize, fun i hlt => by
    rw [hh i (Nat.lt_of_lt_of_le hlt h.keep.size) (by have := (h.own s k hs g t hi).1; omega)]; exact h.keep.heap i hlt⟩
  sle := h.sle
  snew := h.snew
  snap := fun x v e => by
    have hc := h.snap x v e
    have hlt := World.block_lt_of_cell? w x hc
    have hne : x.block ≠ g := fun q => by rw [(h.own s k hs g t hi).2 x q] at e; simp at e
    unfold World.cell? at hc ⊢
    rw [hh _ hlt hne]; exact hc
  vars := h.vars
  mem := fun s' k' e => by
    dsimp only at e
    split at e
    · simp at e
    · rename_i q
      obtain ⟨h1, h2⟩ := h.mem s' k' e
      refine ⟨h1, h2.imp id ?_⟩
      rintro ⟨b, total, t', c, e1, e2, e3, e4, e5, e6, e7⟩
      exact ⟨b, total, t', c, e1, e2.of_heap (hh b e2.lt (h.sep s' s k' k e hs q b total g t e1 hi)), e3, e4, e5, e6, e7⟩
  own := fun s' k' e => by
    dsimp only at e
    split at e
    · simp at e
    · exact h.own s' k' e
  sep := fun s1 s2 k1 k2 e1 e2 => by
    dsimp only at e1 e2
    split at e1
    · simp at e1
    · split at e2
      · simp at e2
      · exact h.sep s1 s2 k1 k2 e1 e2
end

/-! ### operands -/
inductive Opd where
  | v (t : Nat)
  | c (p : PV)
  deriving Inhabited

mutual
def ofVal : Value → Option PV
  | .int k n => some (.int k n)
  | .bool b => some (.bool b)
  | .string s => some (.str s)
  | .slice none 0 0 => some .nsl
  | .pointer none => some .nptr
  | .nilFunc => some .nfn
  | .nilIface => some .nif
  | .agg ⟨cs⟩ => (ofVals cs).map .agg
  | _ => none
def ofVals : List Value → Option (List PV)
  | [] => some []
  | v :: l => match ofVal v, ofVals l with
    | some p, some ps => some (p :: ps)
    | _, _ => none
end

mutual
theorem ofVal_rel {S : Snap} : ∀ {v : Value} {p : PV}, ofVal v = some p → PRel S p v
  | .int k n, p, h => by simp [ofVal] at h; subst h; exact .int k n
  | .bool b, p, h => by simp [ofVal] at h; subst h; exact .bool b
  | .string s, p, h => by simp [ofVal] at h; subst h; exact .str s
  | .slice none 0 0, p, h => by simp [ofVal] at h; subst h; exact .nsl
  | .slice (some _) _ _, p, h => by simp [ofVal] at h
  | .slice none (_ + 1) _, p, h => by simp [ofVal] at h
  | .slice none 0 (_ + 1), p, h => by simp [ofVal] at h
  | .pointer none, p, h => by simp [ofVal] at h; subst h; exact .nptr
  | .pointer (some _), p, h => by simp [ofVal] at h
  | .nilFunc, p, h => by simp [ofVal] at h; subst h; exact .nfn
  | .nilIface, p, h => by simp [ofVal] at h; subst h; exact .nif
  | .agg ⟨cs⟩, p, h => by
    simp only [ofVal, Option.map_eq_some_iff] at h
    obtain ⟨ps, h1, rfl⟩ := h
    obtain ⟨h2, h3⟩ := ofVals_rel (S := S) h1
    exact .agg ps cs h2 h3
  | .float .., p, h => by simp [ofVal] at h
  | .complex .., p, h => by simp [ofVal] at h
  | .map .., p, h => by simp [ofVal] at h
  | .chan .., p, h => by simp [ofVal] at h
  | .func .., p, h => by simp [ofVal] at h
  | .iface .., p, h => by simp [ofVal] at h
  | .tuple .., p, h => by simp [ofVal] at h
theorem ofVals_rel {S : Snap} : ∀ {l : List Value} {ps : List PV}, ofVals l = some ps → l.length = ps.length ∧ ∀ (j : Nat) (p : PV) (v : Value), ps[j]? = some p → l[j]? = some v → PRel S p v
  | [], ps, h => by simp [ofVals] at h; subst h; simp
  | v :: l, ps, h => by
    simp only [ofVals] at h
    split at h
    · rename_i p ps' h1 h2
      simp at h; subst h
      have r1 := ofVal_rel (S := S) h1
      obtain ⟨r2, r3⟩ := ofVals_rel (S := S) h2
      refine ⟨by simp [r2], fun j q u e1 e2 => ?_⟩
      cases j with
      | zero => simp at e1 e2; subst e1; subst e2; exact r1
      | succ j => simp at e1 e2; exact r3 j q u e1 e2
    · simp at h
end

def rO : Operand → Option Opd
  | .tmp t => some (.v t)
  | .const v => (ofVal v).map .c
  | .func f => some (.c (.clo (.func f) [] []))
  | .global _ => none

def FF.val (F : FF) : Opd → Option AV
  | .v t => F.var t
  | .c p => some (.p p)

theorem St.val {N : Nat} {w0 : Base} {ι : Inj} {S : Snap} {F : FF} {a : Act} {w : World} (h : St N w0 ι S F a w) {x : Operand} {o : Opd} {v : AV} (hx : rO x = some o) (hv : F.val o = some v) : AVRel ι S v (a.eval x) := by
  cases x with
  | tmp t =>
    simp [rO] at hx; subst hx
    obtain ⟨y, h1, h2⟩ := h.vars t v hv
    simpa [Act.eval, h1] using h2
  | const u =>
    simp only [rO, Option.map_eq_some_iff] at hx
    obtain ⟨p, h1, rfl⟩ := hx
    simp [FF.val] at hv; subst hv
    exact .p _ _ (ofVal_rel h1)
  | func f =>
    simp [rO] at hx; subst hx
    simp [FF.val] at hv; subst hv
    exact .p _ _ (.clo (.func f) [] [] [] [] rfl rfl (by simp) (by simp))
  | global g => simp [rO] at hx

theorem FF.val_mono {F G : FF} (h : F.le G) {o : Opd} {v : AV} (hv : F.val o = some v) : G.val o = some v := by
  cases o with
  | v t => exact h.1 t v hv
  | c p => exact hv

/-! ### lists of values -/
def Rs (ι : Inj) (S : Snap) (cs : List AV) (vs : List Value) : Prop := vs.length = cs.length ∧ ∀ (j : Nat) (p : AV) (v : Value), cs[j]? = some p → vs[j]? = some v → AVRel ι S p v

theorem Rs.nil {ι : Inj} {S : Snap} : Rs ι S [] [] := ⟨rfl, by simp⟩
theorem Rs.cons {ι : Inj} {S : Snap} {c : AV} {cs : List AV} {v : Value} {vs : List Value} (h : AVRel ι S c v) (hs : Rs ι S cs vs) : Rs ι S (c :: cs) (v :: vs) :=
  ⟨by simp [hs.1], fun j p u e1 e2 => by cases j with
    | zero => simp at e1 e2; subst e1; subst e2; exact h
    | succ j => simp at e1 e2; exact hs.2 j p u e1 e2⟩
theorem Rs.uncons {ι : Inj} {S : Snap} {c : AV} {cs : List AV} {vs : List Value} (h : Rs ι S (c :: cs) vs) : ∃ v vs', vs = v :: vs' ∧ AVRel ι S c v ∧ Rs ι S cs vs' := by
  cases vs with
  | nil => simp [Rs] at h
  | cons v vs => exact ⟨v, vs, rfl, h.2 0 c v rfl rfl, by have := h.1; simpa using this, fun j p u e1 e2 => h.2 (j + 1) p u (by simpa using e1) (by simpa using e2)⟩
theorem Rs.mono {ι : Inj} {S S' : Snap} (h : S.le S') {cs : List AV} {vs : List Value} (r : Rs ι S cs vs) : Rs ι S' cs vs := ⟨r.1, fun j p v e1 e2 => (r.2 j p v e1 e2).mono h⟩

def allP : List AV → Option (List PV)
  | [] => some []
  | .p v :: l => (allP l).map (v :: ·)
  | _ :: _ => none

theorem allP_eq : ∀ {l : List AV} {ps : List PV}, allP l = some ps → l = ps.map AV.p
  | [], ps, h => by simp [allP] at h; subst h; rfl
  | .p v :: l, ps, h => by
    simp only [allP, Option.map_eq_some_iff] at h
    obtain ⟨qs, h1, rfl⟩ := h
    simp [allP_eq h1]
  | .ref .. :: _, _, h => by simp [allP] at h
  | .ptr .. :: _, _, h => by simp [allP] at h
  | .agg .. :: _, _, h => by simp [allP] at h
  | .tup .. :: _, _, h => by simp [allP] at h
  | .clo .. :: _, _, h => by simp [allP] at h
  | .top :: _, _, h => by simp [allP] at h

/-- All of them by content. -/
def Ps (S : Snap) (ps : List PV) (vs : List Value) : Prop := vs.length = ps.length ∧ ∀ (j : Nat) (p : PV) (v : Value), ps[j]? = some p → vs[j]? = some v → PRel S p v

theorem AVRel.inv_p {ι : Inj} {S : Snap} {p : PV} {x : Value} (h : AVRel ι S (.p p) x) : PRel S p x := by cases h; assumption

theorem Rs.toPs {ι : Inj} {S : Snap} {l : List AV} {ps : List PV} {vs : List Value} (e : allP l = some ps) (h : Rs ι S l vs) : Ps S ps vs := by
  obtain rfl := allP_eq e
  exact ⟨by simpa using h.1, fun j p v e1 e2 => (h.2 j (.p p) v (by simp [e1]) e2).inv_p⟩
theorem Ps.toRs {ι : Inj} {S : Snap} {ps : List PV} {vs : List Value} (h : Ps S ps vs) : Rs ι S (ps.map AV.p) vs :=
  ⟨by simpa using h.1, fun j p v e1 e2 => by
    simp only [List.getElem?_map, Option.map_eq_some_iff] at e1
    obtain ⟨q, h1, rfl⟩ := e1
    exact .p _ _ (h.2 j q v h1 e2)⟩

def mkAgg (cs : List AV) : AV := match allP cs with | some ps => .p (.agg ps) | none => .agg cs
def mkTup (cs : List AV) : AV := match allP cs with | some ps => .p (.tup ps) | none => .tup cs

theorem mkAgg_rel {ι : Inj} {S : Snap} {cs : List AV} {vs : List Value} (h : Rs ι S cs vs) : AVRel ι S (mkAgg cs) (.agg vs.toArray) := by
  unfold mkAgg
  split
  · rename_i ps e; exact .p _ _ (.agg ps vs (h.toPs e).1 (h.toPs e).2)
  · exact .agg cs vs h.1 h.2

def AV.cells : AV → Option (List AV)
  | .p (.agg cs) => some (cs.map .p)
  | .p (.tup _) => none
  | .agg cs => some cs
  | .tup _ => none
  | .top => none
  | v => some [v]

theorem AV.cells_rel {ι : Inj} {S : Snap} {v : AV} {x : Value} {cs : List AV} (h : AVRel ι S v x) (e : v.cells = some cs) : Rs ι S cs x.cells.toList := by
  cases h with
  | p p x hp =>
    have hp' := hp
    cases hp <;> simp only [AV.cells, Option.some.injEq] at e <;> first
      | (simp at e; done)
      | (subst e; exact .cons (.p _ _ hp') .nil)
      | skip
    · subst e; rename_i ps vs hl hh; exact Ps.toRs ⟨by simpa [Value.cells] using hl, by simpa [Value.cells] using hh⟩
  | ref s size off len b total cap a hi hc hl ha => simp [AV.cells] at e; subst e; exact .cons (.ref s size off len b total cap a hi hc hl ha) .nil
  | refnil s size hi => simp [AV.cells] at e; subst e; exact .cons (.refnil s size hi) .nil
  | ptr s size row off b total hi => simp [AV.cells] at e; subst e; exact .cons (.ptr s size row off b total hi) .nil
  | agg cells vs hl h => simp [AV.cells] at e; subst e; exact ⟨by simpa [Value.cells] using hl, by simpa [Value.cells] using h⟩
  | tup cells vs hl h => simp [AV.cells] at e
  | clo fn f c fs cs' hf hc h1 h2 => simp [AV.cells] at e; subst e; exact .cons (.clo fn f c fs cs' hf hc h1 h2) .nil
  | top x => simp [AV.cells] at e

/-! ### reading memory -/
def FF.read (F : FF) : AV → Nat → Option (List AV)
  | .p (.ro cells), n => if n ≤ cells.length then some ((cells.take n).map .p) else none
  | .ptr s size row off, n => match F.blk s with
    | some (.sl _ sz rows) => if sz = size then (match rows[row]? with | some r => if off + n ≤ size then some (((r.drop off).take n).map .p) else none | none => none) else none
    | some (.box cells) => if row = 0 then (if off + n ≤ cells.length then some ((cells.drop off).take n) else none) else none
    | none => none
  | _, _ => none

theorem FF.read_mono {F G : FF} (h : F.le G) {x : AV} {n : Nat} {cs : List AV} (e : F.read x n = some cs) : G.read x n = some cs := by
  unfold FF.read at *
  split at e <;> try (simp at e; done)
  · simpa using e
  · rename_i s size row off
    cases hb : F.blk s with
    | none => simp [hb] at e
    | some k => simp only [hb] at e; simpa [h.2 s k hb] using e

theorem addr_add (b o j : Nat) : (⟨b, o, none⟩ : Addr).add j = ⟨b, o + j, none⟩ := by unfold Addr.add; split <;> simp_all

theorem FF.read_len {F : FF} {x : AV} {n : Nat} {cs : List AV} (hw : ∀ s k, F.blk s = some k → k.wf) (e : F.read x n = some cs) : cs.length = n := by
  unfold FF.read at e
  split at e <;> try (simp at e; done)
  · split at e
    · simp at e; subst e; simp; omega
    · simp at e
  · rename_i s size row off
    cases hb : F.blk s with
    | none => simp [hb] at e
    | some k =>
      have hwf := hw s k hb
      simp only [hb] at e
      cases k with
      | sl t sz rows =>
        simp only at e
        split at e
        · rename_i hsz; subst hsz
          split at e
          · rename_i r hr
            split at e
            · simp at e; subst e
              have := hwf row r hr
              simp; omega
            · simp at e
          · simp at e
        · simp at e
      | box cells =>
        simp only at e
        split at e
        · split at e
          · simp at e; subst e; simp; omega
          · simp at e
        · simp at e

theorem St.read {N : Nat} {w0 : Base} {ι : Inj} {S : Snap} {F : FF} {a : Act} {w : World} (h : St N w0 ι S F a w) {x : AV} {v : Value} {n : Nat} {cs : List AV} (hx : AVRel ι S x v) (e : F.read x n = some cs) :
    ∃ p : Addr, v = .pointer (some p) ∧ cs.length = n ∧ ∀ (j : Nat) (c : AV), cs[j]? = some c → ∃ u, w.cell? (p.add j) = some u ∧ AVRel ι S c u := by
  have hlen := FF.read_len (fun s k hs => (h.mem s k hs).1) e
  unfold FF.read at e
  split at e <;> try (simp at e; done)
  · rename_i cells
    split at e
    · simp at e; subst e
      cases hx with
      | p _ _ hp =>
        cases hp with
        | ro _ p f hc hr =>
          refine ⟨p, rfl, hlen, fun j c hj => ?_⟩
          simp only [List.getElem?_map, List.getElem?_take] at hj
          split at hj
          · simp only [Option.map_eq_some_iff] at hj
            obtain ⟨q, h1, rfl⟩ := hj
            exact ⟨f j, h.snap _ _ (hc j q h1), .p _ _ (hr j q h1)⟩
          · simp at hj
    · simp at e
  · rename_i s size row off
    cases hb : F.blk s with
    | none => simp [hb] at e
    | some k =>
      have hm := h.mem s k hb
      simp only [hb] at e
      cases hx with
      | ptr _ _ _ _ b total hi =>
        refine ⟨_, rfl, hlen, fun j c hj => ?_⟩
        rcases hm.2 with ⟨h1, _⟩ | ⟨b', total', t', c', h1, h2, h3, h4, h5, h6, h7⟩
        · rw [hi] at h1; simp at h1
        · rw [hi] at h1; simp at h1; obtain ⟨rfl, rfl⟩ := h1
          rw [addr_add, h2.cell]
          cases k with
          | sl t sz rows =>
            simp only at e
            split at e
            · rename_i hsz; subst hsz
              split at e
              · rename_i r hr
                split at e
                · simp at e; subst e
                  simp only [List.getElem?_take, List.getElem?_drop, List.getElem?_map] at hj
                  split at hj
                  · obtain ⟨u, e1, e2⟩ := h7 row (off + j) c (by simpa [Blk.cell, hr] using hj)
                    exact ⟨u, by simpa [Blk.size, Nat.add_assoc] using e1, e2⟩
                  · simp at hj
                · simp at e
              · simp at e
            · simp at e
          | box cells =>
            simp only at e
            split at e
            · rename_i hrow; subst hrow
              split at e
              · simp at e; subst e
                simp only [List.getElem?_take, List.getElem?_drop] at hj
                split at hj
                · obtain ⟨u, e1, e2⟩ := h7 0 (off + j) c (by simpa [Blk.cell] using hj)
                  exact ⟨u, by simpa [Nat.add_assoc] using e1, e2⟩
                · simp at hj
              · simp at e
            · simp at e

end Go.Abs
namespace Go.Abs
open Go
set_option linter.unusedSimpArgs false
set_option linter.unusedVariables false

/-! ### operations, their types read off the program's table -/
inductive AOp where
  | mov (x : Opd)
  | pick (c a b : Opd)
  | alloc (zero : List PV)
  | box (x : Opd)
  | build (zero : List PV) (parts : List (Nat × Nat × Opd))
  | bslice (e : TypeId) (size len : Nat) (zero : List PV) (parts : List (Nat × Nat × Opd))
  | load (agg : Bool) (n : Nat) (x : Opd)
  | store (n : Nat) (x v : Opd)
  | nilck (x : Opd)
  | bin (op : BinOp) (x y : Opd)
  | eqb (neg : Bool) (x y : Opd)
  | eqs (neg : Bool) (n : Nat) (leaves : List (Nat × Nat)) (x y : Opd)
  | un (op : UnOp) (x : Opd)
  | conv (k : IntKind) (x : Opd)
  | mkfn (fn : Fn) (first captured : List Opd)
  | mksl (e : TypeId) (size bytes : Nat) (zero : List PV) (len cap : Opd)
  | slcS (x : Opd) (lo hi : Option Opd)
  | slcV (size : Nat) (x : Opd) (lo hi : Option Opd)
  | faddr (off : Nat) (x : Opd)
  | field (off : Nat) (agg : Bool) (n : Nat) (x : Opd)
  | iaddr (size : Nat) (x i : Opd)
  | iaddrA (size n : Nat) (x i : Opd)
  | idxS (x i : Opd)
  | idxA (size : Nat) (agg : Bool) (len : Nat) (x i : Opd)
  | ext (x : Opd) (i : Nat)
  | call (f : FuncId) (args : List Opd)
  | callv (x : Opd) (args : List Opd)
  | len (str : Bool) (x : Opd)
  | mm (mx : Bool) (x y : Opd)
  | app (e : TypeId) (size bytes : Nat) (s x : Opd)
  deriving Inhabited

def aggB (P : Program) (t : TypeId) : Option Bool := match P.underlying t with
  | some (.struct _) | some (.array _ _) => some true
  | some _ => some false
  | none => none
def sizeO (P : Program) (t : TypeId) : Option Nat := (P.info? t).map (·.size)
def zeroO (P : Program) (t : TypeId) : Option (List PV) := ((P.info? t).bind (·.zero)).bind fun z => ofVals z.cells.toList

def rOs : List Operand → Option (List Opd)
  | [] => some []
  | x :: l => match rO x, rOs l with
    | some o, some os => some (o :: os)
    | _, _ => none
def rOo : Option Operand → Option (Option Opd)
  | none => some none
  | some x => (rO x).map some

def fieldsO (P : Program) : List Field → Option (List (Nat × Nat))
  | [] => some []
  | f :: l => match sizeO P f.type, fieldsO P l with
    | some n, some r => some ((f.offset, n) :: r)
    | _, _ => none
def partsG (place : Nat → Option (Nat × Nat)) : List (Nat × Operand) → Option (List (Nat × Nat × Opd))
  | [] => some []
  | (i, x) :: l => match place i, rO x, partsG place l with
    | some (off, n), some o, some r => some ((off, n, o) :: r)
    | _, _, _ => none

def leavesFg (P : Program) (g : TypeId → Nat → Option (List (Nat × Nat))) (n base : Nat) : List Field → Option (List (Nat × Nat))
  | [] => some []
  | f :: fs => match sizeO P f.type, g f.type (base + f.offset), leavesFg P g n base fs with
    | some m, some l, some r => if f.name ≠ "_" ∧ f.offset + m ≤ n then some (l ++ r) else none
    | _, _, _ => none
def leavesAg (g : TypeId → Nat → Option (List (Nat × Nat))) (e : TypeId) (m base : Nat) : List Nat → Option (List (Nat × Nat))
  | [] => some []
  | i :: is => match g e (base + i * m), leavesAg g e m base is with
    | some l, some r => some (l ++ r)
    | _, _ => none
/-- The cells that are compared where two values of a type are, all of them scalars. -/
def leaves (P : Program) : Nat → TypeId → Nat → Option (List (Nat × Nat))
  | 0, _, _ => none
  | d + 1, t, base => match P.underlying t, sizeO P t with
    | some .bool, some 1 => some [(base, 0)]
    | some (.int _), some 1 => some [(base, 1)]
    | some .string, some 1 => some [(base, 2)]
    | some (.struct fs), some n => if P.stoodInHeld t = false then leavesFg P (fun t b => leaves P d t b) n base fs.toList else none
    | some (.array len e), some n => match sizeO P e with
      | some m => if len * m ≤ n then leavesAg (fun t b => leaves P d t b) e m base (List.range' 0 len) else none
      | none => none
    | _, _ => none
abbrev leavesF (P : Program) (d n base : Nat) : List Field → Option (List (Nat × Nat)) := leavesFg P (fun t b => leaves P d t b) n base
abbrev leavesA (P : Program) (d : Nat) (e : TypeId) (m base : Nat) : List Nat → Option (List (Nat × Nat)) := leavesAg (fun t b => leaves P d t b) e m base

def resolveCall (P : Program) (c : Call) : Option AOp :=
  match c.callee, c.args.toList, c.argTypes.toList with
  | .value (.func f), args, _ => match P.funcs[f]? with
    | some fn => if fn.body.isSome = true ∧ (fn.name == "runtime.NumGoroutine") = false then (rOs args).map (.call f) else none
    | none => none
  | .value x, args, _ => match rO x, rOs args with
    | some o, some os => some (.callv o os)
    | _, _ => none
  | .builtin .len, [x], [t] => match P.underlying t with
    | some .string => (rO x).map (.len true)
    | some (.slice _) => (rO x).map (.len false)
    | _ => none
  | .builtin .max, [x, y], _ => match rO x, rO y with | some o, some o' => some (.mm true o o') | _, _ => none
  | .builtin .min, [x, y], _ => match rO x, rO y with | some o, some o' => some (.mm false o o') | _, _ => none
  | .builtin .append, [s, x], [t, u] => match P.underlying t with
    | some (.slice e) => match P.info? e, rO s, rO x with
      | some i, some o, some o' => if t = u ∧ i.zero.map (·.cells.size) = some i.size ∧ 0 < i.size then some (.app e i.size i.bytes o o') else none
      | _, _, _ => none
    | _ => none
  | _, _, _ => none

def resolveOp (P : Program) (op : Op) : Option AOp :=
  match op with
  | .move x | .assign x => (rO x).map .mov
  | .pick c a b => match rO c, rO a, rO b with
    | some c, some a, some b => some (.pick c a b)
    | _, _, _ => none
  | .alloc t => (zeroO P t).map .alloc
  | .box _ x => (rO x).map .box
  | .build t parts => match zeroO P t with
    | none => none
    | some z => match P.underlying t with
      | some (.struct fs) => match fieldsO P fs.toList with
        | some l => (partsG (l[·]?) parts.toList).map (.build z)
        | none => none
      | some (.array _ e) => match sizeO P e with
        | some n => (partsG (fun i => some (i * n, n)) parts.toList).map (.build z)
        | none => none
      | _ => none
  | .buildSlice t len parts => match P.underlying t with
    | some (.slice e) => match sizeO P e, zeroO P e with
      | some n, some z => if len * n ≤ 16777216 ∧ n = z.length ∧ 0 < n then (partsG (fun i => some (i * n, n)) parts.toList).map (.bslice e n len ((List.range (len * n)).map fun j => z.getD (j % n) .nif)) else none
      | _, _ => none
    | _ => none
  | .load t x => match aggB P t, sizeO P t, rO x with
    | some b, some n, some o => some (.load b (if b then n else 1) o)
    | _, _, _ => none
  | .store t x v => match sizeO P t, rO x, rO v with
    | some n, some o, some o' => some (.store n o o')
    | _, _, _ => none
  | .nilCheck x => (rO x).map .nilck
  | .binOp op t x y _ => match rO x, rO y with
    | some o, some o' => match P.underlying t with
      | some (.int _) | some .string => some (.bin op o o')
      | some .bool => match op with | .eql => some (.eqb false o o') | .neq => some (.eqb true o o') | _ => none
      | some (.struct _) | some (.array _ _) => if P.eqGuardType P.depth t = false then (match leaves P 20 t 0, sizeO P t, op with | some ls, some n, .eql => some (.eqs false n ls o o') | some ls, some n, .neq => some (.eqs true n ls o o') | _, _, _ => none) else none
      | _ => none
    | _, _ => none
  | .unOp op _ x => (rO x).map (.un op)
  | .convert s t x => match P.underlying s, P.underlying t, rO x with
    | some _, some (.int k), some o => some (.conv k o)
    | _, _, _ => none
  | .makeFunc fn first captured => match rOs first.toList, rOs captured.toList with
    | some f, some c => some (.mkfn fn f c)
    | _, _ => none
  | .makeSlice t l c => match P.underlying t with
    | some (.slice e) => match P.info? e, zeroO P e, rO l, rO c with
      | some i, some z, some l, some c => if i.size = z.length ∧ 0 < i.size then some (.mksl e i.size i.bytes z l c) else none
      | _, _, _, _ => none
    | _ => none
  | .slice t x lo hi none => match P.underlying t, rO x, rOo lo, rOo hi with
    | some .string, some o, some lo, some hi => some (.slcS o lo hi)
    | some (.slice e), some o, some lo, some hi => match sizeO P e with
      | some n => some (.slcV n o lo hi)
      | none => none
    | _, _, _, _ => none
  | .fieldAddr s x f => match P.underlying s, rO x with
    | some (.struct fs), some o => match fs[f]? with
      | some fd => match sizeO P fd.type with
        | some n => if n = 0 then none else some (.faddr fd.offset o)
        | none => none
      | none => none
    | _, _ => none
  | .field t x f => match P.underlying t, rO x with
    | some (.struct fs), some o => match fs[f]? with
      | some fd => match aggB P fd.type, sizeO P fd.type with
        | some b, some n => some (.field fd.offset b (if b then n else 1) o)
        | _, _ => none
      | none => none
    | _, _ => none
  | .indexAddr t x i => match P.underlying t, rO x, rO i with
    | some (.slice e), some o, some o' => match sizeO P e with
      | some n => if n = 0 then none else some (.iaddr n o o')
      | none => none
    | some (.array len e), some o, some o' => match sizeO P e with
      | some n => some (.iaddrA n len o o')
      | none => none
    | _, _, _ => none
  | .index t x i => match P.underlying t, rO x, rO i with
    | some .string, some o, some o' => some (.idxS o o')
    | some (.array len e), some o, some o' => match aggB P e, sizeO P e with
      | some b, some n => some (.idxA n b len o o')
      | _, _ => none
    | _, _, _ => none
  | .extract x i => (rO x).map (.ext · i)
  | .call c => resolveCall P c
  | _ => none

/-! ### values -/
def pickV (t : Bool) : AV → AV → AV
  | .p (.bool x), .p (.bool y) => .p (.bool (if t then x else y))
  | a, b => if t then a else b

def binI (op : BinOp) (k : IntKind) (x y : Int) : Option PV :=
  match op with
  | .add => some (.int k (k.wrap (x + y)))
  | .sub => some (.int k (k.wrap (x - y)))
  | .mul => some (.int k (k.wrap (x * y)))
  | .quo => if y = 0 then none else some (.int k (k.wrap (x.tdiv y)))
  | .rem => if y = 0 then none else some (.int k (x.tmod y))
  | .and => some (.int k (k.wrap ((BitVec.ofInt k.bits x &&& BitVec.ofInt k.bits y).toNat)))
  | .or => some (.int k (k.wrap ((BitVec.ofInt k.bits x ||| BitVec.ofInt k.bits y).toNat)))
  | .xor => some (.int k (k.wrap ((BitVec.ofInt k.bits x ^^^ BitVec.ofInt k.bits y).toNat)))
  | .andNot => some (.int k (k.wrap ((BitVec.ofInt k.bits x &&& ~~~ BitVec.ofInt k.bits y).toNat)))
  | .eql => some (.bool (decide (x = y)))
  | .neq => some (.bool (!decide (x = y)))
  | .lss => some (.bool (decide (x < y)))
  | .leq => some (.bool (decide (x ≤ y)))
  | .gtr => some (.bool (decide (x > y)))
  | .geq => some (.bool (decide (x ≥ y)))
  | _ => none
def shI (op : BinOp) (k : IntKind) (x y : Int) : Option PV :=
  if y < 0 then none else
  match op with
  | .shl => some (.int k (k.wrap (x * 2 ^ (min y.toNat k.bits))))
  | .shr => some (.int k (x.fdiv (2 ^ (min y.toNat k.bits))))
  | _ => none
def binS (op : BinOp) (x y : ByteArray) : Option PV :=
  match op with
  | .add => if x.size + y.size ≤ 9223372036854775807 then some (.str (x ++ y)) else none
  | .eql => some (.bool (x.toList == y.toList))
  | .neq => some (.bool (!(x.toList == y.toList)))
  | .lss => some (.bool (Op.bytesLess x.toList y.toList))
  | .leq => some (.bool (Op.bytesLess x.toList y.toList || x.toList == y.toList))
  | .gtr => some (.bool (!(Op.bytesLess x.toList y.toList || x.toList == y.toList)))
  | .geq => some (.bool (!(Op.bytesLess x.toList y.toList)))
  | _ => none

def binV (op : BinOp) : AV → AV → Option AV
  | .p (.int k x), .p (.int k' y) => (match op with
    | .shl | .shr => shI op k x y
    | _ => if k = k' then binI op k x y else none).map .p
  | .p (.str x), .p (.str y) => (binS op x y).map .p
  | _, _ => none

def unV (op : UnOp) : AV → Option AV
  | .p (.bool b) => match op with | .not => some (.p (.bool (!b))) | _ => none
  | .p (.int k n) => match op with
    | .neg => some (.p (.int k (k.wrap (0 - n))))
    | _ => none
  | _ => none

def fillA (cells : List AV) : List (Nat × List AV) → Option (List AV)
  | [] => some cells
  | (off, cs) :: l => if off + cs.length ≤ cells.length then fillA (cells.take off ++ cs ++ cells.drop (off + cs.length)) l else none

def FF.parts (F : FF) : List (Nat × Nat × Opd) → Option (List (Nat × List AV))
  | [] => some []
  | (off, n, x) :: l => match (F.val x).bind AV.cells, F.parts l with
    | some cs, some r => if cs.length = n then some ((off, cs) :: r) else none
    | _, _ => none

def FF.vals (F : FF) : List Opd → Option (List AV)
  | [] => some []
  | x :: l => match F.val x, F.vals l with
    | some v, some vs => some (v :: vs)
    | _, _ => none

def headO (agg : Bool) (cs : List AV) : Option AV := if agg then some (mkAgg cs) else cs[0]?

def intO : AV → Option Int
  | .p (.int _ n) => some n
  | _ => none
def boundO (F : FF) (dflt : Nat) : Option Opd → Option Int
  | none => some dflt
  | some x => (F.val x).bind intO

def lenV (str : Bool) : AV → Option Nat
  | .p (.str s) => if str then some s.size else none
  | .p .nsl => if str then none else some 0
  | .p (.sl _ rows) => if str then none else some rows.length
  | .ref _ _ _ len => if str then none else some len
  | _ => none

def scalarEq : Nat → PV → PV → Option Bool
  | 1, .int k x, .int k' y => if k = k' then some (decide (x = y)) else none
  | 0, .bool x, .bool y => some (x == y)
  | 2, .str x, .str y => some (x.toList == y.toList)
  | _, _, _ => none
def leavesEq (us vs : List PV) : List (Nat × Nat) → Option Bool
  | [] => some true
  | (i, k) :: l => match (us[i]?.bind fun u => vs[i]?.bind fun v => scalarEq k u v), leavesEq us vs l with
    | some b, some r => some (b && r)
    | _, _ => none

def AV.aggc : AV → Option (List AV)
  | .p (.agg cs) => some (cs.map .p)
  | .agg cs => some cs
  | _ => none

/-- Operations that make a value and turn nothing. -/
def evV (F : FF) : AOp → Option AV
  | .mov x => F.val x
  | .pick c a b => match F.val c, F.val a, F.val b with
    | some (.p (.bool t)), some va, some vb => some (pickV t va vb)
    | _, _, _ => none
  | .build zero parts => (F.parts parts).bind fun ps => (fillA (zero.map .p) ps).map mkAgg
  | .load agg n x => (F.val x).bind fun v => (F.read v n).bind (headO agg)
  | .nilck x => match F.val x with
    | some (.ptr s a b c) => some (.ptr s a b c)
    | some (.p (.ro cs)) => some (.p (.ro cs))
    | _ => none
  | .bin op x y => match F.val x, F.val y with
    | some a, some b => binV op a b
    | _, _ => none
  | .eqb neg x y => match F.val x, F.val y with
    | some (.p (.bool a)), some (.p (.bool b)) => some (.p (.bool (if neg then !(a == b) else (a == b))))
    | _, _ => none
  | .un op x => (F.val x).bind (unV op)
  | .conv k x => match F.val x with
    | some (.p (.int _ n)) => some (.p (.int k (k.wrap n)))
    | _ => none
  | .mkfn fn first captured => match F.vals first, F.vals captured with
    | some f, some c => some (match allP f, allP c with | some f', some c' => .p (.clo fn f' c') | _, _ => .clo fn f c)
    | _, _ => none
  | .slcS x lo hi => match F.val x with
    | some (.p (.str s)) => match boundO F 0 lo, boundO F s.size hi with
      | some l, some h => if 0 ≤ l ∧ l ≤ h ∧ h ≤ s.size then some (.p (.str (s.extract l.toNat h.toNat))) else none
      | _, _ => none
    | _ => none
  | .slcV size x lo hi => match F.val x with
    | some (.p .nsl) => match boundO F 0 lo, boundO F 0 hi with
      | some l, some h => if 0 ≤ l ∧ l ≤ h ∧ h ≤ 0 then some (.p .nsl) else none
      | _, _ => none
    | some (.p (.sl sz rows)) => match boundO F 0 lo, boundO F rows.length hi with
      | some l, some h => if sz = size ∧ 0 ≤ l ∧ l ≤ h ∧ h ≤ rows.length then some (.p (.sl sz ((rows.take h.toNat).drop l.toNat))) else none
      | _, _ => none
    | some (.ref s sz off len) => match boundO F 0 lo, boundO F len hi with
      | some l, some h => if sz = size ∧ 0 ≤ l ∧ l ≤ h ∧ h ≤ len then some (.ref s sz (off + l.toNat) (h.toNat - l.toNat)) else none
      | _, _ => none
    | _ => none
  | .faddr off x => match F.val x with
    | some (.ptr s size row o) => some (.ptr s size row (o + off))
    | some (.p (.ro cells)) => some (.p (.ro (cells.drop off)))
    | _ => none
  | .field off agg n x => ((F.val x).bind AV.aggc).bind fun cs => if off + n ≤ cs.length then headO agg ((cs.drop off).take n) else none
  | .iaddr size x i => match F.val x, (F.val i).bind intO with
    | some (.p (.sl sz rows)), some i => if sz = size ∧ 0 ≤ i then (rows[i.toNat]?).map fun r => .p (.ro r) else none
    | some (.ref s sz off len), some i => if sz = size ∧ 0 ≤ i ∧ i < len then some (.ptr s sz (off + i.toNat) 0) else none
    | _, _ => none
  | .iaddrA size n x i => match F.val x, (F.val i).bind intO with
    | some (.p (.ro cells)), some i => if 0 ≤ i ∧ i < n then some (.p (.ro (cells.drop (i.toNat * size)))) else none
    | some (.ptr s sz row o), some i => if 0 ≤ i ∧ i < n then some (.ptr s sz row (o + i.toNat * size)) else none
    | _, _ => none
  | .idxS x i => match F.val x, (F.val i).bind intO with
    | some (.p (.str s)), some i => if 0 ≤ i then (s[i.toNat]?).map fun (b : UInt8) => AV.p (.int .u8 (Int.ofNat b.toNat)) else none
    | _, _ => none
  | .idxA size agg len x i => match (F.val x).bind AV.aggc, (F.val i).bind intO with
    | some cs, some i => if 0 ≤ i ∧ i < len ∧ i.toNat * size + size ≤ cs.length ∧ (agg = false → size = 1) then headO agg ((cs.drop (i.toNat * size)).take size) else none
    | _, _ => none
  | .ext x i => match F.val x with
    | some (.p (.tup vs)) => (vs[i]?).map .p
    | some (.tup vs) => vs[i]?
    | _ => none
  | .len str x => ((F.val x).bind (lenV str)).map fun (n : Nat) => AV.p (.int .i64 (Int.ofNat n))
  | .mm mx x y => match F.val x, F.val y with
    | some (.p (.int k a)), some (.p (.int _ b)) => some (.p (.int k (if mx then max a b else min a b)))
    | _, _ => none
  | .eqs neg n ls x y => match F.val x, F.val y with
    | some (.p (.agg a)), some (.p (.agg b)) => if a.length = n ∧ b.length = n then (leavesEq a b ls).map fun r => .p (.bool (if neg then !r else r)) else none
    | _, _ => none
  | _ => none

end Go.Abs
namespace Go.Abs
open Go
set_option linter.unusedSimpArgs false
set_option linter.unusedVariables false

section
variable {P : Program} {N : Nat} {w0 : Base} {ι : Inj} {S : Snap} {F : FF} {a : Act} {w : World}

theorem St.vals (h : St N w0 ι S F a w) : ∀ {xs : List Operand} {os : List Opd} {vs : List AV}, rOs xs = some os → F.vals os = some vs → Rs ι S vs (xs.map a.eval)
  | [], os, vs, h1, h2 => by simp [rOs] at h1; subst h1; simp [FF.vals] at h2; subst h2; exact .nil
  | x :: xs, os, vs, h1, h2 => by
    simp only [rOs] at h1
    split at h1
    · rename_i o os' e1 e2
      simp at h1; subst h1
      simp only [FF.vals] at h2
      split at h2
      · rename_i v vs' e3 e4
        simp at h2; subst h2
        exact .cons (h.val e1 e3) (St.vals h e2 e4)
      · simp at h2
    · simp at h1

theorem execV {o : Oper} {x : Value} (s : Sem Value) (hs : s.run P w = .ok x w) : (do pure (.value (← s)) : Sem Next).run P w = .ok (.value x) w := by
  simp [hs]

theorem aggB_run {t : TypeId} {b : Bool} (h : aggB P t = some b) : (isAgg t).run P w = .ok b w := by
  unfold aggB at h
  cases hu : P.underlying t with
  | none => simp [hu] at h
  | some d =>
    simp only [isAgg, Sem.run_bind, run_underlying hu, Result.andThen_ok]
    rw [hu] at h
    cases d <;> simp_all
theorem sizeO_run {t : TypeId} {n : Nat} (h : sizeO P t = some n) : (sizeOf t).run P w = .ok n w := by
  unfold sizeO at h
  simp only [Option.map_eq_some_iff] at h
  obtain ⟨i, h1, rfl⟩ := h
  simp [sizeOf, typeInfo, h1]
theorem sizeO_cellsOf {t : TypeId} {n : Nat} (h : sizeO P t = some n) : P.cellsOf t = n := by
  unfold sizeO at h; simp [Program.cellsOf, h]
theorem zeroO_run {t : TypeId} {ps : List PV} (h : zeroO P t = some ps) : ∃ z, (zeroValue t).run P w = .ok z w ∧ Ps S ps z.cells.toList ∧ ((P.info? t).bind (·.zero)) = some z := by
  unfold zeroO at h
  simp only [Option.bind_eq_some_iff] at h
  obtain ⟨z, h1, h2⟩ := h
  obtain ⟨i, h3, h4⟩ := h1
  refine ⟨z, ?_, ?_, by simp [h3, h4]⟩
  · simp [zeroValue, typeInfo, h3, h4]
  · exact ofVals_rel h2

theorem St.read_run (h : St N w0 ι S F a w) {x : AV} {v : Value} {n : Nat} {cs : List AV} (hx : AVRel ι S x v) (e : F.read x n = some cs) :
    ∃ (p : Addr) (us : List Value), v = .pointer (some p) ∧ Rs ι S cs us ∧ (loadCells p n).run P w = .ok us.toArray w ∧ ∀ u, us[0]? = some u → (load p).run P w = .ok u w := by
  obtain ⟨p, rfl, hlen, hc⟩ := h.read hx e
  have hc' : ∀ j, ∃ u, j < n → w.cell? (p.add j) = some u ∧ ∀ c, cs[j]? = some c → AVRel ι S c u := by
    intro j
    by_cases hj : j < n
    · obtain ⟨c, hcj⟩ : ∃ c, cs[j]? = some c := ⟨cs[j]'(by omega), by simp⟩
      obtain ⟨u, h1, h2⟩ := hc j c hcj
      exact ⟨u, fun _ => ⟨h1, fun c' hc' => by rw [hcj] at hc'; simp at hc'; subst hc'; exact h2⟩⟩
    · exact ⟨undef, fun h => absurd h hj⟩
  let f : Nat → Value := fun j => (hc' j).choose
  have hf : ∀ j, j < n → w.cell? (p.add j) = some (f j) ∧ ∀ c, cs[j]? = some c → AVRel ι S c (f j) := fun j hj => (hc' j).choose_spec hj
  refine ⟨p, (List.range n).map f, rfl, ⟨by simp [hlen], fun j c v e1 e2 => ?_⟩, run_loadCells w p n f (fun j hj => (hf j hj).1), fun u hu => ?_⟩
  · have hj : j < n := by have := (List.getElem?_eq_some_iff.1 e1).1; omega
    simp [hj] at e2
    subst e2
    exact (hf j hj).2 c e1
  · have hn : 0 < n := by
      rcases Nat.eq_zero_or_pos n with h0 | h0
      · subst h0; simp at hu
      · exact h0
    simp [hn] at hu
    subst hu
    have := (hf 0 hn).1
    simp only [Addr.add, if_true] at this
    simp [run_load, this]

theorem headO_rel {agg : Bool} {cs : List AV} {us : List Value} {v : AV} (h : Rs ι S cs us) (e : headO agg cs = some v) :
    ∃ x, (if agg then x = .agg us.toArray else us[0]? = some x) ∧ AVRel ι S v x := by
  unfold headO at e
  cases agg with
  | true => simp at e; subst e; exact ⟨_, by simp, mkAgg_rel h⟩
  | false =>
    simp at e
    cases us with
    | nil => have := h.1; cases cs <;> simp_all
    | cons u us => exact ⟨u, by simp, h.2 0 v u e rfl⟩

theorem load_ok (h : St N w0 ι S F a w) {t : TypeId} {x : AV} {y : Value} {b : Bool} {n : Nat} {cs : List AV} {v : AV} (hb : aggB P t = some b) (hn : sizeO P t = some n) (hx : AVRel ι S x y)
    (hr : F.read x (if b then n else 1) = some cs) (hh : headO b cs = some v) : ∃ u, (Instr.loadAt t y).run P w = .ok u w ∧ AVRel ι S v u := by
  obtain ⟨p, us, rfl, h1, h2, h3⟩ := h.read_run (P := P) hx hr
  obtain ⟨u, h4, h5⟩ := headO_rel h1 hh
  refine ⟨u, ?_, h5⟩
  simp only [Instr.loadAt, Instr.sureAddr, loadVar, Sem.run_bind, Sem.run_pure, Result.andThen_ok, aggB_run hb]
  cases b with
  | true => simp at h2 h4; simp [sizeO_run hn, h2, h4]
  | false => simp at h4; simpa using h3 u h4

theorem parts_ok (h : St N w0 ι S F a w) {place : Nat → Option (Nat × Nat)} : ∀ {l : List (Nat × Operand)} {r : List (Nat × Nat × Opd)} {ps : List (Nat × List AV)} {cells cells' : List AV} {us : List Value}, partsG place l = some r → F.parts r = some ps →
    fillA cells ps = some cells' → Rs ι S cells us → ∃ us', Instr.fill place us.toArray (l.map fun x => (x.1, a.eval x.2)) = some us'.toArray ∧ Rs ι S cells' us'
  | [], r, ps, cells, cells', us, h1, h2, h3, h4 => by
    simp [partsG] at h1; subst h1; simp [FF.parts] at h2; subst h2; simp [fillA] at h3; subst h3
    exact ⟨us, by simp [Instr.fill], h4⟩
  | (i, x) :: l, r, ps, cells, cells', us, h1, h2, h3, h4 => by
    simp only [partsG] at h1
    split at h1
    · rename_i off n o r' e1 e2 e3
      simp at h1; subst h1
      simp only [FF.parts] at h2
      split at h2
      · rename_i cs r'' e4 e5
        split at h2
        · rename_i hl
          simp at h2; subst h2
          simp only [fillA] at h3
          split at h3
          · rename_i hlen
            simp only [Option.bind_eq_some_iff] at e4
            obtain ⟨v, e6, e7⟩ := e4
            have hr := AV.cells_rel (h.val e2 e6) e7
            have hus : off + (a.eval x).cells.size ≤ us.length := by
              have q1 := hr.1
              have q2 := h4.1
              simp at q1
              omega
            have hfold : ∀ (vs : List Value) (k : Nat) (us : List Value), k + off + vs.length ≤ us.length →
                ((vs.zipIdx k).foldl (fun (cs : Array Value) (c, j) => cs.setIfInBounds (off + j) c) us.toArray).toList = us.take (off + k) ++ vs ++ us.drop (off + k + vs.length) := by
              intro vs
              induction vs with
              | nil => intro k us hk; simp
              | cons v vs ih =>
                intro k us hk
                simp only [List.zipIdx_cons, List.foldl_cons]
                have : us.toArray.setIfInBounds (off + k) v = (us.set (off + k) v).toArray := by simp
                rw [this, ih (k + 1) _ (by simp at hk ⊢; omega)]
                have := list_seg_step us (off + k) v vs (by simp at hk; omega)
                simp only [Nat.add_assoc] at this ⊢
                rw [this]
                simp [Nat.add_comm, Nat.add_left_comm]
            have hres : Rs ι S (cells.take off ++ cs ++ cells.drop (off + cs.length)) (us.take off ++ (a.eval x).cells.toList ++ us.drop (off + cs.length)) := by
              refine ⟨by simp [hr.1, h4.1], fun j p u q1 q2 => ?_⟩
              have hcl := hr.1
              have hul := h4.1
              simp only [List.getElem?_append, List.length_append, List.length_take, List.getElem?_take, List.getElem?_drop] at q1 q2
              have m1 : min off cells.length = off := by omega
              have m2 : min off us.length = off := by omega
              rw [m1] at q1
              rw [m2] at q2
              rw [hcl] at q2
              by_cases c1 : j < off + cs.length
              · simp only [c1, if_true] at q1 q2
                by_cases c2 : j < off
                · simp only [c2, if_true] at q1 q2; exact h4.2 j p u q1 q2
                · simp only [c2, if_false] at q1 q2; exact hr.2 _ p u q1 q2
              · simp only [c1, if_false] at q1 q2; exact h4.2 _ p u q1 q2
            obtain ⟨us', g1, g2⟩ := parts_ok h e3 e5 h3 hres
            refine ⟨us', ?_, g2⟩
            have hsz : (a.eval x).cells.size = n := by have := hr.1; simp at this; omega
            simp only [List.map_cons, Instr.fill, e1]
            rw [if_neg (by simp [hsz]; omega)]
            rw [← g1]
            congr 1
            have hf := hfold (a.eval x).cells.toList 0 us (by simp; omega)
            apply Array.ext'
            have hcs : cs.length = (a.eval x).cells.toList.length := hr.1.symm
            rw [hcs]
            simp only [Nat.add_zero] at hf
            rw [← Array.foldl_toList, Array.toList_zipIdx]
            exact hf
          · simp at h3
        · simp at h2
      · simp at h2
    · simp at h1

theorem fieldsO_run : ∀ {fs : List Field} {l : List (Nat × Nat)} (w : World), fieldsO P fs = some l → (fs.mapM fun f => do pure (f.offset, ← sizeOf f.type) : Sem (List (Nat × Nat))).run P w = .ok l w
  | [], l, w, h => by simp [fieldsO] at h; subst h; simp
  | f :: fs, l, w, h => by
    simp only [fieldsO] at h
    split at h
    · rename_i n r e1 e2
      simp at h; subst h
      simp only [List.mapM_cons, Sem.run_bind, sizeO_run e1, Result.andThen_ok, Sem.run_pure, fieldsO_run w e2]
    · simp at h

theorem build_ok (h : St N w0 ι S F a w) {t : TypeId} {parts : Array (Nat × Operand)} {ao : AOp} {v : AV} (hr : resolveOp P (.build t parts) = some ao) (he : evV F ao = some v) :
    ∃ x, (Instr.build t (parts.map fun (i, x) => (i, a.eval x))).run P w = .ok x w ∧ AVRel ι S v x := by
  simp only [resolveOp] at hr
  split at hr
  · simp at hr
  · rename_i z hz
    obtain ⟨zv, z1, z2, _⟩ := zeroO_run (P := P) (S := S) (w := w) hz
    have hzr := z2.toRs (ι := ι)
    split at hr
    · rename_i fs hu
      split at hr
      · rename_i l hl
        simp only [Option.map_eq_some_iff] at hr
        obtain ⟨ps, h1, rfl⟩ := hr
        simp only [evV, Option.bind_eq_some_iff, Option.map_eq_some_iff] at he
        obtain ⟨qs, h2, cs, h3, rfl⟩ := he
        obtain ⟨us, h4, h5⟩ := parts_ok h h1 h2 h3 hzr
        refine ⟨_, ?_, mkAgg_rel h5⟩
        have hf := fieldsO_run (P := P) w hl
        simp only [Array.toArray_toList] at h4
        have e1 : (fs.mapM fun f => do pure (f.offset, ← sizeOf f.type) : Sem (Array (Nat × Nat))).run P w = .ok l.toArray w := by
          rw [← Array.toArray_toList (xs := fs), List.mapM_toArray]
          simp only [Sem.run_map]
          rw [hf]; rfl
        simp only [Instr.build, Sem.run_bind, z1, Result.andThen_ok, run_underlying hu, e1]
        simp only [List.getElem?_toArray, Array.toList_map]
        rw [h4]
        rfl
      · simp at hr
    · rename_i n e hu
      split at hr
      · rename_i m hm
        simp only [Option.map_eq_some_iff] at hr
        obtain ⟨ps, h1, rfl⟩ := hr
        simp only [evV, Option.bind_eq_some_iff, Option.map_eq_some_iff] at he
        obtain ⟨qs, h2, cs, h3, rfl⟩ := he
        obtain ⟨us, h4, h5⟩ := parts_ok h h1 h2 h3 hzr
        refine ⟨_, ?_, mkAgg_rel h5⟩
        simp only [Array.toArray_toList] at h4
        simp only [Instr.build, Sem.run_bind, z1, Result.andThen_ok, run_underlying hu, sizeO_run hm, Array.toList_map]
        rw [h4]
        rfl
      · simp at hr
    · simp at hr
end
end Go.Abs
namespace Go.Abs
open Go
set_option linter.unusedSimpArgs false
set_option linter.unusedVariables false

section
variable {P : Program} {N : Nat} {w0 : Base} {ι : Inj} {S : Snap} {F : FF} {a : Act} {w : World}

theorem inv_int {k : IntKind} {n : Int} {x : Value} (h : AVRel ι S (.p (.int k n)) x) : x = .int k n := by cases h.inv_p; rfl
theorem inv_bool {b : Bool} {x : Value} (h : AVRel ι S (.p (.bool b)) x) : x = .bool b := by cases h.inv_p; rfl
theorem inv_str {s : ByteArray} {x : Value} (h : AVRel ι S (.p (.str s)) x) : x = .string s := by cases h.inv_p; rfl
theorem rel_int (k : IntKind) (n : Int) : AVRel ι S (.p (.int k n)) (.int k n) := .p _ _ (.int k n)
theorem rel_bool (b : Bool) : AVRel ι S (.p (.bool b)) (.bool b) := .p _ _ (.bool b)
theorem rel_str (b : ByteArray) : AVRel ι S (.p (.str b)) (.string b) := .p _ _ (.str b)

theorem guard_int {op : BinOp} {t : TypeId} {x y : Operand} {k k' : IntKind} {m n : Int} : (eqGuard op t x y (.int k m) (.int k' n)).run P w = .ok () w := by
  cases op <;> simp [eqGuard]
theorem guard_str {op : BinOp} {t : TypeId} {x y : Operand} {m n : ByteArray} : (eqGuard op t x y (.string m) (.string n)).run P w = .ok () w := by
  cases op <;> simp [eqGuard]
theorem guard_bool {op : BinOp} {t : TypeId} {x y : Operand} {m n : Bool} : (eqGuard op t x y (.bool m) (.bool n)).run P w = .ok () w := by
  cases op <;> simp [eqGuard]

theorem beq_dec (x y : Int) : (x == y) = decide (x = y) := by
  cases h : decide (x = y) <;> simp_all

theorem bin_ok {op : BinOp} {t : TypeId} {x y : Value} {u v r : AV} (hx : AVRel ι S u x) (hy : AVRel ι S v y) (e : binV op u v = some r) :
    ∃ z, (binOp op t x y).run P w = .ok z w ∧ AVRel ι S r z := by
  unfold binV at e
  split at e
  · rename_i k m k' n
    obtain rfl := inv_int hx
    obtain rfl := inv_int hy
    simp only [Option.map_eq_some_iff] at e
    obtain ⟨q, e, rfl⟩ := e
    cases op <;> simp only [binI, shI] at e
    all_goals (repeat' split at e)
    all_goals (try (simp at e; done))
    all_goals (simp only [Option.some.injEq] at e; subst e)
    all_goals simp_all [binOp, Op.intArith, Op.intDiv, Op.intBits, Op.intCmp, Op.shift, rel_int, rel_bool, beq_dec]
    all_goals first | exact rel_int _ _ | exact rel_bool _ | (rw [if_neg (by omega)]; exact ⟨_, rfl, rel_int _ _⟩)
  · obtain rfl := inv_str hx
    obtain rfl := inv_str hy
    simp only [Option.map_eq_some_iff] at e
    obtain ⟨q, e, rfl⟩ := e
    cases op <;> simp only [binS] at e
    all_goals (repeat' split at e)
    all_goals (try (simp at e; done))
    all_goals (simp only [Option.some.injEq] at e; subst e)
    all_goals (simp only [binOp, Op.stringOp])
    · rename_i hle
      have hm : IntKind.i64.max = 9223372036854775807 := by decide
      rw [if_neg (by rw [hm]; omega)]
      exact ⟨_, rfl, rel_str _⟩
    all_goals exact ⟨_, rfl, rel_bool _⟩
  · simp at e

theorem un_ok {op : UnOp} {x : Value} {u r : AV} (hx : AVRel ι S u x) (e : unV op u = some r) : ∃ z, (Op.unary op x).run P w = .ok z w ∧ AVRel ι S r z := by
  unfold unV at e
  split at e
  · obtain rfl := inv_bool hx
    cases op <;> simp at e
    subst e
    exact ⟨_, rfl, rel_bool _⟩
  · obtain rfl := inv_int hx
    cases op <;> simp at e
    subst e
    exact ⟨_, rfl, by simpa using rel_int _ _⟩
  · simp at e

theorem equal_bool {t : TypeId} {m n : Bool} (hu : P.underlying t = some .bool) : (Op.equal t (.bool m) (.bool n)).run P w = .ok (m == n) w := by
  unfold Op.equal Op.maxDepth
  rw [show (10000 : Nat) = 9999 + 1 from rfl, Op.equalIn]
  simp only [Sem.run_bind, run_underlying hu, Result.andThen_ok, Sem.run_pure]

theorem eqb_ok {neg : Bool} {t : TypeId} {m n : Bool} (hu : P.underlying t = some .bool) :
    (binOp (if neg then .neq else .eql) t (.bool m) (.bool n)).run P w = .ok (.bool (if neg then !(m == n) else (m == n))) w := by
  cases neg
  · simp only [Bool.false_eq_true, if_false, binOp, Sem.run_bind, equal_bool hu, Result.andThen_ok, Sem.run_pure]
  · simp only [if_true, binOp, Sem.run_bind, equal_bool hu, Result.andThen_ok, Sem.run_pure]

/-! ### slicing -/
theorem bound_run {dflt : Nat} {lo : Option Operand} {o : Option Opd} {l : Int} (h : St N w0 ι S F a w) (hr : rOo lo = some o) (hb : boundO F dflt o = some l) :
    (lo = none ∧ l = dflt) ∨ ∃ x k, lo = some x ∧ a.eval x = .int k l := by
  cases lo with
  | none => simp [rOo] at hr; subst hr; simp [boundO] at hb; exact .inl ⟨rfl, hb.symm⟩
  | some x =>
    simp only [rOo, Option.map_eq_some_iff] at hr
    obtain ⟨o', h1, rfl⟩ := hr
    simp only [boundO, Option.bind_eq_some_iff] at hb
    obtain ⟨v, h2, h3⟩ := hb
    have := h.val h1 h2
    unfold intO at h3
    split at h3
    · simp at h3; subst h3; exact .inr ⟨x, _, rfl, inv_int this⟩
    · simp at h3

theorem bounds_run {isSlice : Bool} {len cap : Nat} {lo hi : Option Operand} {o o' : Option Opd} {l h : Int} (hst : St N w0 ι S F a w) (h1 : rOo lo = some o) (h2 : rOo hi = some o')
    (h3 : boundO F 0 o = some l) (h4 : boundO F len o' = some h) (hl : 0 ≤ l) (hlh : l ≤ h) (hh : h ≤ len) (hc : len ≤ cap) :
    (Instr.sliceBounds isSlice len cap (lo.map a.eval) (hi.map a.eval) none).run P w = .ok (l.toNat, h.toNat, cap) w := by
  have q1 := bound_run hst h1 h3
  have q2 := bound_run hst h2 h4
  have c1 : h ≤ (cap : Int) := by omega
  have c0 : 0 ≤ h := by omega
  have e1 : ∀ x k, a.eval x = .int k h → (Instr.sliceBound (a.eval x) cap (if isSlice then .sliceAcap else .sliceAlen)).run P w = .ok h.toNat w := by
    intro x k e
    simp [Instr.sliceBound, e, asIntOf, c0, c1]
  have e2 : ∀ x k, a.eval x = .int k l → (Instr.sliceBound (a.eval x) h.toNat .sliceB).run P w = .ok l.toNat w := by
    intro x k e
    have : l ≤ (h.toNat : Int) := by omega
    simp only [Instr.sliceBound, e, asIntOf, Sem.run_bind, Sem.run_pure, Result.andThen_ok]
    rw [if_pos ⟨hl, this⟩]; rfl
  rcases q1 with ⟨rfl, rfl⟩ | ⟨x, k, rfl, ex⟩ <;> rcases q2 with ⟨rfl, rfl⟩ | ⟨y, k', rfl, ey⟩
  · simp [Instr.sliceBounds]
  · have := e1 y k' ey
    simp [Instr.sliceBounds, this]
  · have := e2 x k ex
    simp at this
    simp [Instr.sliceBounds, this]
  · have := e1 y k' ey
    have t2 := e2 x k ex
    simp [Instr.sliceBounds, this, t2]


theorem slcS_ok (h : St N w0 ι S F a w) {t : TypeId} {x : Operand} {lo hi : Option Operand} {o : Opd} {o1 o2 : Option Opd} {v : AV} (hu : P.underlying t = some .string) (hx : rO x = some o) (h1 : rOo lo = some o1) (h2 : rOo hi = some o2)
    (he : evV F (.slcS o o1 o2) = some v) : ∃ z, (Instr.sliceAt t (a.eval x) (lo.map a.eval) (hi.map a.eval) none).run P w = .ok z w ∧ AVRel ι S v z := by
  simp only [evV] at he
  split at he
  · rename_i s hs
    split at he
    · rename_i l hh e1 e2
      split at he
      · rename_i hc
        simp at he; subst he
        have := inv_str (h.val hx hs)
        refine ⟨.string (s.extract l.toNat hh.toNat), ?_, rel_str _⟩
        have hb := bounds_run (P := P) (isSlice := false) (cap := s.size) h h1 h2 e1 e2 hc.1 hc.2.1 hc.2.2 (Nat.le_refl _)
        simp [Instr.sliceAt, Instr.slice, run_underlying hu, this, hb]
      · simp at he
    · simp at he
  · simp at he

theorem slcV_ok (h : St N w0 ι S F a w) {t e : TypeId} {n : Nat} {x : Operand} {lo hi : Option Operand} {o : Opd} {o1 o2 : Option Opd} {v : AV} (hu : P.underlying t = some (.slice e)) (hn : sizeO P e = some n) (hx : rO x = some o) (h1 : rOo lo = some o1) (h2 : rOo hi = some o2)
    (he : evV F (.slcV n o o1 o2) = some v) : ∃ z, (Instr.sliceAt t (a.eval x) (lo.map a.eval) (hi.map a.eval) none).run P w = .ok z w ∧ AVRel ι S v z := by
  have run : ∀ (p : Option Addr) (len cap : Nat) (l hh : Int), a.eval x = .slice p len cap → boundO F 0 o1 = some l → boundO F len o2 = some hh → 0 ≤ l → l ≤ hh → hh ≤ len → len ≤ cap →
      (Instr.sliceAt t (a.eval x) (lo.map a.eval) (hi.map a.eval) none).run P w = .ok (.slice (if cap = l.toNat then p else p.map (·.add (l.toNat * n))) (hh.toNat - l.toNat) (cap - l.toNat)) w := by
    intro p len cap l hh ex e1 e2 c1 c2 c3 c4
    have hb := bounds_run (P := P) (isSlice := true) (cap := cap) h h1 h2 e1 e2 c1 c2 c3 c4
    simp [Instr.sliceAt, Instr.slice, run_underlying hu, ex, hb, sizeO_run hn]
  simp only [evV] at he
  split at he
  · rename_i hs
    have hrel := h.val hx hs
    split at he
    · rename_i l hh e1 e2
      split at he
      · rename_i hc
        simp at he; subst he
        have hx' : a.eval x = .slice none 0 0 := by
          generalize a.eval x = y at hrel
          cases hrel.inv_p
          rfl
        have hl0 : l = 0 := by omega
        have hh0 : hh = 0 := by omega
        subst hl0; subst hh0
        refine ⟨.slice none 0 0, ?_, .p _ _ .nsl⟩
        rw [run none 0 0 0 0 hx' e1 e2 (by omega) (by omega) (by omega) (by omega)]
        simp
      · simp at he
    · simp at he
  · rename_i sz rows hs
    have hrel := (h.val hx hs).inv_p
    split at he
    · rename_i l hh e1 e2
      split at he
      · rename_i hc
        obtain ⟨rfl, c1, c2, c3⟩ := hc
        simp at he; subst he
        generalize hy : a.eval x = y at hrel
        cases hrel with
        | sl _ _ p cap f hcap hsz hcell hr =>
          have hrun := run p rows.length cap l hh hy e1 e2 c1 c2 c3 hcap
          rw [hy] at hrun
          refine ⟨_, hrun, .p _ _ ?_⟩
          have hlen : ((rows.take hh.toNat).drop l.toNat).length = hh.toNat - l.toNat := by simp; omega
          rw [← hlen]
          have hget : ∀ i, ((rows.take hh.toNat).drop l.toNat)[i]? = if l.toNat + i < hh.toNat then rows[l.toNat + i]? else none := by
            intro i; simp [List.getElem?_drop, List.getElem?_take]
          refine .sl sz _ _ _ (fun i j => f (l.toNat + i) j) (by rw [hlen]; omega) (fun i row e => ?_) (fun i row j q e e' => ?_) (fun i row j q e e' => ?_)
          · rw [hget] at e
            split at e
            · exact hsz _ row e
            · simp at e
          · rw [hget] at e
            split at e
            · obtain ⟨b, hb, hS⟩ := hcell _ row j q e e'
              have hlt : l.toNat + i < rows.length := (List.getElem?_eq_some_iff.1 e).1
              rw [if_neg (by omega), hb]
              refine ⟨_, rfl, ?_⟩
              rw [← hS]
              congr 1
              cases b with
              | mk blk o sp =>
                simp only [Addr.add]
                by_cases q1 : l.toNat * sz = 0
                · simp [q1, Nat.add_mul]
                · rw [if_neg q1]
                  by_cases q2 : i * sz + j = 0
                  · rw [if_pos q2, if_neg (by rw [Nat.add_mul]; omega)]
                    simp [Nat.add_mul]; omega
                  · rw [if_neg q2, if_neg (by rw [Nat.add_mul]; omega)]
                    simp [Nat.add_mul]; omega
            · simp at e
          · rw [hget] at e
            split at e
            · exact hr _ row j q e e'
            · simp at e
      · simp at he
    · simp at he
  · rename_i s sz off len hs
    have hrel := h.val hx hs
    split at he
    · rename_i l hh e1 e2
      split at he
      · rename_i hc
        obtain ⟨rfl, c1, c2, c3⟩ := hc
        simp at he; subst he
        generalize hy : a.eval x = y at hrel
        cases hrel with
        | ref _ _ _ _ b total cap p hi hct hl ha =>
          have hrun := run (some p) len cap l hh hy e1 e2 c1 c2 c3 hl
          rw [hy] at hrun
          refine ⟨_, hrun, ?_⟩
          have key : ∃ p', (if cap = l.toNat then some p else (some p).map (·.add (l.toNat * sz))) = some p' ∧ (cap - l.toNat = 0 ∨ p' = ⟨b, (off + l.toNat) * sz, none⟩) := by
            by_cases q : cap = l.toNat
            · exact ⟨p, by simp [q], .inl (by omega)⟩
            · refine ⟨p.add (l.toNat * sz), by simp [q], ?_⟩
              rcases ha with h0 | rfl
              · exact .inl (by omega)
              · exact .inr (by rw [addr_add, Nat.add_mul])
          obtain ⟨p', k1, k2⟩ := key
          rw [k1]
          exact .ref s sz (off + l.toNat) (hh.toNat - l.toNat) b total (cap - l.toNat) p' hi (by omega) (by omega) k2
        | refnil _ _ hi =>
          have hl0 : l = 0 := by omega
          have hh0 : hh = 0 := by omega
          subst hl0; subst hh0
          have hrun := run none 0 0 0 0 hy e1 e2 (by omega) (by omega) (by omega) (by omega)
          rw [hy] at hrun
          refine ⟨_, hrun, ?_⟩
          simpa using .refnil s sz hi
      · simp at he
    · simp at he
  · simp at he
end
end Go.Abs
namespace Go.Abs
open Go
set_option linter.unusedSimpArgs false
set_option linter.unusedVariables false

section
variable {P : Program} {N : Nat} {w0 : Base} {ι : Inj} {S : Snap} {F : FF} {a : Act} {w : World}

theorem pick_rel {t : Bool} {u v : AV} {x y : Value} (hx : AVRel ι S u x) (hy : AVRel ι S v y) : AVRel ι S (pickV t u v) (if t then x else y) := by
  unfold pickV
  split
  · obtain rfl := inv_bool hx
    obtain rfl := inv_bool hy
    cases t <;> exact rel_bool _
  · cases t <;> simpa

theorem aggc_rel {v : AV} {x : Value} {cs : List AV} (h : AVRel ι S v x) (e : v.aggc = some cs) : ∃ us : List Value, x = .agg us.toArray ∧ Rs ι S cs us := by
  unfold AV.aggc at e
  split at e
  · simp at e; subst e
    have := h.inv_p
    cases this with
    | agg _ vs hl hh => exact ⟨vs, rfl, Ps.toRs ⟨hl, hh⟩⟩
  · simp at e; subst e
    cases h with
    | agg _ vs hl hh => exact ⟨vs, rfl, hl, hh⟩
  · simp at e

theorem Rs.seg {cs : List AV} {us : List Value} (h : Rs ι S cs us) (off n : Nat) : Rs ι S ((cs.drop off).take n) ((us.drop off).take n) := by
  refine ⟨by simp [h.1], fun j p v e1 e2 => ?_⟩
  simp only [List.getElem?_take, List.getElem?_drop] at e1 e2
  split at e1
  · rename_i hj; rw [if_pos hj] at e2; exact h.2 _ p v e1 e2
  · simp at e1

theorem part_ok {t : TypeId} {b : Bool} {n off : Nat} {cs : List AV} {us : List Value} {v : AV} (hb : aggB P t = some b) (hn : sizeO P t = some n) (h : Rs ι S cs us) (hl : off + (if b then n else 1) ≤ cs.length)
    (he : headO b ((cs.drop off).take (if b then n else 1)) = some v) : ∃ x, (part t us.toArray off).run P w = .ok x w ∧ AVRel ι S v x := by
  obtain ⟨x, h1, h2⟩ := headO_rel (h.seg off (if b then n else 1)) he
  refine ⟨x, ?_, h2⟩
  simp only [part, Sem.run_bind, aggB_run hb, Result.andThen_ok]
  cases b with
  | true =>
    simp at h1 hl
    simp only [if_true, Sem.run_bind, sizeO_run hn, Result.andThen_ok, Sem.run_pure]
    rw [h1]
    congr 2
    simp [List.take_drop, Nat.add_comm]
  | false =>
    simp at h1 hl
    obtain ⟨y, hy⟩ : ∃ y, us[off]? = some y := ⟨us[off]'(by have := h.1; omega), by simp⟩
    rw [hy] at h1
    simp only [List.getElem?_toArray, hy]
    simp at h1
    subst h1
    simp

theorem ro_drop {cells : List PV} {x : Value} (h : PRel S (.ro cells) x) (off : Nat) : ∃ p : Addr, x = .pointer (some p) ∧ PRel S (.ro (cells.drop off)) (.pointer (some (p.add off))) := by
  cases h with
  | ro _ p f hc hr =>
    refine ⟨p, rfl, .ro _ _ (fun j => f (off + j)) (fun j q e => ?_) (fun j q e => ?_)⟩
    · rw [List.getElem?_drop] at e
      rw [← hc _ q e]
      congr 1
      cases p with
      | mk blk o sp =>
        simp only [Addr.add]
        by_cases q1 : off = 0
        · simp [q1]
        · rw [if_neg q1]
          by_cases q2 : j = 0
          · rw [if_pos q2, if_neg (by omega)]; simp [q2]
          · rw [if_neg q2, if_neg (by omega)]; simp; omega
    · rw [List.getElem?_drop] at e
      exact hr _ q e

theorem faddr_ok (h : St N w0 ι S F a w) {s : TypeId} {fs : Array Field} {fd : Field} {f n : Nat} {x : Operand} {o : Opd} {v : AV} (hu : P.underlying s = some (.struct fs)) (hf : fs[f]? = some fd) (hn : sizeO P fd.type = some n) (h0 : n ≠ 0) (hx : rO x = some o)
    (he : evV F (.faddr fd.offset o) = some v) : ∃ z, (Instr.fieldAt s (a.eval x) f).run P w = .ok z w ∧ AVRel ι S v z := by
  have run : ∀ p : Addr, a.eval x = .pointer (some p) → (Instr.fieldAt s (a.eval x) f).run P w = .ok (.pointer (some (p.add fd.offset))) w := by
    intro p e
    simp [Instr.fieldAt, run_underlying hu, hf, e, Instr.sureAddr, fieldPlace, sizeO_run hn, h0]
  simp only [evV] at he
  split at he
  · rename_i sl size row off hs
    simp at he; subst he
    have hrel := h.val hx hs
    generalize hy : a.eval x = y at hrel
    cases hrel with
    | ptr _ _ _ _ b total hi =>
      refine ⟨_, by rw [← hy]; exact run _ hy, ?_⟩
      rw [addr_add, Nat.add_assoc]
      exact .ptr sl size row (off + fd.offset) b total hi
  · rename_i cells hs
    simp at he; subst he
    obtain ⟨p, e1, e2⟩ := ro_drop (h.val hx hs).inv_p fd.offset
    exact ⟨_, run p e1, .p _ _ e2⟩
  · simp at he

theorem intO_inv {x : Operand} {o : Opd} {i : Int} (h : St N w0 ι S F a w) (hx : rO x = some o) (e : (F.val o).bind intO = some i) : ∃ k, a.eval x = .int k i := by
  simp only [Option.bind_eq_some_iff] at e
  obtain ⟨v, h1, h2⟩ := e
  have := h.val hx h1
  unfold intO at h2
  split at h2
  · simp at h2; subst h2; exact ⟨_, inv_int this⟩
  · simp at h2

theorem iaddr_ok (h : St N w0 ι S F a w) {t e : TypeId} {n : Nat} {x i : Operand} {o o' : Opd} {v : AV} (hu : P.underlying t = some (.slice e)) (hn : sizeO P e = some n) (h0 : n ≠ 0) (hx : rO x = some o) (hi : rO i = some o')
    (he : evV F (.iaddr n o o') = some v) : ∃ z, (Instr.indexAt t (a.eval x) (a.eval i)).run P w = .ok z w ∧ AVRel ι S v z := by
  have run : ∀ (p : Addr) (len cap : Nat) (q : Int) (k : IntKind), a.eval x = .slice (some p) len cap → a.eval i = .int k q → 0 ≤ q → q < len → (Instr.indexAt t (a.eval x) (a.eval i)).run P w = .ok (.pointer (some (p.add (q.toNat * n)))) w := by
    intro p len cap q k e1 e2 c1 c2
    simp [Instr.indexAt, run_underlying hu, e1, e2, asIntOf, c1, c2, sizeO_run hn]
  simp only [evV] at he
  split at he
  · rename_i sz rows q hs hq
    obtain ⟨k, hk⟩ := intO_inv h hi hq
    split at he
    · rename_i hc
      obtain ⟨rfl, c1⟩ := hc
      simp only [Option.map_eq_some_iff] at he
      obtain ⟨row, hrow, rfl⟩ := he
      have hrel := (h.val hx hs).inv_p
      generalize hy : a.eval x = y at hrel
      cases hrel with
      | sl _ _ p cap f hcap hsz hcell hr =>
        have hlt := (List.getElem?_eq_some_iff.1 hrow).1
        have hlen := hsz _ row hrow
        obtain ⟨c0, hc0⟩ : ∃ c, row[0]? = some c := ⟨row[0]'(by omega), by simp⟩
        obtain ⟨b, rfl, _⟩ := hcell _ row 0 c0 hrow hc0
        refine ⟨_, by rw [← hy]; exact run b rows.length cap q k hy hk c1 (by omega), .p _ _ ?_⟩
        refine .ro row _ (fun j => f q.toNat j) (fun j c e => ?_) (fun j c e => hr _ row j c hrow e)
        obtain ⟨b', hb', hS⟩ := hcell _ row j c hrow e
        simp at hb'; subst hb'
        rw [← hS]
        congr 1
        cases b with
        | mk blk of sp =>
          simp only [Addr.add]
          by_cases q1 : q.toNat * sz = 0
          · simp [q1]
          · rw [if_neg q1]
            by_cases q2 : j = 0
            · rw [if_pos q2, if_neg (by omega)]; simp [q2]
            · rw [if_neg q2, if_neg (by omega)]; simp; omega
    · simp at he
  · rename_i s sz off len q hs hq
    obtain ⟨k, hk⟩ := intO_inv h hi hq
    split at he
    · rename_i hc
      obtain ⟨rfl, c1, c2⟩ := hc
      simp at he; subst he
      have hrel := h.val hx hs
      generalize hy : a.eval x = y at hrel
      cases hrel with
      | ref _ _ _ _ b total cap p hi' hct hl ha =>
        refine ⟨_, by rw [← hy]; exact run p len cap q k hy hk c1 c2, ?_⟩
        rcases ha with h1 | rfl
        · omega
        · rw [addr_add, ← Nat.add_mul]
          exact .ptr s sz (off + q.toNat) 0 b total hi'
      | refnil _ _ hi' => omega
    · simp at he
  · simp at he

theorem iaddrA_ok (h : St N w0 ι S F a w) {t e : TypeId} {n len : Nat} {x i : Operand} {o o' : Opd} {v : AV} (hu : P.underlying t = some (.array len e)) (hn : sizeO P e = some n) (hx : rO x = some o) (hi : rO i = some o')
    (he : evV F (.iaddrA n len o o') = some v) : ∃ z, (Instr.indexAt t (a.eval x) (a.eval i)).run P w = .ok z w ∧ AVRel ι S v z := by
  have run : ∀ (p : Addr) (q : Int) (k : IntKind), a.eval x = .pointer (some p) → a.eval i = .int k q → 0 ≤ q → q < len → (Instr.indexAt t (a.eval x) (a.eval i)).run P w = .ok (.pointer (some (p.add (q.toNat * n)))) w := by
    intro p q k e1 e2 c1 c2
    simp [Instr.indexAt, run_underlying hu, e1, e2, asIntOf, c1, c2, sizeO_run hn, Instr.sureAddr]
  simp only [evV] at he
  split at he
  · rename_i cells q hs hq
    obtain ⟨k, hk⟩ := intO_inv h hi hq
    split at he
    · rename_i hc
      simp at he; subst he
      obtain ⟨p, e1, e2⟩ := ro_drop (h.val hx hs).inv_p (q.toNat * n)
      exact ⟨_, run p q k e1 hk hc.1 hc.2, .p _ _ e2⟩
    · simp at he
  · rename_i s sz row o2 q hs hq
    obtain ⟨k, hk⟩ := intO_inv h hi hq
    split at he
    · rename_i hc
      simp at he; subst he
      have hrel := h.val hx hs
      generalize hy : a.eval x = y at hrel
      cases hrel with
      | ptr _ _ _ _ b total hi' =>
        refine ⟨_, by rw [← hy]; exact run _ q k hy hk hc.1 hc.2, ?_⟩
        rw [addr_add, Nat.add_assoc]
        exact .ptr s sz row _ b total hi'
    · simp at he
  · simp at he

theorem idxS_ok (h : St N w0 ι S F a w) {t : TypeId} {x i : Operand} {o o' : Opd} {v : AV} (hu : P.underlying t = some .string) (hx : rO x = some o) (hi : rO i = some o')
    (he : evV F (.idxS o o') = some v) : ∃ z, (Instr.index t (a.eval x) (a.eval i)).run P w = .ok z w ∧ AVRel ι S v z := by
  simp only [evV] at he
  split at he
  · rename_i s q hs hq
    obtain ⟨k, hk⟩ := intO_inv h hi hq
    have := inv_str (h.val hx hs)
    split at he
    · rename_i hc
      simp only [Option.map_eq_some_iff] at he
      obtain ⟨b, hb, rfl⟩ := he
      refine ⟨_, ?_, rel_int _ _⟩
      simp [Instr.index, this, hk, asIntOf, run_underlying hu, hc, hb]
    · simp at he
  · simp at he

theorem idxA_ok (h : St N w0 ι S F a w) {t e : TypeId} {n len : Nat} {b : Bool} {x i : Operand} {o o' : Opd} {v : AV} (hu : P.underlying t = some (.array len e)) (hb : aggB P e = some b) (hn : sizeO P e = some n) (hx : rO x = some o) (hi : rO i = some o')
    (he : evV F (.idxA n b len o o') = some v) : ∃ z, (Instr.index t (a.eval x) (a.eval i)).run P w = .ok z w ∧ AVRel ι S v z := by
  simp only [evV] at he
  split at he
  · rename_i cs q hs hq
    obtain ⟨k, hk⟩ := intO_inv h hi hq
    simp only [Option.bind_eq_some_iff] at hs
    obtain ⟨u, h1, h2⟩ := hs
    obtain ⟨us, e1, e2⟩ := aggc_rel (h.val hx h1) h2
    split at he
    · rename_i hc
      obtain ⟨c1, c2, c3, c4⟩ := hc
      have hif : (if b then n else 1) = n := by cases b <;> simp at c4 ⊢; omega
      obtain ⟨z, z1, z2⟩ := part_ok (P := P) (w := w) (off := q.toNat * n) hb hn e2 (by rw [hif]; exact c3) (by rw [hif]; exact he)
      refine ⟨z, ?_, z2⟩
      simp [Instr.index, e1, hk, asIntOf, run_underlying hu, c1, c2, sizeO_run hn, z1]
    · simp at he
  · simp at he

theorem field_ok (h : St N w0 ι S F a w) {t : TypeId} {fs : Array Field} {fd : Field} {f n : Nat} {b : Bool} {x : Operand} {o : Opd} {v : AV} (hu : P.underlying t = some (.struct fs)) (hf : fs[f]? = some fd) (hb : aggB P fd.type = some b) (hn : sizeO P fd.type = some n) (hx : rO x = some o)
    (he : evV F (.field fd.offset b (if b then n else 1) o) = some v) : ∃ z, (Instr.field t (a.eval x) f).run P w = .ok z w ∧ AVRel ι S v z := by
  simp only [evV, Option.bind_eq_some_iff] at he
  obtain ⟨cs, ⟨u, h1, h2⟩, he⟩ := he
  obtain ⟨us, e1, e2⟩ := aggc_rel (h.val hx h1) h2
  by_cases hc : fd.offset + (if b then n else 1) ≤ cs.length
  · rw [if_pos hc] at he
    obtain ⟨z, z1, z2⟩ := part_ok (P := P) (w := w) hb hn e2 hc he
    refine ⟨z, ?_, z2⟩
    simp [Instr.field, e1, run_underlying hu, hf, asAgg, z1]
  · rw [if_neg hc] at he; simp at he

theorem ext_ok (h : St N w0 ι S F a w) {x : Operand} {o : Opd} {i : Nat} {v : AV} (hx : rO x = some o) (he : evV F (.ext o i) = some v) : ∃ z, (Instr.extract (a.eval x) i).run P w = .ok z w ∧ AVRel ι S v z := by
  simp only [evV] at he
  split at he
  · rename_i vs hs
    simp only [Option.map_eq_some_iff] at he
    obtain ⟨q, hq, rfl⟩ := he
    have hrel := (h.val hx hs).inv_p
    generalize a.eval x = y at hrel
    cases hrel with
    | tup _ us hl hh =>
      obtain ⟨z, hz⟩ : ∃ z, us[i]? = some z := ⟨us[i]'(by have := (List.getElem?_eq_some_iff.1 hq).1; omega), by simp⟩
      exact ⟨z, by simp [Instr.extract, hz], .p _ _ (hh i q z hq hz)⟩
  · rename_i vs hs
    have hrel := h.val hx hs
    generalize a.eval x = y at hrel
    cases hrel with
    | tup _ us hl hh =>
      obtain ⟨z, hz⟩ : ∃ z, us[i]? = some z := ⟨us[i]'(by have := (List.getElem?_eq_some_iff.1 he).1; omega), by simp⟩
      exact ⟨z, by simp [Instr.extract, hz], hh i v z he hz⟩
  · simp at he

theorem lenV_ok {v : AV} {x : Value} {n : Nat} {t : TypeId} {str : Bool} (hu : if str then P.underlying t = some .string else ∃ e, P.underlying t = some (.slice e))
    (h : AVRel ι S v x) (e : lenV str v = some n) (ty : TypeId) : (Builtin.len_ #[t] ty #[x]).run P w = .ok (.int .i64 n) w := by
  unfold lenV at e
  split at e
  · split at e
    · rename_i hs
      simp at e; subst e
      obtain rfl := inv_str h
      rw [if_pos hs] at hu
      simp [Builtin.len_, run_underlying hu, goInt]
    · simp at e
  · split at e
    · simp at e
    · rename_i hs
      simp at e; subst e
      rw [if_neg hs] at hu
      obtain ⟨e, hu⟩ := hu
      have := h.inv_p
      cases this
      simp [Builtin.len_, run_underlying hu, goInt]
  · split at e
    · simp at e
    · rename_i hs
      simp at e; subst e
      rw [if_neg hs] at hu
      obtain ⟨e, hu⟩ := hu
      have := h.inv_p
      cases this
      simp [Builtin.len_, run_underlying hu, goInt]
  · split at e
    · simp at e
    · rename_i hs
      simp at e; subst e
      rw [if_neg hs] at hu
      obtain ⟨e, hu⟩ := hu
      cases h with
      | ref _ _ _ _ b total cap p hi hct hl ha => simp [Builtin.len_, run_underlying hu, goInt]
      | refnil => simp [Builtin.len_, run_underlying hu, goInt]
  · simp at e

theorem mm_ok {mx : Bool} {k k' : IntKind} {m n : Int} (t : Array TypeId) (ty : TypeId) :
    ((if mx then Builtin.max_ t ty else Builtin.min_ t ty) #[.int k m, .int k' n]).run P w = .ok (.int k (if mx then max m n else min m n)) w := by
  cases mx
  · simp [Builtin.min_, Builtin.min2]; omega
  · simp [Builtin.max_, Builtin.max2]; omega

theorem mkfn_rel {fn : Fn} {f c : List AV} {fs cs : List Value} (h1 : Rs ι S f fs) (h2 : Rs ι S c cs) :
    AVRel ι S (match allP f, allP c with | some f', some c' => .p (.clo fn f' c') | _, _ => .clo fn f c) (.func fn fs.toArray cs.toArray) := by
  split
  · rename_i f' c' e1 e2
    exact .p _ _ (.clo fn f' c' fs cs (h1.toPs e1).1 (h2.toPs e2).1 (h1.toPs e1).2 (h2.toPs e2).2)
  · exact .clo fn f c fs cs h1.1 h2.1 h1.2 h2.2

end
end Go.Abs
namespace Go.Abs
open Go
set_option linter.unusedSimpArgs false
set_option linter.unusedVariables false

section
variable {P : Program} {N : Nat} {w0 : Base} {ι : Inj} {S : Snap} {F : FF} {a : Act} {w : World}

theorem leavesEq_append {us vs : List PV} : ∀ {l m : List (Nat × Nat)} {r : Bool}, leavesEq us vs (l ++ m) = some r → ∃ p q, leavesEq us vs l = some p ∧ leavesEq us vs m = some q ∧ r = (p && q)
  | [], m, r, h => ⟨true, r, rfl, h, by simp⟩
  | (i, k) :: l, m, r, h => by
    simp only [List.cons_append, leavesEq] at h
    split at h
    · rename_i b q e1 e2
      obtain ⟨p', q', h1, h2, rfl⟩ := leavesEq_append e2
      simp at h
      exact ⟨b && p', q', by simp [leavesEq, e1, h1], h2, by rw [← h, Bool.and_assoc]⟩
    · simp at h

/-- A part of a row of cells. -/
def PartOf (P : Program) (t : TypeId) (xs : List Value) (base : Nat) (x : Value) : Prop :=
  (aggB P t = some false ∧ xs[base]? = some x) ∨ (aggB P t = some true ∧ ∃ n, sizeO P t = some n ∧ x = .agg (xs.toArray.extract base (base + n)))

def isAggD : TypeDesc → Bool
  | .struct _ | .array _ _ => true
  | _ => false
theorem aggB_some {t : TypeId} {d : TypeDesc} (h : P.underlying t = some d) : aggB P t = some (isAggD d) := by
  simp only [aggB, h]; cases d <;> rfl

theorem part_of {t : TypeId} {n N0 off base : Nat} {b : Bool} {xs : List Value} (hb : aggB P t = some b) (hn : sizeO P t = some n) (hle : off + n ≤ N0) (hl : b = false → n = 1) (hlen : base + N0 ≤ xs.length) :
    ∃ x, (part t (xs.toArray.extract base (base + N0)) off).run P w = .ok x w ∧ PartOf P t xs (base + off) x := by
  cases b with
  | true =>
    refine ⟨_, ?_, .inr ⟨hb, n, hn, rfl⟩⟩
    simp only [part, Sem.run_bind, aggB_run hb, Result.andThen_ok, if_true, sizeO_run hn, Sem.run_pure]
    congr 2
    rw [Array.extract_extract]
    congr 1
    omega
  | false =>
    have h1 := hl rfl
    subst h1
    obtain ⟨x, hx⟩ : ∃ x, xs[base + off]? = some x := ⟨xs[base + off]'(by omega), by simp⟩
    refine ⟨x, ?_, .inl ⟨hb, hx⟩⟩
    have : (xs.toArray.extract base (base + N0))[off]? = some x := by
      rw [Array.getElem?_extract]
      simp only [List.size_toArray, List.getElem?_toArray]
      rw [if_pos (by omega)]
      exact hx
    simp only [part, Sem.run_bind, aggB_run hb, Result.andThen_ok, Bool.false_eq_true, if_false, this, Sem.run_pure]

theorem leaves_size1 {d : Nat} {t : TypeId} {base : Nat} {ls : List (Nat × Nat)} (h : leaves P d t base = some ls) : ∃ b n, aggB P t = some b ∧ sizeO P t = some n ∧ (b = false → n = 1) := by
  cases d with
  | zero => simp [leaves] at h
  | succ d =>
    simp only [leaves] at h
    split at h
    · rename_i hu hs; exact ⟨false, 1, aggB_some hu, hs, fun _ => rfl⟩
    · rename_i hu hs; exact ⟨false, 1, aggB_some hu, hs, fun _ => rfl⟩
    · rename_i hu hs; exact ⟨false, 1, aggB_some hu, hs, fun _ => rfl⟩
    · rename_i fs n hu hs; exact ⟨true, n, aggB_some hu, hs, by simp⟩
    · rename_i len e n hu hs; exact ⟨true, n, aggB_some hu, hs, by simp⟩
    · simp at h

theorem scalar_leaf {us vs : List PV} {xs ys : List Value} {base tag : Nat} {x y : Value} {r : Bool} (hx : Ps S us xs) (hy : Ps S vs ys) (e1 : xs[base]? = some x) (e2 : ys[base]? = some y) (h : leavesEq us vs [(base, tag)] = some r) :
    (tag = 1 ∧ ∃ k m n, x = .int k m ∧ y = .int k n ∧ r = (m == n)) ∨ (tag = 0 ∧ ∃ m n, x = .bool m ∧ y = .bool n ∧ r = (m == n)) ∨ (tag = 2 ∧ ∃ m n, x = .string m ∧ y = .string n ∧ r = (m.toList == n.toList)) := by
  simp only [leavesEq] at h
  split at h
  · rename_i b q h1 h2
    simp at h2 h; subst h2; simp at h; subst h
    simp only [Option.bind_eq_some_iff] at h1
    obtain ⟨u, hu, v, hv, hs⟩ := h1
    have r1 := hx.2 base u x hu e1
    have r2 := hy.2 base v y hv e2
    unfold scalarEq at hs
    split at hs
    · split at hs
      · rename_i hk; subst hk; simp at hs; subst hs; cases r1; cases r2; exact .inl ⟨rfl, _, _, _, rfl, rfl, (beq_dec _ _).symm⟩
      · simp at hs
    · simp at hs; subst hs; cases r1; cases r2; exact .inr (.inl ⟨rfl, _, _, rfl, rfl, rfl⟩)
    · simp at hs; subst hs; cases r1; cases r2; exact .inr (.inr ⟨rfl, _, _, rfl, rfl, rfl⟩)
    · simp at hs
  · simp at h

theorem partOf_scalar {t : TypeId} {xs : List Value} {base : Nat} {x : Value} {d : TypeDesc} (hu : P.underlying t = some d) (hd : isAggD d = false) (h : PartOf P t xs base x) : xs[base]? = some x := by
  have hb := aggB_some hu
  rcases h with ⟨_, h⟩ | ⟨h, _⟩
  · exact h
  · rw [hb, hd] at h; simp at h
theorem partOf_agg {t : TypeId} {xs : List Value} {base n : Nat} {x : Value} {d : TypeDesc} (hu : P.underlying t = some d) (hd : isAggD d = true) (hn : sizeO P t = some n) (h : PartOf P t xs base x) : x = .agg (xs.toArray.extract base (base + n)) := by
  have hb := aggB_some hu
  rcases h with ⟨h, _⟩ | ⟨_, m, h1, h2⟩
  · rw [hb, hd] at h; simp at h
  · rw [hn] at h1; simp at h1; subst h1; exact h2

def EqAt (P : Program) (S : Snap) (us vs : List PV) (xs ys : List Value) (d : Nat) : Prop :=
  ∀ (w : World) (D : Nat) (t : TypeId) (base n : Nat) (ls : List (Nat × Nat)) (x y : Value) (r : Bool), d ≤ D → leaves P d t base = some ls → sizeO P t = some n → base + n ≤ xs.length → base + n ≤ ys.length →
    PartOf P t xs base x → PartOf P t ys base y → leavesEq us vs ls = some r → (Op.equalIn D t x y).run P w = .ok r w

theorem eqFields_ok {us vs : List PV} {xs ys : List Value} {d D n base : Nat} (ih : EqAt P S us vs xs ys d) (hD : d ≤ D) (hl : base + n ≤ xs.length) (hl' : base + n ≤ ys.length) : ∀ {fs : List Field} {ls : List (Nat × Nat)} {r : Bool}, leavesF P d n base fs = some ls → leavesEq us vs ls = some r →
    (Op.eqFields D (xs.toArray.extract base (base + n)) (ys.toArray.extract base (base + n)) fs).run P w = .ok r w
  | [], ls, r, h, he => by simp [leavesF, leavesFg] at h; subst h; simp [leavesEq] at he; subst he; simp [Op.eqFields]
  | f :: fs, ls, r, h, he => by
    simp only [leavesF, leavesFg] at h
    split at h
    · rename_i m l q e1 e2 e3
      split at h
      · rename_i hc
        simp at h; subst h
        obtain ⟨p1, p2, h1, h2, rfl⟩ := leavesEq_append he
        obtain ⟨b, n', hb, hn, h01⟩ := leaves_size1 e2
        rw [e1] at hn; simp at hn; subst hn
        obtain ⟨x, x1, x2⟩ := part_of (P := P) (w := w) hb e1 hc.2 h01 hl
        obtain ⟨y, y1, y2⟩ := part_of (P := P) (w := w) hb e1 hc.2 h01 hl'
        have hq := ih w D f.type _ m l x y p1 hD e2 e1 (by omega) (by omega) x2 y2 h1
        have hr := eqFields_ok ih hD hl hl' (fs := fs) e3 h2
        simp only [Op.eqFields, if_pos hc.1, Sem.run_bind, x1, y1, hq, Result.andThen_ok, Sem.run_ite]
        cases p1
        · simp
        · simpa using hr
      · simp at h
    · simp at h

theorem eqArr_ok {us vs : List PV} {xs ys : List Value} {d D n base m len : Nat} {e : TypeId} (ih : EqAt P S us vs xs ys d) (hD : d ≤ D) (hl : base + n ≤ xs.length) (hl' : base + n ≤ ys.length) (hm : sizeO P e = some m) (hlen : len * m ≤ n) :
    ∀ {is : List Nat} {ls : List (Nat × Nat)} {r : Bool}, (∀ i ∈ is, i < len) → leavesA P d e m base is = some ls → leavesEq us vs ls = some r →
    (forIn (m := Sem) is ((none : Option Bool), ()) (fun i _ => do
      let a ← part e (xs.toArray.extract base (base + n)) (i * m)
      let b ← part e (ys.toArray.extract base (base + n)) (i * m)
      let q ← Op.equalIn D e a b
      if (!q) = true then pure (ForInStep.done (some false, ())) else pure (ForInStep.yield (none, ())))).run P w = .ok (if r then (none, ()) else (some false, ())) w
  | [], ls, r, hi, h, he => by simp [leavesA, leavesAg] at h; subst h; simp [leavesEq] at he; subst he; simp
  | i :: is, ls, r, hi, h, he => by
    simp only [leavesA, leavesAg] at h
    split at h
    · rename_i l q e2 e3
      simp at h; subst h
      obtain ⟨p1, p2, h1, h2, rfl⟩ := leavesEq_append he
      obtain ⟨b, n', hb, hn, h01⟩ := leaves_size1 e2
      rw [hm] at hn; simp at hn; subst hn
      have hil : i < len := hi i (by simp)
      have hle : i * m + m ≤ n := by
        have : (i + 1) * m ≤ len * m := Nat.mul_le_mul_right _ hil
        rw [Nat.add_mul] at this; omega
      obtain ⟨x, x1, x2⟩ := part_of (P := P) (w := w) hb hm hle h01 hl
      obtain ⟨y, y1, y2⟩ := part_of (P := P) (w := w) hb hm hle h01 hl'
      have hq := ih w D e _ m l x y p1 hD e2 hm (by omega) (by omega) x2 y2 h1
      have hr := eqArr_ok ih hD hl hl' hm hlen (is := is) (fun j hj => hi j (by simp [hj])) e3 h2
      simp only [List.forIn_cons, Sem.run_bind, x1, y1, hq, Result.andThen_ok, Sem.run_ite]
      cases p1
      · simp
      · simpa using hr
    · simp at h

theorem leaves_ok {us vs : List PV} {xs ys : List Value} (hx : Ps S us xs) (hy : Ps S vs ys) : ∀ d, EqAt P S us vs xs ys d := by
  intro d
  induction d with
  | zero => intro w D t base n ls x y r hD h; simp [leaves] at h
  | succ d ih =>
    intro w D t base n ls x y r hD h hn hl hl' px py he
    obtain ⟨D, rfl⟩ : ∃ D', D = D' + 1 := ⟨D - 1, by omega⟩
    simp only [leaves] at h
    split at h
    · rename_i hu hs
      simp at h; subst h
      rcases scalar_leaf hx hy (partOf_scalar hu rfl px) (partOf_scalar hu rfl py) he with ⟨q, _⟩ | ⟨_, m, n, rfl, rfl, rfl⟩ | ⟨q, _⟩
      · simp at q
      · exact run_equalIn_bool' w D t m n hu
      · simp at q
    · rename_i k hu hs
      simp at h; subst h
      rcases scalar_leaf hx hy (partOf_scalar hu rfl px) (partOf_scalar hu rfl py) he with ⟨_, k, m, n, rfl, rfl, rfl⟩ | ⟨q, _⟩ | ⟨q, _⟩
      · exact run_equalIn_int w D t k _ m n hu
      · simp at q
      · simp at q
    · rename_i hu hs
      simp at h; subst h
      rcases scalar_leaf hx hy (partOf_scalar hu rfl px) (partOf_scalar hu rfl py) he with ⟨q, _⟩ | ⟨q, _⟩ | ⟨_, m, n, rfl, rfl, rfl⟩
      · simp at q
      · simp at q
      · exact run_equalIn_string w D t m n hu
    · rename_i fs n' hu hs
      rw [hn] at hs; simp at hs; subst hs
      split at h
      · rename_i hst
        have ex := partOf_agg hu rfl hn px
        have ey := partOf_agg hu rfl hn py
        subst ex; subst ey
        have hfo : P.fieldsOf t = fs := by simp [Program.fieldsOf, hu]
        rw [run_equalIn_agg w D t _ _ (by rw [hfo]; exact hu) hst, hfo]
        exact eqFields_ok ih (by omega) hl hl' h he
      · simp at h
    · rename_i len e n' hu hs
      rw [hn] at hs; simp at hs; subst hs
      split at h
      · rename_i m hm
        split at h
        · rename_i hlen
          have ex := partOf_agg hu rfl hn px
          have ey := partOf_agg hu rfl hn py
          subst ex; subst ey
          have key := eqArr_ok (w := w) ih (by omega : d ≤ D) hl hl' hm hlen (is := List.range' 0 len) (fun i hi => by simpa using hi) h he
          simp only [Op.equalIn, Sem.run_bind, run_underlying hu, Result.andThen_ok, sizeO_run hm]
          rw [Std.Legacy.Range.forIn_eq_forIn_range']
          simp only [Std.Legacy.Range.size, Nat.sub_zero, Nat.add_sub_cancel, Nat.div_one]
          rw [key]
          cases r <;> rfl
        · simp at h
      · simp at h
    · simp at h

end
end Go.Abs
namespace Go.Abs
open Go
set_option linter.unusedSimpArgs false
set_option linter.unusedVariables false

section
variable {P : Program} {N : Nat} {w0 : Base} {ι : Inj} {S : Snap} {F : FF} {a : Act} {w : World}

theorem eqs_ok {us vs : List PV} {xs ys : List Value} {t : TypeId} {ls : List (Nat × Nat)} {r : Bool} {x y : Operand} (hx : Ps S us xs) (hy : Ps S vs ys) (hb : aggB P t = some true) (hg : P.eqGuardType P.depth t = false)
    (hl : leaves P 20 t 0 = some ls) (hn : sizeO P t = some xs.length) (hn' : sizeO P t = some ys.length) (he : leavesEq us vs ls = some r) (neg : Bool) :
    (do eqGuard (if neg then .neq else .eql) t x y (.agg xs.toArray) (.agg ys.toArray); binOp (if neg then .neq else .eql) t (.agg xs.toArray) (.agg ys.toArray) : Sem Value).run P w = .ok (.bool (if neg then !r else r)) w := by
  have hq : (Op.equalIn 10000 t (.agg xs.toArray) (.agg ys.toArray)).run P w = .ok r w := by
    refine leaves_ok hx hy 20 w 10000 t 0 xs.length ls _ _ r (by omega) hl hn (by omega) ?_ ?_ ?_ he
    · rw [hn] at hn'; simp at hn'; omega
    · exact .inr ⟨hb, xs.length, hn, by simp⟩
    · exact .inr ⟨hb, ys.length, hn', by simp⟩
  cases neg
  · simp only [Bool.false_eq_true, if_false, Sem.run_bind, run_eqGuard_agg w .eql t x y _ _ hg, Result.andThen_ok, run_eql_struct, hq]
  · simp only [if_true, Sem.run_bind, run_eqGuard_agg w .neq t x y _ _ hg, Result.andThen_ok, run_neq_struct, hq]

/-- A value is made, and nothing is turned. -/
theorem evV_ok (h : St N w0 ι S F a w) {o : Oper} {ao : AOp} {v : AV} (hr : resolveOp P o.op = some ao) (he : evV F ao = some v) : ∃ x, (execOp a.eval o).run P w = .ok (.value x) w ∧ AVRel ι S v x := by
  have fin : ∀ (s : Sem Value), (∃ x, s.run P w = .ok x w ∧ AVRel ι S v x) → ∃ x, (do pure (.value (← s)) : Sem Next).run P w = .ok (.value x) w ∧ AVRel ι S v x := by
    rintro s ⟨x, h1, h2⟩
    exact ⟨x, by simp [h1], h2⟩
  unfold execOp
  cases hop : o.op with
  | move x =>
    simp only [hop, resolveOp, Option.map_eq_some_iff] at hr
    obtain ⟨q, h1, rfl⟩ := hr
    exact ⟨_, rfl, h.val h1 he⟩
  | assign x =>
    simp only [hop, resolveOp, Option.map_eq_some_iff] at hr
    obtain ⟨q, h1, rfl⟩ := hr
    exact ⟨_, rfl, h.val h1 he⟩
  | pick c x y =>
    simp only [hop, resolveOp] at hr
    split at hr
    · rename_i c' x' y' h1 h2 h3
      simp at hr; subst hr
      simp only [evV] at he
      split at he
      · rename_i t va vb g1 g2 g3
        simp at he; subst he
        have := inv_bool (h.val h1 g1)
        refine ⟨_, ?_, pick_rel (h.val h2 g2) (h.val h3 g3)⟩
        simp [this, asBool]
      · simp at he
    · simp at hr
  | alloc t =>
    simp only [hop, resolveOp, Option.map_eq_some_iff] at hr
    obtain ⟨q, h1, rfl⟩ := hr
    simp [evV] at he
  | box t x =>
    simp only [hop, resolveOp, Option.map_eq_some_iff] at hr
    obtain ⟨q, h1, rfl⟩ := hr
    simp [evV] at he
  | build t parts =>
    rw [hop] at hr
    exact fin _ (build_ok h hr he)
  | buildSlice t len parts =>
    simp only [hop, resolveOp] at hr
    repeat' split at hr
    all_goals (try (simp at hr; done))
    simp only [Option.map_eq_some_iff] at hr
    obtain ⟨q, h1, rfl⟩ := hr
    simp [evV] at he
  | insert t m k x => simp [hop, resolveOp] at hr
  | load t x =>
    simp only [hop, resolveOp] at hr
    split at hr
    · rename_i b n o' h1 h2 h3
      simp at hr; subst hr
      simp only [evV, Option.bind_eq_some_iff] at he
      obtain ⟨u, g1, cs, g2, g3⟩ := he
      exact fin _ (load_ok h h1 h2 (h.val h3 g1) g2 g3)
    · simp at hr
  | store t x y =>
    simp only [hop, resolveOp] at hr
    split at hr
    · simp at hr; subst hr; simp [evV] at he
    · simp at hr
  | ready g => simp [hop, resolveOp] at hr
  | waits g => simp [hop, resolveOp] at hr
  | nilCheck x =>
    simp only [hop, resolveOp, Option.map_eq_some_iff] at hr
    obtain ⟨q, h1, rfl⟩ := hr
    simp only [evV] at he
    split at he
    · rename_i s b c d g
      simp at he; subst he
      have hrel := h.val h1 g
      refine ⟨a.eval x, ?_, hrel⟩
      dsimp only
      generalize a.eval x = y at hrel
      cases hrel; rfl
    · rename_i cs g
      simp at he; subst he
      have hrel := h.val h1 g
      refine ⟨a.eval x, ?_, hrel⟩
      dsimp only
      generalize a.eval x = y at hrel
      cases hrel.inv_p; rfl
    · simp at he
  | binOp op t x y t2 =>
    simp only [hop, resolveOp] at hr
    split at hr
    · rename_i o1 o2 h1 h2
      have binc : ∀ {d}, P.underlying t = some d → evV F (.bin op o1 o2) = some v → ∃ z, (do eqGuard op t x y (a.eval x) (a.eval y); binOp op t (a.eval x) (a.eval y) : Sem Value).run P w = .ok z w ∧ AVRel ι S v z := by
        intro d hu he
        simp only [evV] at he
        split at he
        · rename_i u1 u2 g1 g2
          have r1 := h.val h1 g1
          have r2 := h.val h2 g2
          obtain ⟨z, z1, z2⟩ := bin_ok (P := P) (w := w) (t := t) r1 r2 he
          have hguard : (eqGuard op t x y (a.eval x) (a.eval y)).run P w = .ok () w := by
            unfold binV at he
            split at he
            · rw [inv_int r1, inv_int r2]; exact guard_int
            · rw [inv_str r1, inv_str r2]; exact guard_str
            · simp at he
          exact ⟨z, by simp only [Sem.run_bind, hguard, Result.andThen_ok, z1], z2⟩
        · simp at he
      have eqc : ∀ neg, P.underlying t = some .bool → evV F (.eqb neg o1 o2) = some v → ∃ z, (do eqGuard (if neg then .neq else .eql) t x y (a.eval x) (a.eval y); binOp (if neg then .neq else .eql) t (a.eval x) (a.eval y) : Sem Value).run P w = .ok z w ∧ AVRel ι S v z := by
        intro neg hu he
        simp only [evV] at he
        split at he
        · rename_i m n g1 g2
          simp only [Option.some.injEq] at he; subst he
          have r1 := inv_bool (h.val h1 g1)
          have r2 := inv_bool (h.val h2 g2)
          refine ⟨_, ?_, rel_bool _⟩
          rw [r1, r2]
          simp only [Sem.run_bind, guard_bool, Result.andThen_ok]
          exact eqb_ok hu
        · simp at he
      split at hr
      · rename_i k hu; simp at hr; subst hr; exact fin _ (binc hu he)
      · rename_i hu; simp at hr; subst hr; exact fin _ (binc hu he)
      · rename_i hu
        split at hr
        · simp at hr; subst hr; have := eqc false hu he; simp only [Bool.false_eq_true, if_false] at this; exact fin _ this
        · simp at hr; subst hr; have := eqc true hu he; simp only [if_true] at this; exact fin _ this
        · simp at hr
      all_goals
        first
        | (simp at hr; done)
        | (rename_i hu
           split at hr
           · rename_i hg
             have eqd : ∀ neg n ls, aggB P t = some true → sizeO P t = some n → leaves P 20 t 0 = some ls → evV F (.eqs neg n ls o1 o2) = some v → ∃ z, (do eqGuard (if neg then .neq else .eql) t x y (a.eval x) (a.eval y); binOp (if neg then .neq else .eql) t (a.eval x) (a.eval y) : Sem Value).run P w = .ok z w ∧ AVRel ι S v z := by
               intro neg n ls hag hn hls he
               simp only [evV] at he
               split at he
               · rename_i us vs g1 g2
                 split at he
                 · rename_i hlen
                   simp only [Option.map_eq_some_iff] at he
                   obtain ⟨r, hr, rfl⟩ := he
                   have r1 := (h.val h1 g1).inv_p
                   have r2 := (h.val h2 g2).inv_p
                   refine ⟨_, ?_, rel_bool _⟩
                   generalize a.eval x = x1 at r1
                   generalize a.eval y = y1 at r2
                   cases r1 with
                   | agg _ xs hl hh =>
                     cases r2 with
                     | agg _ ys hl' hh' =>
                       exact eqs_ok ⟨hl, hh⟩ ⟨hl', hh'⟩ hag hg hls (by rw [hl, hlen.1]; exact hn) (by rw [hl', hlen.2]; exact hn) hr neg
                 · simp at he
               · simp at he
             split at hr
             · rename_i ls n hls hn; simp at hr; subst hr; have := eqd false n ls (aggB_some hu) hn hls he; simp only [Bool.false_eq_true, if_false] at this; exact fin _ this
             · rename_i ls n hls hn; simp at hr; subst hr; have := eqd true n ls (aggB_some hu) hn hls he; simp only [if_true] at this; exact fin _ this
             · simp at hr
           · simp at hr)
    · simp at hr
  | unOp op t x =>
    simp only [hop, resolveOp, Option.map_eq_some_iff] at hr
    obtain ⟨q, h1, rfl⟩ := hr
    simp only [evV, Option.bind_eq_some_iff] at he
    obtain ⟨u, g1, g2⟩ := he
    exact fin _ (un_ok (h.val h1 g1) g2)
  | convert s t x =>
    simp only [hop, resolveOp] at hr
    split at hr
    · rename_i d k o' h1 h2 h3
      simp at hr; subst hr
      simp only [evV] at he
      split at he
      · rename_i k' n g
        simp at he; subst he
        have r1 := inv_int (h.val h3 g)
        refine fin _ ⟨.int k (k.wrap n), ?_, rel_int _ _⟩
        rw [r1]
        simp only [convert, Sem.run_bind, run_underlying h1, run_underlying h2, Result.andThen_ok]
        rfl
      · simp at he
    · simp at hr
  | sliceToArrayPointer t x => simp [hop, resolveOp] at hr
  | makeInterface t x => simp [hop, resolveOp] at hr
  | makeFunc fn first captured =>
    simp only [hop, resolveOp] at hr
    split at hr
    · rename_i f c h1 h2
      simp at hr; subst hr
      simp only [evV] at he
      split at he
      · rename_i f' c' g1 g2
        simp only [Option.some.injEq] at he; subst he
        refine fin _ ⟨_, rfl, ?_⟩
        have r1 := h.vals h1 g1
        have r2 := h.vals h2 g2
        have := mkfn_rel (fn := fn) r1 r2
        rw [show (List.map a.eval first.toList).toArray = first.map a.eval from by apply Array.ext'; simp, show (List.map a.eval captured.toList).toArray = captured.map a.eval from by apply Array.ext'; simp] at this
        exact this
      · simp at he
    · simp at hr
  | makeMap t r => simp [hop, resolveOp] at hr
  | makeChan t s => simp [hop, resolveOp] at hr
  | makeSlice t l c =>
    simp only [hop, resolveOp] at hr
    repeat' split at hr
    all_goals (try (simp at hr; done))
    simp at hr; subst hr
    simp [evV] at he
  | slice t x lo hi mx =>
    cases mx with
    | some m => simp [hop, resolveOp] at hr
    | none =>
      simp only [hop, resolveOp] at hr
      split at hr
      · rename_i o1 o2 o3 h1 h2 h3 h4
        simp at hr; subst hr
        exact fin _ (slcS_ok h h1 h2 h3 h4 he)
      · rename_i e o1 o2 o3 h1 h2 h3 h4
        split at hr
        · rename_i n hn
          simp at hr; subst hr
          exact fin _ (slcV_ok h h1 hn h2 h3 h4 he)
        · simp at hr
      · simp at hr
  | fieldAddr s x f =>
    simp only [hop, resolveOp] at hr
    split at hr
    · rename_i fs o1 h1 h2
      split at hr
      · rename_i fd h3
        split at hr
        · rename_i n h4
          split at hr
          · simp at hr
          · rename_i h5
            simp at hr; subst hr
            exact fin _ (faddr_ok h h1 h3 h4 h5 h2 he)
        · simp at hr
      · simp at hr
    · simp at hr
  | field t x f =>
    simp only [hop, resolveOp] at hr
    split at hr
    · rename_i fs o1 h1 h2
      split at hr
      · rename_i fd h3
        split at hr
        · rename_i b n h4 h5
          simp only [Option.some.injEq] at hr; subst hr
          exact fin _ (field_ok h h1 h3 h4 h5 h2 he)
        · simp at hr
      · simp at hr
    · simp at hr
  | indexAddr t x i =>
    simp only [hop, resolveOp] at hr
    split at hr
    · rename_i e o1 o2 h1 h2 h3
      split at hr
      · rename_i n hn
        split at hr
        · simp at hr
        · rename_i h5
          simp at hr; subst hr
          exact fin _ (iaddr_ok h h1 hn h5 h2 h3 he)
      · simp at hr
    · rename_i len e o1 o2 h1 h2 h3
      split at hr
      · rename_i n hn
        simp at hr; subst hr
        exact fin _ (iaddrA_ok h h1 hn h2 h3 he)
      · simp at hr
    · simp at hr
  | index t x i =>
    simp only [hop, resolveOp] at hr
    split at hr
    · rename_i o1 o2 h1 h2 h3
      simp at hr; subst hr
      exact fin _ (idxS_ok h h1 h2 h3 he)
    · rename_i len e o1 o2 h1 h2 h3
      split at hr
      · rename_i b n hb hn
        simp at hr; subst hr
        exact fin _ (idxA_ok h h1 hb hn h2 h3 he)
      · simp at hr
    · simp at hr
  | lookup t x i ok => simp [hop, resolveOp] at hr
  | mapUpdate t m k x => simp [hop, resolveOp] at hr
  | mapEntry t m k => simp [hop, resolveOp] at hr
  | entryStore t m s x => simp [hop, resolveOp] at hr
  | range t x => simp [hop, resolveOp] at hr
  | next it s => simp [hop, resolveOp] at hr
  | entry it => simp [hop, resolveOp] at hr
  | typeAssert x t u ok => simp [hop, resolveOp] at hr
  | extract x i =>
    simp only [hop, resolveOp, Option.map_eq_some_iff] at hr
    obtain ⟨q, h1, rfl⟩ := hr
    exact fin _ (ext_ok h h1 he)
  | call c =>
    obtain ⟨callee, args, argTypes⟩ := c
    simp only [hop, resolveOp, resolveCall] at hr
    split at hr
    · repeat' split at hr
      all_goals (try (simp at hr; done))
      simp only [Option.map_eq_some_iff] at hr
      obtain ⟨q, h1, rfl⟩ := hr
      simp [evV] at he
    · split at hr
      · simp at hr; subst hr; simp [evV] at he
      · simp at hr
    · rename_i x t ea et
      obtain rfl : args = #[x] := by apply Array.ext'; simpa using ea
      obtain rfl : argTypes = #[t] := by apply Array.ext'; simpa using et
      split at hr
      · rename_i hu
        simp only [Option.map_eq_some_iff] at hr
        obtain ⟨q, h1, rfl⟩ := hr
        simp only [evV, Option.map_eq_some_iff, Option.bind_eq_some_iff] at he
        obtain ⟨n, ⟨u, g1, g2⟩, rfl⟩ := he
        refine ⟨.int .i64 n, ?_, rel_int _ _⟩
        have := lenV_ok (P := P) (w := w) (t := t) (by simpa using hu) (h.val h1 g1) g2 o.type
        simp [resolve, invoke, builtin, this]
      · rename_i e hu
        simp only [Option.map_eq_some_iff] at hr
        obtain ⟨q, h1, rfl⟩ := hr
        simp only [evV, Option.map_eq_some_iff, Option.bind_eq_some_iff] at he
        obtain ⟨n, ⟨u, g1, g2⟩, rfl⟩ := he
        refine ⟨.int .i64 n, ?_, rel_int _ _⟩
        have := lenV_ok (P := P) (w := w) (t := t) (by simpa using ⟨e, hu⟩) (h.val h1 g1) g2 o.type
        simp [resolve, invoke, builtin, this]
      · simp at hr
    · rename_i x y ea
      obtain rfl : args = #[x, y] := by apply Array.ext'; simpa using ea
      split at hr
      · rename_i o1 o2 h1 h2
        simp at hr; subst hr
        simp only [evV] at he
        split at he
        · rename_i k m k' n g1 g2
          simp at he; subst he
          refine ⟨.int k (max m n), ?_, rel_int _ _⟩
          have := mm_ok (P := P) (w := w) (mx := true) (k := k) (k' := k') (m := m) (n := n) argTypes o.type
          simp at this
          simp [resolve, invoke, builtin, inv_int (h.val h1 g1), inv_int (h.val h2 g2), this]
        · simp at he
      · simp at hr
    · rename_i x y ea
      obtain rfl : args = #[x, y] := by apply Array.ext'; simpa using ea
      split at hr
      · rename_i o1 o2 h1 h2
        simp at hr; subst hr
        simp only [evV] at he
        split at he
        · rename_i k m k' n g1 g2
          simp at he; subst he
          refine ⟨.int k (min m n), ?_, rel_int _ _⟩
          have := mm_ok (P := P) (w := w) (mx := false) (k := k) (k' := k') (m := m) (n := n) argTypes o.type
          simp at this
          simp [resolve, invoke, builtin, inv_int (h.val h1 g1), inv_int (h.val h2 g2), this]
        · simp at he
      · simp at hr
    · repeat' split at hr
      all_goals (try (simp at hr; done))
      simp at hr; subst hr; simp [evV] at he
    · simp at hr
  | go c => simp [hop, resolveOp] at hr
  | defer c => simp [hop, resolveOp] at hr
  | panic x => simp [hop, resolveOp] at hr
  | send c x => simp [hop, resolveOp] at hr
  | recv t c ok => simp [hop, resolveOp] at hr
  | select cs b => simp [hop, resolveOp] at hr

end
end Go.Abs
namespace Go.Abs
open Go
set_option linter.unusedSimpArgs false
set_option linter.unusedVariables false

/-! ### new blocks, stores, appends -/
def chunk (size len : Nat) (ps : List PV) : List (List PV) := (List.range len).map fun i => (ps.drop (i * size)).take size

/-- Operations that lay one new block, at slot (d, 0). -/
def evN (F : FF) (d : Nat) : AOp → Option (AV × Blk)
  | .alloc zero => some (.ptr (d, 0) zero.length 0 0, .box (zero.map .p))
  | .box x => ((F.val x).bind AV.cells).map fun cs => (.ptr (d, 0) cs.length 0 0, .box cs)
  | .bslice e size len zero parts => (F.parts parts).bind fun ps => ((fillA (zero.map .p) ps).bind allP).map fun ps => (.ref (d, 0) size 0 len, .sl e size (chunk size len ps))
  | .mksl e size bytes zero l c => match F.val l, F.val c with
    | some (.p (.int _ l)), some (.p (.int _ c)) => if 0 ≤ l ∧ l ≤ c ∧ (bytes : Int) * c ≤ 281474976710656 ∧ c ≤ 9223372036854775807 then some (.ref (d, 0) size 0 l.toNat, .sl e size (List.replicate l.toNat zero)) else none
    | _, _ => none
  | _ => none

def PV.one : PV → Bool
  | .agg _ | .tup _ => false
  | _ => true
def AV.one : AV → Bool
  | .p v => v.one
  | .ref .. | .ptr .. | .clo .. => true
  | _ => false

/-- Stores. -/
def evS (F : FF) : AOp → Option (Slot × Blk)
  | .store n x v => match F.val x, (F.val v).bind AV.cells with
    | some (.ptr s size row off), some cs => if cs.length = n ∧ cs.all AV.one = true then
        match F.blk s with
        | some (.sl e sz rows) => match rows[row]?, allP cs with
          | some r, some ps => if sz = size ∧ off + n ≤ size then some (s, .sl e sz (rows.set row (r.take off ++ ps ++ r.drop (off + n)))) else none
          | _, _ => none
        | some (.box cells) => if row = 0 ∧ off + n ≤ cells.length then some (s, .box (cells.take off ++ cs ++ cells.drop (off + n))) else none
        | none => none
      else none
    | _, _ => none
  | _ => none

/-- The rows of a slice. -/
def FF.rows (F : FF) (size : Nat) : AV → Option (List (List PV))
  | .p .nsl => some []
  | .p (.sl sz rows) => if sz = size then some rows else none
  | .ref s sz off len => match F.blk s with
    | some (.sl _ sz' rows) => if sz = size ∧ sz' = size ∧ off + len ≤ rows.length then some ((rows.drop off).take len) else none
    | _ => none
  | _ => none

/-- Appends: the slice appended to is used up. -/
def evA (F : FF) (d : Nat) : AOp → Option (AV × Slot × Blk × List Slot)
  | .app e size bytes s x => match F.val s, (F.val x).bind (F.rows size) with
    | some (.p .nsl), some new => if new.length ≤ maxLen ∧ new.length * bytes ≤ 140737488355328 ∧ (new.all fun r => r.all PV.one) = true then some (.ref (d, 0) size 0 new.length, (d, 0), .sl e size new, []) else none
    | some (.ref s0 sz 0 n), some new => match F.blk s0 with
      | some (.sl e0 sz' rows) => if e0 = e ∧ sz = size ∧ sz' = size ∧ n = rows.length ∧ rows.length + new.length ≤ maxLen ∧ (rows.length + new.length) * bytes ≤ 140737488355328 ∧ (new.all fun r => r.all PV.one) = true then
          some (.ref (s0.1, s0.2 + 1) size 0 (rows.length + new.length), (s0.1, s0.2 + 1), .sl e size (rows ++ new), [s0]) else none
      | _ => none
    | _, _ => none
  | _ => none

section
variable {P : Program} {N : Nat} {w0 : Base} {ι : Inj} {S : Snap} {F : FF} {a : Act} {w : World}

theorem AV.cells_noSlot {v : AV} {cs : List AV} {d : Slot} (h : v.noSlot d = true) (e : v.cells = some cs) : AV.noSlotL d cs = true := by
  unfold AV.cells at e
  split at e <;> try (simp at e; done)
  · simp at e; subst e
    rename_i l
    clear h
    induction l with
    | nil => rfl
    | cons q l ih => simp [AV.noSlotL, AV.noSlot, ih]
  · simp at e; subst e; simpa [AV.noSlot] using h
  · simp at e; subst e; simp [AV.noSlotL, h]
theorem AV.noSlotL_map_p {d : Slot} : ∀ l : List PV, AV.noSlotL d (l.map .p) = true
  | [] => rfl
  | q :: l => by simp [AV.noSlotL, AV.noSlot, AV.noSlotL_map_p l]

theorem FF.val_noSlot {d : Slot} (h : F.noSlot d) {o : Opd} {v : AV} (e : F.val o = some v) : v.noSlot d = true := by
  cases o with
  | v t => exact h.1 t v e
  | c p => simp [FF.val] at e; subst e; rfl

def setι (ι : Inj) (s : Slot) (x : Option (Nat × Nat)) : Inj := fun s' => if s' = s then x else ι s'
theorem setι_ne {ι : Inj} {s s' : Slot} {x : Option (Nat × Nat)} (h : s' ≠ s) : setι ι s x s' = ι s' := if_neg h
theorem setι_eq {ι : Inj} {s : Slot} {x : Option (Nat × Nat)} : setι ι s x s = x := if_pos rfl

/-- One block is laid. -/
theorem St.new (h : St N w0 ι S F a w) {d : Slot} (hd : F.noSlot d) {e : TypeId} {c : Array Value} {total : Nat} {k : Blk} (hwf : k.wf) (he : k.elem e) (hc : c.size = total * k.size) (hr : k.nrows ≤ total) (ht : total ≤ maxLen)
    (hn : k.noSlot d = true) (hk : ∀ i j av, k.cell i j = some av → ∃ v, c[i * k.size + j]? = some v ∧ AVRel ι S av v) :
    St N w0 (setι ι d (some (w.heap.size, total))) S { F with blk := fun s' => if s' = d then some k else F.blk s' } a (w.alloc (.cells c e)) := by
  have hi : ∀ s : Slot, s ≠ d → setι ι d (some (w.heap.size, total)) s = ι s := fun s hs => setι_ne hs
  have h1 := h.step d (Keep.alloc w (.cells c e)) (fun _ _ q => q) (fun x v q => (Keep.alloc w _).cell (h.snap x v q)) (fun x v q => .inl q) hi hd
  refine h1.lay d k ⟨hwf, .inr ⟨w.heap.size, total, e, c, setι_eq, heap_alloc_new w _, he, hc, hr, ht, fun i j av q => ?_⟩⟩ ?_
  · obtain ⟨v, q1, q2⟩ := hk i j av q
    exact ⟨v, q1, q2.inj hi (Blk.cell_noSlot hn q)⟩
  · intro b t q
    rw [setι_eq] at q
    simp at q
    obtain ⟨rfl, rfl⟩ := q
    refine ⟨h.keep.size, fun x hx => ?_, fun s' k' q1 q2 b' t' q3 => ?_⟩
    · cases hq : S x with
      | none => rfl
      | some v =>
        have := World.block_lt_of_cell? w x (h.snap x v hq)
        omega
    · rw [hi s' q2] at q3
      rcases (h.mem s' k' q1).2 with ⟨q4, _⟩ | ⟨b2, t2, e2, c2, q4, q5, _⟩
      · rw [q3] at q4; simp at q4
      · rw [q3] at q4; simp at q4
        have := q5.lt
        omega

theorem Ps.toCells {ps : List PV} {vs : List Value} (h : Ps S ps vs) : Rs ι S (ps.map AV.p) vs := h.toRs

theorem box_cells {cs : List AV} {us : List Value} (h : Rs ι S cs us) : ∀ i j av, (Blk.box cs).cell i j = some av → ∃ v, us.toArray[i * (Blk.box cs).size + j]? = some v ∧ AVRel ι S av v := by
  intro i j av e
  simp only [Blk.cell] at e
  split at e
  · rename_i hi; subst hi
    obtain ⟨v, hv⟩ : ∃ v, us[j]? = some v := ⟨us[j]'(by have := (List.getElem?_eq_some_iff.1 e).1; have := h.1; omega), by simp⟩
    exact ⟨v, by simpa using hv, h.2 j av v e hv⟩
  · simp at e

theorem chunk_len {size len : Nat} {ps : List PV} : (chunk size len ps).length = len := by simp [chunk]
theorem chunk_row {size len i : Nat} {ps : List PV} {r : List PV} (e : (chunk size len ps)[i]? = some r) : i < len ∧ r = (ps.drop (i * size)).take size := by
  simp only [chunk, List.getElem?_map, Option.map_eq_some_iff] at e
  obtain ⟨x, h1, h2⟩ := e
  have hlt : i < len := by have := (List.getElem?_eq_some_iff.1 h1).1; simpa using this
  simp [hlt] at h1
  subst h1
  exact ⟨hlt, h2.symm⟩

theorem sl_cells {e : TypeId} {size len : Nat} {ps : List PV} {us : List Value} (h : Ps S ps us) (hl : ps.length = len * size) : ∀ i j av, (Blk.sl e size (chunk size len ps)).cell i j = some av → ∃ v, us.toArray[i * size + j]? = some v ∧ AVRel ι S av v := by
  intro i j av q
  simp only [Blk.cell, Option.map_eq_some_iff, Option.bind_eq_some_iff] at q
  obtain ⟨p, ⟨r, h1, h2⟩, rfl⟩ := q
  obtain ⟨h3, rfl⟩ := chunk_row h1
  simp only [List.getElem?_take, List.getElem?_drop] at h2
  split at h2
  · obtain ⟨v, hv⟩ : ∃ v, us[i * size + j]? = some v := ⟨us[i * size + j]'(by have := (List.getElem?_eq_some_iff.1 h2).1; have := h.1; omega), by simp⟩
    exact ⟨v, by simpa using hv, .p _ _ (h.2 _ p v h2 hv)⟩
  · simp at h2

theorem fillA_len : ∀ {ps : List (Nat × List AV)} {cells cells' : List AV}, fillA cells ps = some cells' → cells'.length = cells.length
  | [], cells, cells', h => by simp [fillA] at h; rw [h]
  | (off, cs) :: l, cells, cells', h => by
    simp only [fillA] at h
    split at h
    · rename_i hl
      rw [fillA_len h]; simp; omega
    · simp at h

/-- What the operations that lay a block come to. -/
theorem evN_ok (h : St N w0 ι S F a w) {o : Oper} {ao : AOp} {d : Nat} {v : AV} {k : Blk} (hr : resolveOp P o.op = some ao) (he : evN F d ao = some (v, k)) (hd : F.noSlot (d, 0)) (hdst : ∀ d, o.dst = some d → d < N) :
    ∃ x w' ι', (execOp a.eval o).run P w = .ok (.value x) w' ∧ St N w0 ι' S (F.app o.dst ⟨v, [((d, 0), k)], []⟩) (a.put o.dst x) w' := by
  have fin : ∀ {x : Value} {w' : World} {ι' : Inj}, (execOp a.eval o).run P w = .ok (.value x) w' → St N w0 ι' S { F with blk := fun s' => if s' = (d, 0) then some k else F.blk s' } a w' → AVRel ι' S v x →
      ∃ x w' ι', (execOp a.eval o).run P w = .ok (.value x) w' ∧ St N w0 ι' S (F.app o.dst ⟨v, [((d, 0), k)], []⟩) (a.put o.dst x) w' := by
    intro x w' ι' h1 h2 h3
    refine ⟨x, w', ι', h1, ?_⟩
    have := h2.put (dst := o.dst) h3 hdst
    have e : F.app o.dst ⟨v, [((d, 0), k)], []⟩ = { F with var := fun t => if o.dst = some t then some v else F.var t, blk := fun s' => if s' = (d, 0) then some k else F.blk s' } := by
      unfold FF.app
      congr 1
      funext s
      simp only [Del.blk, look]
      by_cases hs : s = (d, 0) <;> simp [hs]
    rw [e]
    exact this
  have hmax : (1 : Nat) ≤ maxLen := by unfold maxLen; omega
  cases hop : o.op with
  | alloc t =>
    simp only [hop, resolveOp, Option.map_eq_some_iff] at hr
    obtain ⟨z, h1, rfl⟩ := hr
    simp only [evN, Option.some.injEq, Prod.mk.injEq] at he
    obtain ⟨rfl, rfl⟩ := he
    obtain ⟨zv, z1, z2, _⟩ := zeroO_run (P := P) (S := S) (w := w) h1
    have hrel := z2.toRs (ι := ι)
    have hst := h.new (d := (d, 0)) hd (e := t) (c := zv.cells) (total := 1) (k := .box (z.map .p)) trivial trivial (by have := hrel.1; simp at this; simp [Blk.size, this]) (Nat.le_refl _) hmax (AV.noSlotL_map_p z) (by have := box_cells hrel; simpa using this)
    refine fin (x := .pointer (some ⟨w.heap.size, 0, none⟩)) ?_ hst ?_
    · simp [execOp, hop, Instr.alloc, z1, newVar, newRow]
    · have := AVRel.ptr (ι := setι ι (d, 0) (some (w.heap.size, 1))) (S := S) (d, 0) z.length 0 0 w.heap.size 1 setι_eq
      simpa using this
  | box t x =>
    simp only [hop, resolveOp, Option.map_eq_some_iff] at hr
    obtain ⟨q, h1, rfl⟩ := hr
    simp only [evN, Option.map_eq_some_iff, Option.bind_eq_some_iff, Prod.mk.injEq] at he
    obtain ⟨cs, ⟨u, g1, g2⟩, rfl, rfl⟩ := he
    have hrel := AV.cells_rel (h.val h1 g1) g2
    have hst := h.new (d := (d, 0)) hd (e := t) (c := (a.eval x).cells) (total := 1) (k := .box cs) trivial trivial (by have := hrel.1; simp at this; simp [Blk.size, this]) (Nat.le_refl _) hmax (AV.cells_noSlot (FF.val_noSlot hd g1) g2) (by have := box_cells hrel; simpa using this)
    refine fin (x := .pointer (some ⟨w.heap.size, 0, none⟩)) ?_ hst ?_
    · simp [execOp, hop, Instr.box, newVar, newRow]
    · have := AVRel.ptr (ι := setι ι (d, 0) (some (w.heap.size, 1))) (S := S) (d, 0) cs.length 0 0 w.heap.size 1 setι_eq
      simpa using this
  | buildSlice t len parts =>
    simp only [hop, resolveOp] at hr
    split at hr
    · rename_i e hu
      split at hr
      · rename_i n z h1 h2
        split at hr
        · rename_i hc
          simp only [Option.map_eq_some_iff] at hr
          obtain ⟨q, h3, rfl⟩ := hr
          simp only [evN, Option.bind_eq_some_iff, Option.map_eq_some_iff, Prod.mk.injEq] at he
          obtain ⟨ps, g1, qs, ⟨cs, g2, g3⟩, rfl, rfl⟩ := he
          obtain ⟨zv, z1, z2, _⟩ := zeroO_run (P := P) (S := S) (w := w) h2
          have hzs : zv.cells.size = n := by have := z2.1; simp at this; omega
          have hz : Rs ι S (((List.range (len * n)).map fun j => z.getD (j % n) .nif).map .p) ((List.range (len * n)).map fun j => zv.cells[j % zv.cells.size]!) := by
            refine ⟨by simp, fun j p u e1 e2 => ?_⟩
            simp only [List.getElem?_map, Option.map_eq_some_iff] at e1 e2
            obtain ⟨p', ⟨x, e3, rfl⟩, rfl⟩ := e1
            obtain ⟨x', e4, rfl⟩ := e2
            rw [e3] at e4; simp at e4; subst e4
            have hlt : x % n < n := Nat.mod_lt _ hc.2.2
            refine .p _ _ (z2.2 (x % n) _ _ ?_ ?_)
            · simp [List.getD, List.getElem?_eq_getElem (show x % n < z.length by omega)]
            · rw [hzs]
              simp [Array.getElem!_eq_getD, Array.getD, hzs, hlt]
          obtain ⟨us, g4, g5⟩ := parts_ok h h3 g1 g2 hz
          have hps := g5.toPs g3
          have hlen : qs.length = len * n := by
            have := allP_eq g3
            have l2 := fillA_len g2
            rw [this] at l2
            simpa using l2
          have hus : us.toArray.size = len * n := by have := hps.1; simp; omega
          have hst := h.new (d := (d, 0)) hd (e := e) (c := us.toArray) (total := len) (k := .sl e n (chunk n len qs))
            (fun i row q => by
              obtain ⟨q1, rfl⟩ := chunk_row q
              have : (i + 1) * n ≤ len * n := Nat.mul_le_mul_right _ q1
              rw [Nat.add_mul] at this
              simp; omega) rfl hus (by simp [Blk.nrows, chunk_len]) (by
                have := hc.1
                have h3 : len ≤ len * n := Nat.le_mul_of_pos_right _ hc.2.2
                unfold maxLen; omega) rfl (sl_cells hps hlen)
          refine fin (x := .slice (some ⟨w.heap.size, 0, none⟩) len len) ?_ hst ?_
          · have hnot : ¬ (len * n > 2 ^ 24) := by have := hc.1; omega
            simp only [execOp, hop, Instr.buildSlice, Sem.run_bind, run_underlying hu, Result.andThen_ok, sizeO_run h1, if_neg hnot, Sem.run_pure]
            have harr0 : len * n = 0 → ((Array.range (len * n)).map fun x => (#[] : Array Value)[x % (#[] : Array Value).size]!) = ((List.range (len * n)).map fun j => zv.cells[j % zv.cells.size]!).toArray := by
              intro h0
              apply Array.ext'
              simp [h0]
            have harr1 : ((Array.range (len * n)).map fun x => zv.cells[x % zv.cells.size]!) = ((List.range (len * n)).map fun j => zv.cells[j % zv.cells.size]!).toArray := by
              apply Array.ext'
              simp
            rw [Sem.run_ite]
            split
            · rename_i h0
              simp only [Sem.run_bind, Sem.run_pure, Result.andThen_ok]
              rw [harr0 h0]
              simp only [Array.toList_map]
              rw [g4]
              simp [newRow]
            · simp only [Sem.run_bind, Sem.run_pure, z1, Result.andThen_ok]
              rw [harr1]
              simp only [Array.toList_map]
              rw [g4]
              simp [newRow]
          · exact .ref (d, 0) n 0 len w.heap.size len len _ setι_eq (by omega) (Nat.le_refl _) (.inr (by simp))
        · simp at hr
      · simp at hr
    · simp at hr
  | makeSlice t l c =>
    simp only [hop, resolveOp] at hr
    split at hr
    · rename_i e hu
      split at hr
      · rename_i i z o1 o2 h1 h2 h3 h4
        split at hr
        · rename_i hc
          simp at hr; subst hr
          simp only [evN] at he
          split at he
          · rename_i k1 l' k2 c' g1 g2
            split at he
            · rename_i hb
              simp only [Option.some.injEq, Prod.mk.injEq] at he
              obtain ⟨rfl, rfl⟩ := he
              obtain ⟨zv, z1, z2, z3⟩ := zeroO_run (P := P) (S := S) (w := w) h2
              simp only [h1, Option.bind_some] at z3
              have hzs : zv.cells.size = i.size := by have := z2.1; simp at this; omega
              have hrun := run_make (P := P) w t e i zv hu h1 z3 k1 k2 l' c' hb.1 hb.2.1 hb.2.2.1 hb.2.2.2
              have hsz : (madeCells zv.cells (c'.toNat * i.size)).size = c'.toNat * i.size := size_madeCells _ _
              have hst := h.new (d := (d, 0)) hd (e := e) (c := madeCells zv.cells (c'.toNat * i.size)) (total := c'.toNat) (k := .sl e i.size (List.replicate l'.toNat z))
                (fun j row q => by
                  have := List.getElem?_eq_some_iff.1 q
                  obtain ⟨q1, q2⟩ := this
                  simp at q2; subst q2; omega) rfl hsz (by simp [Blk.nrows]; omega) (by unfold maxLen; omega) rfl (fun p q av e1 => by
                  simp only [Blk.cell, Option.map_eq_some_iff, Option.bind_eq_some_iff] at e1
                  obtain ⟨pv, ⟨r, e2, e3⟩, rfl⟩ := e1
                  obtain ⟨e4, e5⟩ := List.getElem?_eq_some_iff.1 e2
                  simp at e4 e5; subst e5
                  have hq : q < i.size := by have := (List.getElem?_eq_some_iff.1 e3).1; omega
                  have hlt : p * i.size + q < c'.toNat * i.size := by
                    have : (p + 1) * i.size ≤ c'.toNat * i.size := Nat.mul_le_mul_right _ (by omega)
                    rw [Nat.add_mul] at this; omega
                  refine ⟨zv.cells[q]'(by omega), ?_, .p _ _ (z2.2 q pv _ e3 (by simp [hzs, hq]))⟩
                  simp only [Blk.size, madeCells, Array.getElem?_map]
                  rw [Array.getElem?_range, if_pos hlt]
                  simp only [Option.map_some, hzs]
                  have hm : (p * i.size + q) % i.size = q := by rw [Nat.mul_comm, Nat.mul_add_mod]; exact Nat.mod_eq_of_lt hq
                  simp [hm, Array.getElem!_eq_getD, Array.getD, hzs, hq])
              refine fin (x := .slice (some ⟨w.heap.size, 0, none⟩) l'.toNat c'.toNat) ?_ hst ?_
              · simp [execOp, hop, inv_int (h.val h3 g1), inv_int (h.val h4 g2), hrun]
              · exact .ref (d, 0) i.size 0 l'.toNat w.heap.size c'.toNat c'.toNat _ setι_eq (by omega) (by omega) (.inr (by simp))
            · simp at he
          · simp at he
        · simp at hr
      · simp at hr
    · simp at hr
  | slice t x lo hi mx =>
    exfalso
    cases mx with
    | some m => simp [hop, resolveOp] at hr
    | none =>
      simp only [hop, resolveOp] at hr
      repeat' split at hr
      all_goals first
      | (simp at hr; done)
      | (simp only [Option.some.injEq] at hr; subst hr; simp [evN] at he; done)
  | call c =>
    exfalso
    simp only [hop, resolveOp, resolveCall] at hr
    repeat' split at hr
    all_goals first
    | (simp at hr; done)
    | (simp only [Option.some.injEq] at hr; subst hr; simp [evN] at he; done)
    | (simp only [Option.map_eq_some_iff] at hr; obtain ⟨q, h1, rfl⟩ := hr; simp [evN] at he; done)
  | _ =>
    exfalso
    simp only [hop, resolveOp] at hr
    first
    | (simp at hr; done)
    | (repeat' split at hr
       all_goals first
       | (simp at hr; done)
       | (simp only [Option.some.injEq] at hr; subst hr; simp [evN] at he; done)
       | (simp only [Option.map_eq_some_iff] at hr; obtain ⟨q, h1, rfl⟩ := hr; simp [evN] at he; done))
end
end Go.Abs
namespace Go.Abs
open Go
set_option linter.unusedSimpArgs false
set_option linter.unusedVariables false

section
variable {P : Program} {N : Nat} {w0 : Base} {ι : Inj} {S : Snap} {F : FF} {a : Act} {w : World}

theorem AVRel.one {v : AV} {x : Value} (h : AVRel ι S v x) (e : v.one = true) : x.oneCell' = true := by
  cases h with
  | p p x hp => cases hp <;> first | rfl | (simp [AV.one, PV.one] at e)
  | _ => first | rfl | (simp [AV.one] at e)
theorem PRel.one {v : PV} {x : Value} (h : PRel S v x) (e : v.one = true) : x.oneCell' = true := by
  cases h <;> first | rfl | (simp [PV.one] at e)

theorem splice_get {α : Type} {l vs : List α} {o j : Nat} (hl : o + vs.length ≤ l.length) :
    (l.take o ++ vs ++ l.drop (o + vs.length))[j]? = if o ≤ j ∧ j < o + vs.length then vs[j - o]? else l[j]? := by
  simp only [List.getElem?_append, List.length_append, List.length_take, List.getElem?_take, List.getElem?_drop]
  have m : min o l.length = o := by omega
  rw [m]
  by_cases c1 : j < o
  · have : ¬ (o ≤ j ∧ j < o + vs.length) := by omega
    have c2 : j < o + vs.length := by omega
    rw [if_neg this]
    simp [c1, c2]
  · by_cases c2 : j < o + vs.length
    · have : o ≤ j ∧ j < o + vs.length := by omega
      simp [c1, c2, this]
    · have : ¬ (o ≤ j ∧ j < o + vs.length) := by omega
      rw [if_neg c2, if_neg this]
      congr 1
      omega

theorem FF.app_store {dst : Option Nat} {s : Slot} {k : Blk} {v : AV} : F.app dst ⟨v, [(s, k)], []⟩ = { F with var := fun t => if dst = some t then some v else F.var t, blk := fun s' => if s' = s then some k else F.blk s' } := by
  unfold FF.app
  congr 1
  funext s'
  simp only [Del.blk, look]
  by_cases hs : s' = s <;> simp [hs]

/-- What a store comes to. -/
theorem evS_ok (h : St N w0 ι S F a w) {o : Oper} {ao : AOp} {s : Slot} {k : Blk} (hr : resolveOp P o.op = some ao) (he : evS F ao = some (s, k)) (hdst : ∀ d, o.dst = some d → d < N) :
    ∃ w', (execOp a.eval o).run P w = .ok .skip w' ∧ St N w0 ι S (F.app o.dst ⟨.top, [(s, k)], []⟩) (a.put o.dst undef) w' := by
  have hop : ∃ t x y n o1 o2, o.op = .store t x y ∧ sizeO P t = some n ∧ rO x = some o1 ∧ rO y = some o2 ∧ ao = .store n o1 o2 := by
    cases hop : o.op with
    | store t x y =>
      simp only [hop, resolveOp] at hr
      split at hr
      · rename_i n o1 o2 h1 h2 h3; simp at hr; exact ⟨t, x, y, n, o1, o2, rfl, h1, h2, h3, hr.symm⟩
      · simp at hr
    | slice t x lo hi mx =>
      exfalso
      cases mx with
      | some m => simp [hop, resolveOp] at hr
      | none =>
        simp only [hop, resolveOp] at hr
        repeat' split at hr
        all_goals first
        | (simp at hr; done)
        | (simp only [Option.some.injEq] at hr; subst hr; simp [evS] at he; done)
    | call c =>
      exfalso
      simp only [hop, resolveOp, resolveCall] at hr
      repeat' split at hr
      all_goals first
      | (simp at hr; done)
      | (simp only [Option.some.injEq] at hr; subst hr; simp [evS] at he; done)
      | (simp only [Option.map_eq_some_iff] at hr; obtain ⟨q, h1, rfl⟩ := hr; simp [evS] at he; done)
    | _ =>
      exfalso
      simp only [hop, resolveOp] at hr
      first
      | (simp at hr; done)
      | (simp only [Option.map_eq_some_iff] at hr; obtain ⟨q, h1, rfl⟩ := hr; simp [evS] at he; done)
      | (repeat' split at hr
         all_goals first
         | (simp at hr; done)
         | (simp only [Option.some.injEq] at hr; subst hr; simp [evS] at he; done)
         | (simp only [Option.map_eq_some_iff] at hr; obtain ⟨q, h1, rfl⟩ := hr; simp [evS] at he; done))
  obtain ⟨t, x, y, n, o1, o2, hop, h1, h2, h3, rfl⟩ := hop
  simp only [evS] at he
  split at he
  · rename_i s' size row off cs g1 g2
    split at he
    · rename_i hcs
      obtain ⟨hcl, hone⟩ := hcs
      simp only [Option.bind_eq_some_iff] at g2
      obtain ⟨u, g2, g3⟩ := g2
      have hcells := AV.cells_rel (h.val h3 g2) g3
      have hvn : (a.eval y).cells.size = n := by have := hcells.1; simp at this; omega
      have hptr := h.val h2 g1
      generalize hx : a.eval x = xv at hptr
      cases hptr with
      | ptr _ _ _ _ b total hi =>
        have hones : ∀ v ∈ (a.eval y).cells.toList, v.oneCell' = true := by
          intro v hv
          obtain ⟨j, hj, hjv⟩ := List.mem_iff_getElem.1 hv
          have hj' : j < cs.length := by rw [← hcells.1]; exact hj
          have e1 : cs[j]? = some cs[j] := by simp
          have e2 : (a.eval y).cells.toList[j]? = some v := by rw [List.getElem?_eq_getElem hj, hjv]
          exact (hcells.2 j _ v e1 e2).one (List.all_eq_true.1 hone _ (List.getElem_mem hj'))
        -- the run, once the block is seen
        have fin : ∀ {k0 : Blk} {e : TypeId} {c : Array Value}, F.blk s' = some k0 → Lies w b e c → row * size + off + n ≤ c.size → s' = s → k.wf → k.elem e → c.size = total * k.size → k.nrows ≤ total → total ≤ maxLen →
            (∀ i j av, k.cell i j = some av → ∃ v, (c.toList.take (row * size + off) ++ (a.eval y).cells.toList ++ c.toList.drop (row * size + off + (a.eval y).cells.toList.length))[i * k.size + j]? = some v ∧ AVRel ι S av v) →
            ∃ w', (execOp a.eval o).run P w = .ok .skip w' ∧ St N w0 ι S (F.app o.dst ⟨.top, [(s, k)], []⟩) (a.put o.dst undef) w' := by
          intro k0 e c hk0 hl hfit hs hwf hel hsz hnr hmx hrel
          subst hs
          have hst := run_storeCells_at P b (row * size + off) e (a.eval y).cells.toList 0 c w hl (by simp; omega) hones
          simp only [Nat.add_zero] at hst
          refine ⟨w.setRow b (c.toList.take (row * size + off) ++ (a.eval y).cells.toList ++ c.toList.drop (row * size + off + (a.eval y).cells.toList.length)).toArray, ?_, ?_⟩
          · simp only [execOp, hop, hx, Instr.storeAt, Instr.sureAddr, storeVar, Sem.run_bind, Sem.run_pure, Result.andThen_ok, sizeO_run h1]
            rw [if_neg (by simp [hvn])]
            rw [hst]
            rfl
          · have ht := h.touch (w' := w.setRow b (c.toList.take (row * size + off) ++ (a.eval y).cells.toList ++ c.toList.drop (row * size + off + (a.eval y).cells.toList.length)).toArray) hk0 hi rfl rfl rfl (by simp) (fun k _ hk => setRow_other w b k _ hk)
            have hlies : Lies (w.setRow b (c.toList.take (row * size + off) ++ (a.eval y).cells.toList ++ c.toList.drop (row * size + off + (a.eval y).cells.toList.length)).toArray) b e (c.toList.take (row * size + off) ++ (a.eval y).cells.toList ++ c.toList.drop (row * size + off + (a.eval y).cells.toList.length)).toArray := setRow_heap w b c _ e _ hl
            have hlay := ht.lay s' k ⟨hwf, .inr ⟨b, total, e, _, hi, hlies, hel, by simp only [List.size_toArray, List.length_append, List.length_take, List.length_drop, Array.length_toList]; omega, hnr, hmx, fun i j av q => by simpa using hrel i j av q⟩⟩ (fun b' t' q => by
              rw [hi] at q; simp at q; obtain ⟨rfl, rfl⟩ := q
              refine ⟨(h.own s' k0 hk0 b total hi).1, (h.own s' k0 hk0 b total hi).2, fun s2 k2 q1 q2 b2 t2 q3 => ?_⟩
              dsimp only at q1
              rw [if_neg q2] at q1
              exact h.sep s2 s' k2 k0 q1 hk0 q2 b2 t2 b total q3 hi)
            have hput := hlay.put (dst := o.dst) (v := .top) (x := undef) (.top _) hdst
            rw [FF.app_store]
            have : (fun s2 => if s2 = s' then some k else if s2 = s' then none else F.blk s2) = fun s2 => if s2 = s' then some k else F.blk s2 := by
              funext s2; by_cases q : s2 = s' <;> simp [q]
            simp only [this] at hput
            exact hput
        split at he
        · rename_i e sz rows hb
          split at he
          · rename_i r ps hrow hps
            split at he
            · rename_i hc
              obtain ⟨rfl, hoff⟩ := hc
              simp only [Option.some.injEq, Prod.mk.injEq] at he
              obtain ⟨rfl, rfl⟩ := he
              obtain ⟨hwf, hm⟩ := h.mem s' _ hb
              have hrl := hwf row r hrow
              have hrlt := (List.getElem?_eq_some_iff.1 hrow).1
              have hcs := allP_eq hps
              have hpl : ps.length = n := by rw [hcs] at hcl; simpa using hcl
              rcases hm with ⟨q, _⟩ | ⟨b', total', e', c, q1, q2, q3, q4, q5, q6, q7⟩
              · rw [hi] at q; simp at q
              · rw [hi] at q1; simp at q1; obtain ⟨rfl, rfl⟩ := q1
                simp only [Blk.size, Blk.nrows, Blk.elem] at q3 q4 q5
                have hfit : row * sz + sz ≤ c.size := by
                  rw [q4]
                  have : (row + 1) * sz ≤ total * sz := Nat.mul_le_mul_right _ (by omega)
                  rw [Nat.add_mul] at this; omega
                refine fin hb q2 (by omega) rfl ?_ q3 q4 (by simpa [Blk.nrows] using q5) q6 ?_
                · intro i row' e1
                  rw [List.getElem?_set] at e1
                  by_cases hri : row = i
                  · rw [if_pos hri] at e1
                    first
                    | (rw [if_pos hrlt] at e1; simp at e1; subst e1; simp; omega)
                    | (simp at e1; subst e1; simp; omega)
                  · rw [if_neg hri] at e1; exact hwf i row' e1
                · intro i j av e1
                  have hspl := splice_get (l := c.toList) (vs := (a.eval y).cells.toList) (o := row * sz + off) (j := i * sz + j) (by simp; omega)
                  simp only [Blk.size]
                  rw [hspl]
                  simp only [Blk.cell, Option.map_eq_some_iff, Option.bind_eq_some_iff] at e1
                  obtain ⟨p, ⟨r', e2, e3⟩, rfl⟩ := e1
                  rw [List.getElem?_set] at e2
                  have hlen : (a.eval y).cells.toList.length = n := by simpa using hvn
                  rw [hlen]
                  by_cases hi' : row = i
                  · subst hi'
                    rw [if_pos rfl, if_pos hrlt] at e2
                    simp at e2; subst e2
                    have hsp := splice_get (l := r) (vs := ps) (o := off) (j := j) (by omega)
                    rw [hpl] at hsp
                    simp only [List.append_assoc] at hsp e3
                    rw [hsp] at e3
                    by_cases hj : off ≤ j ∧ j < off + n
                    · rw [if_pos hj] at e3
                      rw [if_pos (by omega)]
                      have : row * sz + j - (row * sz + off) = j - off := by omega
                      rw [this]
                      obtain ⟨v, hv⟩ : ∃ v, (a.eval y).cells.toList[j - off]? = some v := ⟨(a.eval y).cells.toList[j - off]'(by omega), by simp⟩
                      exact ⟨v, hv, hcells.2 _ _ v (by rw [hcs]; simp [e3]) hv⟩
                    · rw [if_neg hj] at e3
                      rw [if_neg (by omega)]
                      obtain ⟨v, v1, v2⟩ := q7 row j (.p p) (by simp [Blk.cell, hrow, e3])
                      exact ⟨v, by simpa [Blk.size] using v1, v2⟩
                  · rw [if_neg hi'] at e2
                    have hjs : j < sz := by have := (List.getElem?_eq_some_iff.1 e3).1; have := hwf i r' e2; omega
                    rw [if_neg (by
                      rcases Nat.lt_or_ge i row with hlt | hge
                      · have : (i + 1) * sz ≤ row * sz := Nat.mul_le_mul_right _ hlt
                        rw [Nat.add_mul] at this; omega
                      · have : (row + 1) * sz ≤ i * sz := Nat.mul_le_mul_right _ (by omega)
                        rw [Nat.add_mul] at this; omega)]
                    obtain ⟨v, v1, v2⟩ := q7 i j (.p p) (by simp [Blk.cell, e2, e3])
                    exact ⟨v, by simpa [Blk.size] using v1, v2⟩
            · simp at he
          · simp at he
        · rename_i cells hb
          split at he
          · rename_i hc
            obtain ⟨rfl, hoff⟩ := hc
            simp only [Option.some.injEq, Prod.mk.injEq] at he
            obtain ⟨rfl, rfl⟩ := he
            obtain ⟨hwf, hm⟩ := h.mem s' _ hb
            rcases hm with ⟨_, q⟩ | ⟨b', total', e', c, q1, q2, q3, q4, q5, q6, q7⟩
            · simp [Blk.nrows] at q
            · rw [hi] at q1; simp at q1; obtain ⟨rfl, rfl⟩ := q1
              simp only [Blk.size, Blk.nrows] at q4 q5
              have hcsz : cells.length ≤ c.size := by
                rw [q4]; exact Nat.le_mul_of_pos_left _ (by omega)
              have hlen : (a.eval y).cells.toList.length = n := by simpa using hvn
              refine fin hb q2 (by omega) rfl trivial trivial ?_ q5 q6 ?_
              · simp only [Blk.size, List.length_append, List.length_take, List.length_drop]
                rw [q4]; congr 1; omega
              · intro i j av e1
                simp only [Blk.cell] at e1
                split at e1
                · rename_i hi0; subst hi0
                  have hsp := splice_get (l := cells) (vs := cs) (o := off) (j := j) (by omega)
                  rw [hcl] at hsp
                  rw [hsp] at e1
                  have hspl := splice_get (l := c.toList) (vs := (a.eval y).cells.toList) (o := 0 * size + off) (j := 0 * (Blk.box (cells.take off ++ cs ++ cells.drop (off + n))).size + j) (by simp; omega)
                  rw [hspl, hlen]
                  simp only [Nat.zero_mul, Nat.zero_add]
                  by_cases hj : off ≤ j ∧ j < off + n
                  · rw [if_pos hj] at e1 ⊢
                    obtain ⟨v, hv⟩ : ∃ v, (a.eval y).cells.toList[j - off]? = some v := ⟨(a.eval y).cells.toList[j - off]'(by omega), by simp⟩
                    exact ⟨v, hv, hcells.2 _ _ v e1 hv⟩
                  · rw [if_neg hj] at e1 ⊢
                    obtain ⟨v, v1, v2⟩ := q7 0 j av (by simp [Blk.cell, e1])
                    exact ⟨v, by simpa using v1, v2⟩
                · simp at e1
          · simp at he
        · simp at he
    · simp at he
  · simp at he

end
end Go.Abs
namespace Go.Abs
open Go
set_option linter.unusedSimpArgs false
set_option linter.unusedVariables false

section
variable {P : Program} {N : Nat} {w0 : Base} {ι : Inj} {S : Snap} {F : FF} {a : Act} {w : World}

theorem addr_add_add (q : Addr) (i j : Nat) (h : q.spot = none) : (q.add i).add j = q.add (i + j) := by
  cases q with
  | mk b o s => simp at h; subst h; simp [addr_add, Nat.add_assoc]

/-- The rows of a slice, as they lie. -/
theorem St.rows_ok (h : St N w0 ι S F a w) {x : AV} {v : Value} {size : Nat} {rows : List (List PV)} (hx : AVRel ι S x v) (e : F.rows size x = some rows) (hs : 0 < size) :
    (∀ (i : Nat) (row : List PV), rows[i]? = some row → row.length = size) ∧ ∃ p cap, v = .slice p rows.length cap ∧
    (rows ≠ [] → ∃ (q : Addr) (news : List Value), p = some q ∧ news.length = rows.length * size ∧ (∀ j u, news[j]? = some u → w.cell? (q.add j) = some u) ∧
      ∀ (i : Nat) (row : List PV) (j : Nat) (pv : PV), rows[i]? = some row → row[j]? = some pv → ∃ u, news[i * size + j]? = some u ∧ PRel S pv u) := by
  -- enough: each cell is there
  have main : ∀ (q : Addr), (∀ (i : Nat) (row : List PV), rows[i]? = some row → row.length = size) → (∀ (i : Nat) (row : List PV) (j : Nat) (pv : PV), rows[i]? = some row → row[j]? = some pv → ∃ u, w.cell? (q.add (i * size + j)) = some u ∧ PRel S pv u) →
      ∃ (q' : Addr) (news : List Value), some q = some q' ∧ news.length = rows.length * size ∧ (∀ j u, news[j]? = some u → w.cell? (q'.add j) = some u) ∧
      ∀ (i : Nat) (row : List PV) (j : Nat) (pv : PV), rows[i]? = some row → row[j]? = some pv → ∃ u, news[i * size + j]? = some u ∧ PRel S pv u := by
    intro q hlen hc
    have hall : ∀ j, j < rows.length * size → ∃ u, w.cell? (q.add j) = some u := by
      intro j hj
      have hi : j / size < rows.length := Nat.div_lt_of_lt_mul (by rw [Nat.mul_comm]; exact hj)
      have hrow : rows[j / size]? = some rows[j / size] := by simp [hi]
      have hl := hlen _ _ hrow
      have hm : j % size < size := Nat.mod_lt _ hs
      obtain ⟨u, hu, _⟩ := hc _ _ (j % size) ((rows[j / size])[j % size]'(by omega)) hrow (by simp)
      refine ⟨u, ?_⟩
      rw [← hu]
      congr 2
      have := Nat.div_add_mod j size
      rw [Nat.mul_comm] at this
      exact this.symm
    refine ⟨q, (List.range (rows.length * size)).map fun j => (w.cell? (q.add j)).getD undef, rfl, by simp, fun j u hu => ?_, fun i row j pv e1 e2 => ?_⟩
    · simp only [List.getElem?_map, Option.map_eq_some_iff] at hu
      obtain ⟨j', h1, rfl⟩ := hu
      have hj : j < rows.length * size := by have := (List.getElem?_eq_some_iff.1 h1).1; simpa using this
      simp [hj] at h1; subst h1
      obtain ⟨u, hu⟩ := hall j hj
      simp [hu]
    · obtain ⟨u, h1, h2⟩ := hc i row j pv e1 e2
      refine ⟨u, ?_, h2⟩
      have hi := (List.getElem?_eq_some_iff.1 e1).1
      have hj := (List.getElem?_eq_some_iff.1 e2).1
      have hl := hlen i row e1
      have hlt : i * size + j < rows.length * size := by
        have : (i + 1) * size ≤ rows.length * size := Nat.mul_le_mul_right _ hi
        rw [Nat.add_mul] at this; omega
      simp [hlt, h1]
  unfold FF.rows at e
  split at e
  · simp at e; subst e
    cases hx.inv_p
    exact ⟨by simp, none, 0, rfl, by simp⟩
  · rename_i sz rows'
    split at e
    · rename_i hsz; subst hsz
      simp at e; subst e
      cases hx.inv_p with
      | sl _ _ p cap f hcap hsz hcell hr =>
        refine ⟨hsz, p, cap, rfl, fun hne => ?_⟩
        cases rows' with
        | nil => simp at hne
        | cons r rs =>
          have hr0 := hsz 0 r rfl
          obtain ⟨b, rfl, _⟩ := hcell 0 r 0 (r[0]'(by omega)) rfl (by simp)
          exact main b hsz (fun i row j pv e1 e2 => by
            obtain ⟨b', q, hS⟩ := hcell i row j pv e1 e2
            simp at q; subst q
            exact ⟨_, h.snap _ _ hS, hr i row j pv e1 e2⟩)
    · simp at e
  · rename_i s sz off len
    split at e
    · rename_i e0 sz' rows' hb
      split at e
      · rename_i hc
        obtain ⟨rfl, rfl, hle⟩ := hc
        simp at e; subst e
        obtain ⟨hwf, hm⟩ := h.mem s _ hb
        have hget : ∀ i, ((rows'.drop off).take len)[i]? = if i < len then rows'[off + i]? else none := by
          intro i; simp [List.getElem?_take, List.getElem?_drop]
        have hlen : ((rows'.drop off).take len).length = len := by simp; omega
        have hwf' : ∀ (i : Nat) (row : List PV), ((rows'.drop off).take len)[i]? = some row → row.length = sz' := fun i row e1 => by
          rw [hget] at e1
          split at e1
          · exact hwf _ row e1
          · simp at e1
        refine ⟨hwf', ?_⟩
        cases hx with
        | ref _ _ _ _ b total cap p hi hct hl ha =>
          refine ⟨some p, cap, by rw [hlen], fun hne => ?_⟩
          have hl0 : 0 < len := by
            rcases Nat.eq_zero_or_pos len with h0 | h0
            · subst h0; simp at hne
            · exact h0
          have hp : p = ⟨b, off * sz', none⟩ := by
            rcases ha with h0 | h0
            · omega
            · exact h0
          subst hp
          refine main _ hwf' (fun i row j pv e1 e2 => ?_)
          rw [hget] at e1
          split at e1
          · rcases hm with ⟨q, _⟩ | ⟨b', t', e', c, q1, q2, q3, q4, q5, q6, q7⟩
            · rw [hi] at q; simp at q
            · rw [hi] at q1; simp at q1; obtain ⟨rfl, rfl⟩ := q1
              obtain ⟨u, u1, u2⟩ := q7 (off + i) j (.p pv) (by simp [Blk.cell, e1, e2])
              refine ⟨u, ?_, u2.inv_p⟩
              rw [addr_add, q2.cell, ← u1]
              congr 1
              simp only [Blk.size, Nat.add_mul, Nat.add_assoc]
          · simp at e1
        | refnil _ _ hi =>
          exact ⟨none, 0, by simp, by simp⟩
      · simp at e
    · simp at e
  · simp at e

theorem FF.app_append {dst : Option Nat} {s s1 : Slot} {k : Blk} {v : AV} {del : List Slot} (hs : s1 ∉ del) :
    F.app dst ⟨v, [(s1, k)], del⟩ = { F with var := fun t => if dst = some t then some v else F.var t, blk := fun s' => if s' = s1 then some k else if s' ∈ del then none else F.blk s' } := by
  unfold FF.app
  congr 1
  funext s'
  simp only [Del.blk, look]
  by_cases h1 : s' = s1
  · simp [h1]
  · by_cases h2 : s' ∈ del <;> simp [h1, h2]

theorem row_append {size : Nat} {r1 r2 : List (List PV)} {xs ys : List Value} (hl : xs.length = r1.length * size)
    (h1 : ∀ (i : Nat) (row : List PV) (j : Nat) (pv : PV), r1[i]? = some row → row[j]? = some pv → ∃ u, xs[i * size + j]? = some u ∧ PRel S pv u)
    (h2 : ∀ (i : Nat) (row : List PV) (j : Nat) (pv : PV), r2[i]? = some row → row[j]? = some pv → ∃ u, ys[i * size + j]? = some u ∧ PRel S pv u) :
    ∀ (i : Nat) (row : List PV) (j : Nat) (pv : PV), (r1 ++ r2)[i]? = some row → row[j]? = some pv → ∃ u, (xs ++ ys)[i * size + j]? = some u ∧ PRel S pv u := by
  intro i row j pv e1 e2
  rw [List.getElem?_append] at e1
  split at e1
  · obtain ⟨u, q1, q2⟩ := h1 i row j pv e1 e2
    refine ⟨u, ?_, q2⟩
    rw [List.getElem?_append, if_pos (List.getElem?_eq_some_iff.1 q1).1]
    exact q1
  · rename_i hge
    obtain ⟨u, q1, q2⟩ := h2 _ row j pv e1 e2
    refine ⟨u, ?_, q2⟩
    have hm : i * size = r1.length * size + (i - r1.length) * size := by rw [← Nat.add_mul]; congr 1; omega
    rw [List.getElem?_append, if_neg (by rw [hl, hm]; omega), hl]
    rw [← q1]
    congr 1
    rw [hm]; omega

/-- What an append comes to. -/
theorem evA_ok (h : St N w0 ι S F a w) {o : Oper} {ao : AOp} {d : Nat} {v : AV} {s1 : Slot} {k : Blk} {del : List Slot} (hr : resolveOp P o.op = some ao) (he : evA F d ao = some (v, s1, k, del)) (hd : F.noSlot s1) (hdst : ∀ d, o.dst = some d → d < N) :
    ∃ x w' ι', (execOp a.eval o).run P w = .ok (.value x) w' ∧ St N w0 ι' S (F.app o.dst ⟨v, [(s1, k)], del⟩) (a.put o.dst x) w' := by
  have hop : ∃ t e i sO xO os ox ty z, o.op = .call { callee := .builtin .append, args := #[sO, xO], argTypes := #[t, t] } ∧ P.underlying t = some (.slice e) ∧ P.info? e = some i ∧ i.zero = some z ∧ z.cells.size = i.size ∧ 0 < i.size ∧ rO sO = some os ∧ rO xO = some ox ∧ ao = .app e i.size i.bytes os ox ∧ ty = o.type := by
    cases hop : o.op with
    | call c =>
      obtain ⟨callee, args, argTypes⟩ := c
      simp only [hop, resolveOp, resolveCall] at hr
      split at hr
      · repeat' split at hr
        all_goals (try (simp at hr; done))
        simp only [Option.map_eq_some_iff] at hr
        obtain ⟨q, h1, rfl⟩ := hr
        simp [evA] at he
      · split at hr
        · simp at hr; subst hr; simp [evA] at he
        · simp at hr
      · repeat' split at hr
        all_goals first
        | (simp at hr; done)
        | (simp only [Option.map_eq_some_iff] at hr; obtain ⟨q, h1, rfl⟩ := hr; simp [evA] at he; done)
      · split at hr
        · simp at hr; subst hr; simp [evA] at he
        · simp at hr
      · split at hr
        · simp at hr; subst hr; simp [evA] at he
        · simp at hr
      · rename_i sO xO t u ea et
        obtain rfl : args = #[sO, xO] := by apply Array.ext'; simpa using ea
        obtain rfl : argTypes = #[t, u] := by apply Array.ext'; simpa using et
        split at hr
        · rename_i e hu
          split at hr
          · rename_i i os ox h1 h2 h3
            split at hr
            · rename_i hc
              obtain ⟨rfl, hz, hpos⟩ := hc
              simp only [Option.map_eq_some_iff] at hz
              obtain ⟨z, z1, z2⟩ := hz
              simp only [Option.some.injEq] at hr
              exact ⟨t, e, i, sO, xO, os, ox, o.type, z, rfl, hu, h1, z1, z2, hpos, h2, h3, hr.symm, rfl⟩
            · simp at hr
          · simp at hr
        · simp at hr
      · simp at hr
    | slice t x lo hi mx =>
      exfalso
      cases mx with
      | some m => simp [hop, resolveOp] at hr
      | none =>
        simp only [hop, resolveOp] at hr
        repeat' split at hr
        all_goals first
        | (simp at hr; done)
        | (simp only [Option.some.injEq] at hr; subst hr; simp [evA] at he; done)
    | _ =>
      exfalso
      simp only [hop, resolveOp] at hr
      first
      | (simp at hr; done)
      | (simp only [Option.map_eq_some_iff] at hr; obtain ⟨q, h1, rfl⟩ := hr; simp [evA] at he; done)
      | (repeat' split at hr
         all_goals first
         | (simp at hr; done)
         | (simp only [Option.some.injEq] at hr; subst hr; simp [evA] at he; done)
         | (simp only [Option.map_eq_some_iff] at hr; obtain ⟨q, h1, rfl⟩ := hr; simp [evA] at he; done))
  obtain ⟨t, e, i, sO, xO, os, ox, ty, z, hop, hu, hinfo, hz, hzs, hpos, hs, hx, rfl, rfl⟩ := hop
  have hexec : ∀ {y : Value} {w' : World}, (Builtin.append_ #[t, t] o.type #[a.eval sO, a.eval xO]).run P w = .ok y w' → (execOp a.eval o).run P w = .ok (.value y) w' := by
    intro y w' hq
    simp [execOp, hop, resolve, invoke, builtin, hq]
  -- nothing is appended
  have none_ : ∀ (p : Option Addr) (n cap : Nat) (p' : Option Addr) (c : Nat), a.eval sO = .slice p n cap → a.eval xO = .slice p' 0 c → n ≤ cap → (Builtin.append_ #[t, t] o.type #[a.eval sO, a.eval xO]).run P w = .ok (.slice p n cap) w := by
    intro p n cap p' c e1 e2 hle
    rw [e1, e2]
    cases p <;> cases p' <;> simp [Builtin.append_, run_underlying hu, sizeOf, typeInfo, hinfo, Builtin.lenOf, hle, Builtin.firstCells, loadCells, loadCellsFrom, storeCells]
  simp only [evA] at he
  split at he
  · -- a nil slice
    rename_i new g1 g2
    split at he
    · rename_i hc
      obtain ⟨c1, c2, c3⟩ := hc
      simp only [Option.some.injEq, Prod.mk.injEq] at he
      obtain ⟨rfl, rfl, rfl, rfl⟩ := he
      simp only [Option.bind_eq_some_iff] at g2
      obtain ⟨xv, g2, g3⟩ := g2
      have hsv : a.eval sO = .slice none 0 0 := by
        have := (h.val hs g1).inv_p
        generalize a.eval sO = y at this
        cases this; rfl
      obtain ⟨hwf, p, cap, hxv, hnews⟩ := h.rows_ok (h.val hx g2) g3 hpos
      by_cases hne : new = []
      · subst hne
        have hrun := none_ none 0 0 p cap hsv (by simpa using hxv) (Nat.le_refl _)
        refine ⟨_, w, setι ι (d, 0) none, hexec hrun, ?_⟩
        have h1 := h.step (ι' := setι ι (d, 0) none) (d, 0) (Keep.refl w) (fun _ _ q => q) h.snap (fun x v q => .inl q) (fun s hs => setι_ne hs) hd
        have h2 := h1.lay (d, 0) (.sl e i.size []) ⟨by intro i row q; simp at q, .inl ⟨setι_eq, rfl⟩⟩ (fun b t q => by rw [setι_eq] at q; simp at q)
        have h3 := h2.put (dst := o.dst) (v := .ref (d, 0) i.size 0 0) (x := .slice none 0 0) (.refnil _ _ setι_eq) hdst
        have e1 := FF.app_append (F := F) (dst := o.dst) (s := (d, 0)) (s1 := (d, 0)) (k := .sl e i.size []) (v := .ref (d, 0) i.size 0 ([] : List (List PV)).length) (del := []) (by simp)
        rw [e1]
        simpa using h3
      · obtain ⟨q, news, rfl, n1, n2, n3⟩ := hnews hne
        have hlen : 0 < new.length := List.length_pos_iff.2 hne
        have hrun := run_append_nil (P := P) w t o.type e i z hu hinfo hz q new.length cap news n1 n2 hlen (by unfold maxLen at c1; omega) (by omega)
        have hge := grownCap_ge w new.length 0 e
        have hcm := grownCap_le_maxLen w new.length 0 e c1
        have hdr : St N w0 ι S F a w.drew := h.step0 (Keep.drew w) (fun _ _ q => q) (fun x v q => h.snap x v q) (fun x v q => .inl q)
        have hst := hdr.new (d := (d, 0)) hd (e := e) (c := news.toArray ++ Builtin.zeroCells z.cells (grownCap w new.length 0 e - new.length)) (total := grownCap w new.length 0 e) (k := .sl e i.size new) hwf rfl
          (by simp only [Array.size_append, List.size_toArray, size_zeroCells, hzs, n1, Blk.size, ← Nat.add_mul]; congr 1; omega) (by simpa [Blk.nrows] using hge) hcm rfl (fun i' j av q => by
            simp only [Blk.cell, Option.map_eq_some_iff, Option.bind_eq_some_iff] at q
            obtain ⟨pv, ⟨r, q1, q2⟩, rfl⟩ := q
            obtain ⟨u, u1, u2⟩ := n3 i' r j pv q1 q2
            refine ⟨u, ?_, .p _ _ u2⟩
            simp only [Blk.size]
            rw [Array.getElem?_append, if_pos (by have := (List.getElem?_eq_some_iff.1 u1).1; simpa using this)]
            simpa using u1)
        refine ⟨_, _, setι ι (d, 0) (some (w.heap.size, grownCap w new.length 0 e)), hexec (by rw [hsv, hxv]; exact hrun), ?_⟩
        have h3 := hst.put (dst := o.dst) (v := .ref (d, 0) i.size 0 new.length) (x := .slice (some ⟨w.heap.size, 0, none⟩) new.length (grownCap w new.length 0 e)) (.ref (d, 0) i.size 0 new.length w.heap.size (grownCap w new.length 0 e) _ _ (by exact setι_eq) (by omega) hge (.inr (by simp))) hdst
        have e1 := FF.app_append (F := F) (dst := o.dst) (s := (d, 0)) (s1 := (d, 0)) (k := .sl e i.size new) (v := .ref (d, 0) i.size 0 new.length) (del := []) (by simp)
        rw [e1]
        simpa using h3
    · simp at he
  · -- a slice of the frame's own
    rename_i s0 sz n new g1 g2
    split at he
    · rename_i e0 sz' rows hb
      split at he
      · rename_i hc
        obtain ⟨rfl, rfl, rfl, rfl, c1, c2, c3⟩ := hc
        simp only [Option.some.injEq, Prod.mk.injEq] at he
        obtain ⟨rfl, rfl, rfl, rfl⟩ := he
        simp only [Option.bind_eq_some_iff] at g2
        obtain ⟨xv, g2, g3⟩ := g2
        have hsrel := h.val hs g1
        obtain ⟨hwf0, hm0⟩ := h.mem s0 _ hb
        obtain ⟨hwf, p, cap, hxv, hnews⟩ := h.rows_ok (h.val hx g2) g3 hpos
        have hne01 : (s0.1, s0.2 + 1) ≠ s0 := by intro q; have := congrArg Prod.snd q; simp at this
        have hwf2 : ∀ (i' : Nat) (row : List PV), (rows ++ new)[i']? = some row → row.length = i.size := by
          intro i' row q
          rw [List.getElem?_append] at q
          split at q
          · exact hwf0 i' row q
          · exact hwf _ row q
        have e1 : ∀ v, F.app o.dst ⟨v, [((s0.1, s0.2 + 1), .sl e0 i.size (rows ++ new))], [s0]⟩ = _ := fun v => FF.app_append (F := F) (dst := o.dst) (s := s0) (s1 := (s0.1, s0.2 + 1)) (k := .sl e0 i.size (rows ++ new)) (v := v) (del := [s0]) (by simpa using hne01)
        -- the frame without the slice that is used up
        have hle : ∀ (s' : Slot) (k' : Blk), (if s' = s0 then none else F.blk s') = some k' → F.blk s' = some k' := by
          intro s' k' q
          split at q
          · simp at q
          · exact q
        have hdel : St N w0 ι S { F with blk := fun s' => if s' = s0 then none else F.blk s' } a w := St.weaken (F := { F with blk := fun s' => if s' = s0 then none else F.blk s' }) (G := F) ⟨fun _ _ q => q, hle⟩ h
        have hd' : FF.noSlot (s0.1, s0.2 + 1) { F with blk := fun s' => if s' = s0 then none else F.blk s' } := ⟨hd.1, fun s' k' q => hd.2 s' k' (hle s' k' q)⟩
        have hfun : (fun s' => if s' = (s0.1, s0.2 + 1) then some (Blk.sl e0 i.size (rows ++ new)) else if s' = s0 then none else F.blk s') = (fun s' => if s' = (s0.1, s0.2 + 1) then some (Blk.sl e0 i.size (rows ++ new)) else if s' ∈ [s0] then none else F.blk s') := by funext s'; simp
        -- a block laid anew behind a draw
        have grown : ∀ (xs news : List Value) (g : Nat), xs.length = rows.length * i.size → news.length = new.length * i.size → (∀ (i' : Nat) (row : List PV) (j : Nat) (pv : PV), rows[i']? = some row → row[j]? = some pv → ∃ u, xs[i' * i.size + j]? = some u ∧ PRel S pv u) →
            (∀ (i' : Nat) (row : List PV) (j : Nat) (pv : PV), new[i']? = some row → row[j]? = some pv → ∃ u, news[i' * i.size + j]? = some u ∧ PRel S pv u) → rows.length + new.length ≤ g → g ≤ maxLen →
            (Builtin.append_ #[t, t] o.type #[a.eval sO, a.eval xO]).run P w = .ok (.slice (some ⟨w.heap.size, 0, none⟩) (rows.length + new.length) g) (w.drew.alloc (.cells (xs.toArray ++ news.toArray ++ Builtin.zeroCells z.cells (g - (rows.length + new.length))) e0)) →
            ∃ x w' ι', (execOp a.eval o).run P w = .ok (.value x) w' ∧ St N w0 ι' S (F.app o.dst ⟨.ref (s0.1, s0.2 + 1) i.size 0 (rows.length + new.length), [((s0.1, s0.2 + 1), .sl e0 i.size (rows ++ new))], [s0]⟩) (a.put o.dst x) w' := by
          intro xs news g l1 l2 r1 r2 hg hgm hrun
          have hdr := hdel.step0 (Keep.drew w) (fun _ _ q => q) (fun x v q => h.snap x v q) (fun x v q => .inl q)
          have hcells := row_append l1 r1 r2
          have hst := hdr.new (d := (s0.1, s0.2 + 1)) hd' (e := e0) (c := xs.toArray ++ news.toArray ++ Builtin.zeroCells z.cells (g - (rows.length + new.length))) (total := g) (k := .sl e0 i.size (rows ++ new)) hwf2 rfl
            (by simp only [Array.size_append, List.size_toArray, size_zeroCells, hzs, l1, l2, Blk.size, ← Nat.add_mul]; congr 1; omega) (by simp [Blk.nrows]; omega) hgm rfl (fun i' j av q => by
              simp only [Blk.cell, Option.map_eq_some_iff, Option.bind_eq_some_iff] at q
              obtain ⟨pv, ⟨r, q1, q2⟩, rfl⟩ := q
              obtain ⟨u, u1, u2⟩ := hcells i' r j pv q1 q2
              refine ⟨u, ?_, .p _ _ u2⟩
              simp only [Blk.size]
              rw [Array.getElem?_append, if_pos (by have := (List.getElem?_eq_some_iff.1 u1).1; simpa using this)]
              simpa using u1)
          refine ⟨_, _, setι ι (s0.1, s0.2 + 1) (some (w.heap.size, g)), hexec hrun, ?_⟩
          have h3 := hst.put (dst := o.dst) (v := .ref (s0.1, s0.2 + 1) i.size 0 (rows.length + new.length)) (x := .slice (some ⟨w.heap.size, 0, none⟩) (rows.length + new.length) g) (.ref _ i.size 0 _ w.heap.size g _ _ setι_eq (by omega) hg (.inr (by simp))) hdst
          rw [e1, ← hfun]
          exact h3
        generalize hsv : a.eval sO = sv at hsrel
        generalize hnn : rows.length = nn at hsrel
        cases hsrel with
        | ref _ _ _ _ b total cap0 ps hi hct hl ha =>
          subst hnn
          rcases hm0 with ⟨q, _⟩ | ⟨b', t', e', c, q1, q2, q3, q4, q5, q6, q7⟩
          · rw [hi] at q; simp at q
          · rw [hi] at q1; simp at q1; obtain ⟨rfl, rfl⟩ := q1
            simp only [Blk.elem] at q3; subst q3
            simp only [Blk.size, Blk.nrows] at q4 q5
            have hxs : ∀ (i' : Nat) (row : List PV) (j : Nat) (pv : PV), rows[i']? = some row → row[j]? = some pv → ∃ u, (c.toList.take (rows.length * i.size))[i' * i.size + j]? = some u ∧ PRel S pv u := by
              intro i' row j pv e2 e3
              obtain ⟨u, u1, u2⟩ := q7 i' j (.p pv) (by simp [Blk.cell, e2, e3])
              refine ⟨u, ?_, u2.inv_p⟩
              have hi' := (List.getElem?_eq_some_iff.1 e2).1
              have hj := (List.getElem?_eq_some_iff.1 e3).1
              have hlr := hwf0 i' row e2
              have hlt : i' * i.size + j < rows.length * i.size := by
                have : (i' + 1) * i.size ≤ rows.length * i.size := Nat.mul_le_mul_right _ hi'
                rw [Nat.add_mul] at this; omega
              rw [List.getElem?_take, if_pos hlt]
              simpa [Blk.size] using u1
            have hfit : rows.length * i.size ≤ c.size := by rw [q4]; exact Nat.mul_le_mul_right _ q5
            have hxl : (c.toList.take (rows.length * i.size)).length = rows.length * i.size := by simp; omega
            by_cases hne : new = []
            · subst hne
              have hrun := none_ (some ps) rows.length cap0 p cap hsv (by simpa using hxv) hl
              have h1 := hdel.step (ι' := setι ι (s0.1, s0.2 + 1) (some (b, total))) (s0.1, s0.2 + 1) (Keep.refl w) (fun _ _ q => q) h.snap (fun x v q => .inl q) (fun s hs => setι_ne hs) hd'
              have h2 := h1.lay (s0.1, s0.2 + 1) (.sl e0 i.size (rows ++ [])) ⟨hwf2, .inr ⟨b, total, e0, c, setι_eq, q2, rfl, q4, by simpa [Blk.nrows] using q5, q6, fun i' j av q => by
                simp only [Blk.cell, List.append_nil, Option.map_eq_some_iff, Option.bind_eq_some_iff] at q
                obtain ⟨pv, ⟨r, g4, g5⟩, rfl⟩ := q
                obtain ⟨u, u1, u2⟩ := q7 i' j (.p pv) (by simp [Blk.cell, g4, g5])
                exact ⟨u, u1, .p _ _ u2.inv_p⟩⟩⟩ (fun b2 t2 q => by
                rw [setι_eq] at q; simp at q; obtain ⟨rfl, rfl⟩ := q
                refine ⟨(h.own s0 _ hb b total hi).1, (h.own s0 _ hb b total hi).2, fun s' k' g4 g5 b3 t3 g6 => ?_⟩
                dsimp only at g4
                split at g4
                · simp at g4
                · rename_i g7
                  rw [setι_ne g5] at g6
                  exact h.sep s' s0 k' _ g4 hb g7 b3 t3 b total g6 hi)
              refine ⟨_, w, setι ι (s0.1, s0.2 + 1) (some (b, total)), hexec hrun, ?_⟩
              have h3 := h2.put (dst := o.dst) (v := .ref (s0.1, s0.2 + 1) i.size 0 (rows.length + ([] : List (List PV)).length)) (x := .slice (some ps) rows.length cap0) (by
                simpa using AVRel.ref (ι := setι ι (s0.1, s0.2 + 1) (some (b, total))) (S := S) (s0.1, s0.2 + 1) i.size 0 rows.length b total cap0 ps setι_eq hct hl ha) hdst
              rw [e1, ← hfun]
              exact h3
            · obtain ⟨q, news, rfl, n1, n2, n3⟩ := hnews hne
              have hnp : 0 < new.length := List.length_pos_iff.2 hne
              have holds : cap0 = 0 ∨ ps = ⟨b, 0, none⟩ := by simpa using ha
              by_cases hroom : rows.length + new.length ≤ cap0
              · have hps : ps = ⟨b, 0, none⟩ := by rcases holds with h0 | h0; · omega
                                                   · exact h0
                subst hps
                have hones : ∀ u ∈ news, u.oneCell' = true := by
                  intro u hu
                  obtain ⟨j, hj, hjv⟩ := List.mem_iff_getElem.1 hu
                  have hi' : j / i.size < new.length := Nat.div_lt_of_lt_mul (by rw [Nat.mul_comm]; omega)
                  have hm : j % i.size < i.size := Nat.mod_lt _ hpos
                  have hrow : new[j / i.size]? = some new[j / i.size] := by simp [hi']
                  have hrl := hwf _ _ hrow
                  have hcell : (new[j / i.size])[j % i.size]? = some ((new[j / i.size])[j % i.size]'(by omega)) := by simp
                  obtain ⟨u', u1, u2⟩ := n3 _ _ _ _ hrow hcell
                  have hdm : j / i.size * i.size + j % i.size = j := by have := Nat.div_add_mod j i.size; rw [Nat.mul_comm] at this; exact this
                  rw [hdm, List.getElem?_eq_getElem hj, hjv] at u1
                  simp at u1; subst u1
                  refine u2.one ?_
                  have := List.all_eq_true.1 c3 _ (List.getElem_mem hi')
                  exact List.all_eq_true.1 this _ (List.getElem_mem _)
                have hfit2 : rows.length * i.size + news.length ≤ c.size := by
                  rw [n1, ← Nat.add_mul, q4]; exact Nat.mul_le_mul_right _ (by omega)
                have hrun := run_append_room (P := P) w t o.type e0 i hu hinfo b rows.length cap0 c q2 q new.length cap news n1 n2 hones hroom hfit2
                refine ⟨_, _, setι ι (s0.1, s0.2 + 1) (some (b, total)), hexec (by rw [hsv, hxv]; exact hrun), ?_⟩
                have ht := h.touch (w' := w.setRow b (c.toList.take (rows.length * i.size) ++ news ++ c.toList.drop (rows.length * i.size + news.length)).toArray) hb hi rfl rfl rfl (by simp) (fun k _ hk => setRow_other w b k _ hk)
                have hlies : Lies (w.setRow b (c.toList.take (rows.length * i.size) ++ news ++ c.toList.drop (rows.length * i.size + news.length)).toArray) b e0 (c.toList.take (rows.length * i.size) ++ news ++ c.toList.drop (rows.length * i.size + news.length)).toArray := setRow_heap w b c _ e0 _ q2
                have h1 := ht.step (ι' := setι ι (s0.1, s0.2 + 1) (some (b, total))) (s0.1, s0.2 + 1) (Keep.refl _) (fun _ _ q => q) ht.snap (fun x v q => .inl q) (fun s hs => setι_ne hs) hd'
                have hcells := row_append hxl hxs n3
                have h2 := h1.lay (s0.1, s0.2 + 1) (.sl e0 i.size (rows ++ new)) ⟨hwf2, .inr ⟨b, total, e0, _, setι_eq, hlies, rfl, by simp only [List.size_toArray, List.length_append, List.length_take, List.length_drop, Array.length_toList, Blk.size]; omega, by simp [Blk.nrows]; omega, q6, fun i' j av g4 => by
                  simp only [Blk.cell, Option.map_eq_some_iff, Option.bind_eq_some_iff] at g4
                  obtain ⟨pv, ⟨r, g5, g6⟩, rfl⟩ := g4
                  obtain ⟨u, u1, u2⟩ := hcells i' r j pv g5 g6
                  refine ⟨u, ?_, .p _ _ u2⟩
                  simp only [Blk.size, List.getElem?_toArray]
                  rw [List.getElem?_append, if_pos (List.getElem?_eq_some_iff.1 u1).1]
                  exact u1⟩⟩ (fun b2 t2 g4 => by
                  rw [setι_eq] at g4; simp at g4; obtain ⟨rfl, rfl⟩ := g4
                  refine ⟨(h.own s0 _ hb b total hi).1, (h.own s0 _ hb b total hi).2, fun s' k' g4 g5 b3 t3 g6 => ?_⟩
                  dsimp only at g4
                  split at g4
                  · simp at g4
                  · rename_i g7
                    rw [setι_ne g5] at g6
                    exact h.sep s' s0 k' _ g4 hb g7 b3 t3 b total g6 hi)
                have h3 := h2.put (dst := o.dst) (v := .ref (s0.1, s0.2 + 1) i.size 0 (rows.length + new.length)) (x := .slice (some ⟨b, 0, none⟩) (rows.length + new.length) cap0)
                  (.ref _ i.size 0 _ b total cap0 _ setι_eq hct hroom (.inr (by simp))) hdst
                rw [e1, ← hfun]
                exact h3
              · have hold2 : ∀ j u, (c.toList.take (rows.length * i.size))[j]? = some u → w.cell? (ps.add j) = some u := by
                  intro j u hj
                  rcases holds with h0 | rfl
                  · have : rows.length = 0 := by omega
                    simp [this] at hj
                  · rw [addr_add, q2.cell]
                    rw [List.getElem?_take] at hj
                    split at hj
                    · simpa using hj
                    · simp at hj
                have hrun := run_append_grow (P := P) w t o.type e0 i z hu hinfo hz ps rows.length cap0 _ hxl hold2 q new.length cap news n1 n2 (by omega) (by unfold maxLen at c1; omega) (growslice_fits (by omega) c2)
                exact grown _ _ _ hxl n1 hxs n3 (grownCap_ge w _ _ _) (grownCap_le_maxLen w _ _ _ c1) (by rw [hsv, hxv]; exact hrun)
        | refnil _ _ hi =>
          have hrows : rows = [] := by
            rcases hm0 with ⟨_, q⟩ | ⟨b', t', e', c, q1, _⟩
            · exact List.eq_nil_of_length_eq_zero (by simpa [Blk.nrows] using q)
            · rw [hi] at q1; simp at q1
          subst hrows
          by_cases hne : new = []
          · subst hne
            have hrun := none_ none 0 0 p cap hsv (by simpa using hxv) (Nat.le_refl _)
            have h1 := hdel.step (ι' := setι ι (s0.1, s0.2 + 1) none) (s0.1, s0.2 + 1) (Keep.refl w) (fun _ _ q => q) h.snap (fun x v q => .inl q) (fun s hs => setι_ne hs) hd'
            have h2 := h1.lay (s0.1, s0.2 + 1) (.sl e0 i.size ([] ++ [])) ⟨hwf2, .inl ⟨setι_eq, rfl⟩⟩ (fun b t q => by rw [setι_eq] at q; simp at q)
            have h3 := h2.put (dst := o.dst) (v := .ref (s0.1, s0.2 + 1) i.size 0 0) (x := .slice none 0 0) (.refnil _ _ setι_eq) hdst
            refine ⟨_, w, setι ι (s0.1, s0.2 + 1) none, hexec hrun, ?_⟩
            rw [e1, ← hfun]
            exact h3
          · obtain ⟨q, news, rfl, n1, n2, n3⟩ := hnews hne
            have hlen : 0 < new.length := List.length_pos_iff.2 hne
            simp only [List.length_nil, Nat.zero_add] at c1 c2
            have hrun := run_append_nil (P := P) w t o.type e0 i z hu hinfo hz q new.length cap news n1 n2 hlen (by unfold maxLen at c1; omega) (by omega)
            exact grown [] news (grownCap w new.length 0 e0) (by simp) n1 (by simp) n3 (by simpa using grownCap_ge w new.length 0 e0) (grownCap_le_maxLen w _ _ _ c1) (by rw [hsv, hxv]; simpa using hrun)
      · simp at he
    · simp at he
  · simp at he

end
end Go.Abs
