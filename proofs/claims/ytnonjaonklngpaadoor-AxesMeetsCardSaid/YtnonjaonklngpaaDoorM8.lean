/- A part of the proof: an abstract reading of the model, contracts of functions. -/
import Derived.Test.YtnonjaonklngpaaDoorM7
import Derived.OpenShut
import Derived.Deep.Slices
import Derived.WideShapes
import Derived.Carry
import Derived.DataElems
import Derived.Test.YtnonjaonklngpaaDoorRows
import Derived.ChangeSame
import Derived.ChangeVars
import Derived.JoinedOf
import Derived.RowKit
import Derived.RowKitTokens
import Derived.LaidLaws
import Derived.LaidHandle
import Derived.Stop.Joined
import Derived.Lib.LaidIn
import Derived.Lib.LaidU8T
import Derived.ProofKit
import Derived.SizedLaws
import Derived.Test.YtnonjaonklngpaaDoorCards
import Derived.Test.YtnonjaonklngpaaDoorTie
import Derived.SevenTiedAt
namespace Go.Abs
open Go
set_option linter.unusedSimpArgs false
set_option linter.unusedVariables false
/-! ### from a datum of a row to values by content -/
/-- What reads as a t is some a: its cells are those that f says. -/
def Rd {α : Type} (P : Program) (w : World) (t : TypeId) (f : α → List PV) (ok : α → Prop) : Prop :=
  ∀ (H : Type) (en : TypeId × Value → H) (base : Nat) (sp : Nat → Bool) (hd : Bool) (fuel : Nat) (cs : List Value) (x : DataW H × List MemPlace), DataW.trod en P w base sp hd fuel t cs = some x → ∃ a, ok a ∧ Ps (full w) (f a) cs
variable {P : Program} {w : World} {t : TypeId}
theorem Ps.one {S : Snap} {p : PV} {v : Value} (h : PRel S p v) : Ps S [p] [v] := by
  refine ⟨rfl, fun j q u e1 e2 => ?_⟩
  match j with
  | 0 => simp at e1 e2; subst e1 e2; exact h
  | j + 1 => simp at e1
theorem Ps.nil {S : Snap} : Ps S [] [] := ⟨rfl, fun j q u e1 e2 => by simp at e1⟩
theorem Ps.append {S : Snap} {ps qs : List PV} {vs us : List Value} (h : Ps S ps vs) (k : Ps S qs us) : Ps S (ps ++ qs) (vs ++ us) := by
  refine ⟨by simp [h.1, k.1], fun j q u e1 e2 => ?_⟩
  by_cases hj : j < ps.length
  · rw [List.getElem?_append_left hj] at e1
    rw [List.getElem?_append_left (by rw [h.1]; exact hj)] at e2
    exact h.2 j q u e1 e2
  · rw [List.getElem?_append_right (by omega)] at e1
    rw [List.getElem?_append_right (by rw [h.1]; omega), h.1] at e2
    exact k.2 _ q u e1 e2
theorem Rd.int {k : IntKind} (ht : P.underlying t = some (.int k)) : Rd P w t (fun n : Int => [.int k n]) fun n => (Lit.int k n).wf = true := by
  intro H en base sp hd fuel cs x h
  cases fuel with
  | zero => simp [DataW.trod] at h
  | succ m =>
    unfold DataW.trod at h
    rw [ht] at h
    split at h <;> simp_all
    obtain ⟨⟨rfl, hw⟩, _⟩ := h
    exact ⟨_, hw, Ps.one (.int _ _)⟩
theorem Rd.str (ht : P.underlying t = some .string) : Rd P w t (fun s : ByteArray => [.str s]) fun s => s.size ≤ maxLen := by
  intro H en base sp hd fuel cs x h
  cases fuel with
  | zero => simp [DataW.trod] at h
  | succ m =>
    unfold DataW.trod at h
    rw [ht] at h
    split at h <;> simp_all
    exact ⟨_, h.1, Ps.one (.str _)⟩
theorem cells_get {base : Nat} {a : Addr} {n : Nat} {cs : List Value} (h : w.cells? base a n = some cs) : cs.length = n ∧ ∀ j v, cs[j]? = some v → w.cell? (a.add j) = some v := by
  unfold World.cells? at h
  split at h
  · obtain ⟨h1, h2⟩ := mapM_some h
    refine ⟨by simpa using h1, fun j v e => ?_⟩
    obtain ⟨i, e1, e2⟩ := h2 j v e
    have hj : j < n := by have := (List.getElem?_eq_some_iff.1 e).1; rw [h1] at this; simpa using this
    rw [List.getElem?_range hj] at e1
    simp at e1; subst e1; exact e2
  · simp at h
theorem Rd.slice {α : Type} {e : TypeId} {sz : Nat} {f : α → List PV} {ok : α → Prop} (ht : P.underlying t = some (.slice e)) (hc : P.cellsOf e = sz) (hr : Rd P w e f ok) (hf : ∀ a, (f a).length = sz) :
    Rd P w t (fun l : List α => [.sl sz (l.map f)]) fun l => (∀ a ∈ l, ok a) ∧ l.length ≤ maxLen := by
  intro H en base sp hd fuel cs x h
  rcases Deep.open_slice ht h with ⟨rfl, _⟩ | ⟨a, len, cap, m, n, D, Pl, rfl, hb, hl, hm, hmm, _, hel⟩
  · exact ⟨[], ⟨by simp, by simp⟩, Ps.one (.sl sz [] none 0 (fun _ _ => undef) (Nat.le_refl _) (by simp) (by simp) (by simp))⟩
  · have hlm : len ≤ m := by rw [hmm]; split <;> omega
    have key : ∀ k, k ≤ len → ∃ l : List α, l.length = k ∧ ∀ i b, l[i]? = some b → ok b ∧ ∃ cs', w.cells? base (a.add (i * sz)) sz = some cs' ∧ Ps (full w) (f b) cs' := by
      intro k
      induction k with
      | zero => intro _; exact ⟨[], rfl, fun i b e => by simp at e⟩
      | succ k ih =>
        intro hk
        obtain ⟨l, h1, h2⟩ := ih (by omega)
        obtain ⟨cs', g1, g2⟩ := hel k (by omega)
        obtain ⟨b, hb1, hb2⟩ := hr _ _ _ _ _ _ _ _ g2
        rw [hc] at g1
        refine ⟨l ++ [b], by simp [h1], fun i c e => ?_⟩
        by_cases hi : i < l.length
        · rw [List.getElem?_append_left hi] at e; exact h2 i c e
        · have : i = l.length := by have := (List.getElem?_eq_some_iff.1 e).1; simp at this; omega
          subst this
          simp at e; subst e
          rw [h1]; exact ⟨hb1, cs', g1, hb2⟩
    obtain ⟨l, hl1, hl2⟩ := key len (Nat.le_refl _)
    refine ⟨l, ⟨fun b hb => ?_, by omega⟩, Ps.one ?_⟩
    · obtain ⟨i, hi⟩ := List.getElem?_of_mem hb; exact (hl2 i b hi).1
    · have cell : ∀ (i : Nat) (row : List PV) (j : Nat) (p : PV), (l.map f)[i]? = some row → row[j]? = some p → ∃ v, w.cell? (a.add (i * sz + j)) = some v ∧ PRel (full w) p v := by
        intro i row j p e1 e2
        rw [List.getElem?_map, Option.map_eq_some_iff] at e1
        obtain ⟨b, e1, rfl⟩ := e1
        obtain ⟨_, cs', g1, g2⟩ := hl2 i b e1
        obtain ⟨k1, k2⟩ := cells_get g1
        have hj : j < cs'.length := by rw [k1, ← hf b]; exact (List.getElem?_eq_some_iff.1 e2).1
        refine ⟨cs'[j], ?_, g2.2 j p _ e2 (List.getElem?_eq_getElem hj)⟩
        rw [← Addr.add_add]
        exact k2 j _ (List.getElem?_eq_getElem hj)
      have hll : (l.map f).length = len := by simp [hl1]
      have := PRel.sl (S := full w) sz (l.map f) (some a) cap (fun i j => (w.cell? (a.add (i * sz + j))).getD undef) (by omega)
        (fun i row e1 => by
          rw [List.getElem?_map, Option.map_eq_some_iff] at e1
          obtain ⟨b, _, rfl⟩ := e1
          exact hf b)
        (fun i row j p e1 e2 => by
          obtain ⟨v, h1, _⟩ := cell i row j p e1 e2
          exact ⟨a, rfl, by simp [full, h1]⟩)
        (fun i row j p e1 e2 => by
          obtain ⟨v, h1, h2⟩ := cell i row j p e1 e2
          simp only [h1, Option.getD_some]; exact h2)
      rwa [hll] at this
/-- A struct: its cells are its fields' cells, one field behind the other. -/
theorem Rd.struct1 {α : Type} {fd : Field} {f : α → List PV} {ok : α → Prop} (ht : P.underlying t = some (.struct #[fd])) (ho : fd.offset = 0) (hs : P.cellsOf fd.type = P.cellsOf t) (hr : Rd P w fd.type f ok) : Rd P w t f ok := by
  intro H en base sp hd fuel cs x h
  obtain ⟨xs, n, _, rfl, hl, hlen, hfl⟩ := DataW.trod_struct ht h
  have h0 := hfl 0 fd rfl
  rw [ho, hs, List.drop_zero, ← hl, List.take_length] at h0
  obtain ⟨y, hy⟩ : ∃ y, xs[0]? = some y := by
    have : 0 < xs.length := by rw [hlen]; simp
    exact ⟨_, List.getElem?_eq_getElem this⟩
  rw [hy] at h0
  exact hr _ _ _ _ _ _ _ _ h0
/-- Several fields: the first one, and the rest read apart. -/
def RdF {α : Type} (P : Program) (w : World) (fs : List Field) (f : α → List PV) (ok : α → Prop) : Prop :=
  ∀ (H : Type) (en : TypeId × Value → H) (base : Nat) (sp : Nat → Bool) (hd : Bool) (n : Nat) (cs : List Value), (∀ fd ∈ fs, ∃ y, DataW.trod en P w base sp hd n fd.type ((cs.drop fd.offset).take (P.cellsOf fd.type)) = some y) → ∃ a, ok a ∧ Ps (full w) (f a) (fs.flatMap fun fd => (cs.drop fd.offset).take (P.cellsOf fd.type))
theorem RdF.nil : RdF P w [] (fun _ : Unit => []) fun _ => True := fun _ _ _ _ _ _ _ _ => ⟨(), trivial, Ps.nil⟩
theorem RdF.cons {α β : Type} {fd : Field} {fs : List Field} {f : α → List PV} {g : β → List PV} {ok : α → Prop} {ok' : β → Prop} (h : Rd P w fd.type f ok) (k : RdF P w fs g ok') : RdF P w (fd :: fs) (fun x : α × β => f x.1 ++ g x.2) fun x => ok x.1 ∧ ok' x.2 := by
  intro H en base sp hd n cs hx
  obtain ⟨y, hy⟩ := hx fd (by simp)
  obtain ⟨a, ha, ha2⟩ := h _ _ _ _ _ _ _ _ hy
  obtain ⟨b, hb, hb2⟩ := k H en base sp hd n cs fun fd' hm => hx fd' (by simp [hm])
  exact ⟨(a, b), ⟨ha, hb⟩, by simpa using ha2.append hb2⟩
/-- Do the fields lie one behind the other, and fill it? -/
def laidOut (P : Program) : List Field → Nat → Nat → Bool
  | [], o, n => o == n
  | fd :: fs, o, n => fd.offset == o && laidOut P fs (o + P.cellsOf fd.type) n
theorem laidOut_cells {cs : List Value} : ∀ {fs : List Field} {o : Nat}, laidOut P fs o cs.length = true → (fs.flatMap fun fd => (cs.drop fd.offset).take (P.cellsOf fd.type)) = cs.drop o
  | [], o, h => by simp [laidOut] at h; subst h; simp
  | fd :: fs, o, h => by
    simp only [laidOut, Bool.and_eq_true, beq_iff_eq] at h
    rw [List.flatMap_cons, laidOut_cells h.2, h.1, ← List.drop_drop, List.take_append_drop]
theorem Rd.struct {α : Type} {fs : List Field} {f : α → List PV} {ok : α → Prop} (ht : P.underlying t = some (.struct fs.toArray)) (ho : laidOut P fs 0 (P.cellsOf t) = true) (hr : RdF P w fs f ok) : Rd P w t f ok := by
  intro H en base sp hd fuel cs x h
  obtain ⟨xs, n, _, rfl, hl, hlen, hfl⟩ := DataW.trod_struct ht h
  obtain ⟨a, ha, ha2⟩ := hr H en base sp hd n cs (fun fd hm => by
    obtain ⟨i, hi⟩ := List.getElem?_of_mem hm
    have := hfl i fd (by simpa using hi)
    have hlt : i < xs.length := by rw [hlen]; simpa using (List.getElem?_eq_some_iff.1 hi).1
    rw [this, List.getElem?_eq_getElem hlt]
    exact ⟨_, rfl⟩)
  rw [← hl] at ho
  rw [laidOut_cells ho, List.drop_zero] at ha2
  exact ⟨a, ha, ha2⟩
/-- An array of three. -/
theorem Rd.arr3 {α : Type} {e : TypeId} {sz : Nat} {f : α → List PV} {ok : α → Prop} (ht : P.underlying t = some (.array 3 e)) (hc : P.cellsOf e = sz) (hs : P.cellsOf t = 3 * sz) (hr : Rd P w e f ok) : Rd P w t (fun x : α × α × α => f x.1 ++ (f x.2.1 ++ f x.2.2)) fun x => ok x.1 ∧ ok x.2.1 ∧ ok x.2.2 := by
  intro H en base sp hd fuel cs x h
  obtain ⟨xs, m, _, rfl, hl, hlen, hfl⟩ := DataW.trod_array ht h
  have get : ∀ i, i < 3 → ∃ a, ok a ∧ Ps (full w) (f a) ((cs.drop (i * sz)).take sz) := fun i hi => by
    have h0 := hfl i hi
    rw [hc, List.getElem?_eq_getElem (by omega)] at h0
    exact hr _ _ _ _ _ _ _ _ h0
  obtain ⟨a, ha, ha2⟩ := get 0 (by omega)
  obtain ⟨b, hb, hb2⟩ := get 1 (by omega)
  obtain ⟨c, hcc, hc2⟩ := get 2 (by omega)
  refine ⟨(a, b, c), ⟨ha, hb, hcc⟩, ?_⟩
  have := ha2.append (hb2.append hc2)
  have e : (cs.drop (0 * sz)).take sz ++ ((cs.drop (1 * sz)).take sz ++ (cs.drop (2 * sz)).take sz) = cs := by
    apply List.ext_getElem?
    intro i
    simp only [Nat.zero_mul, List.drop_zero, Nat.one_mul]
    have l0 : (cs.take sz).length = sz := by simp; omega
    have l1 : ((cs.drop sz).take sz).length = sz := by simp; omega
    by_cases h1 : i < sz
    · rw [List.getElem?_append_left (by omega), List.getElem?_take, if_pos h1]
    · rw [List.getElem?_append_right (by omega), l0]
      by_cases h2 : i - sz < sz
      · rw [List.getElem?_append_left (by omega), List.getElem?_take, if_pos h2, List.getElem?_drop]; congr 1; omega
      · rw [List.getElem?_append_right (by omega), l1, List.getElem?_take, List.getElem?_drop]
        by_cases h3 : i - sz - sz < sz
        · rw [if_pos h3]; congr 1; omega
        · rw [if_neg h3, List.getElem?_eq_none (by omega)]
  rwa [e] at this
/-! ### a call's arguments -/
open Go.WideShapes in
theorem Rd.argS {α : Type} {e : TypeId} {f : α → PV} {ok : α → Prop} {H : Type} {en : TypeId × Value → H} {base b0 : Nat} {sp : Nat → Bool} {hd : Bool} {r : Reach} {v : Value} {d : DataW H} {p : List MemPlace} (ht : P.underlying t = some (.slice e)) (h : Rd P w t (fun a => [f a]) ok) (ho : Value.okWide P w r b0 t v) (hv : DataW.Trod en P w base sp hd t v d p) : ∃ a, ok a ∧ PRel (full w) (f a) v := by
  obtain ⟨a, len, cap, rfl⟩ := okWide_slice ht ho
  obtain ⟨m, hm⟩ := hv
  obtain ⟨x, h1, h2⟩ := h _ _ _ _ _ _ _ _ hm
  exact ⟨x, h1, h2.2 0 _ _ rfl rfl⟩
open Go.WideShapes in
theorem Rd.argI {α : Type} {k : IntKind} {f : α → PV} {ok : α → Prop} {H : Type} {en : TypeId × Value → H} {base b0 : Nat} {sp : Nat → Bool} {hd : Bool} {r : Reach} {v : Value} {d : DataW H} {p : List MemPlace} (ht : P.underlying t = some (.int k)) (h : Rd P w t (fun a => [f a]) ok) (ho : Value.okWide P w r b0 t v) (hv : DataW.Trod en P w base sp hd t v d p) : ∃ a, ok a ∧ PRel (full w) (f a) v := by
  obtain ⟨n, rfl⟩ := okWide_int ht ho
  obtain ⟨m, hm⟩ := hv
  obtain ⟨x, h1, h2⟩ := h _ _ _ _ _ _ _ _ hm
  exact ⟨x, h1, h2.2 0 _ _ rfl rfl⟩
theorem agg_of {S : Snap} {ps : List PV} {cs : Array Value} (h : Ps S ps cs.toList) : PRel S (.agg ps) (.agg cs) := by
  have := PRel.agg (S := S) ps cs.toList h.1 h.2
  simpa using this
open Go.WideShapes in
theorem Rd.argT {α : Type} {fs : Array Field} {f : α → List PV} {ok : α → Prop} {H : Type} {en : TypeId × Value → H} {base b0 : Nat} {sp : Nat → Bool} {hd : Bool} {r : Reach} {v : Value} {d : DataW H} {p : List MemPlace} (ht : P.underlying t = some (.struct fs)) (h : Rd P w t f ok) (ho : Value.okWide P w r b0 t v) (hv : DataW.Trod en P w base sp hd t v d p) : ∃ a, ok a ∧ PRel (full w) (.agg (f a)) v := by
  obtain ⟨cs, rfl, _⟩ := okWide_struct ht ho
  obtain ⟨m, hm⟩ := hv
  obtain ⟨x, h1, h2⟩ := h _ _ _ _ _ _ _ _ hm
  exact ⟨x, h1, agg_of h2⟩
theorem Rd.argA {α : Type} {n : Nat} {e : TypeId} {f : α → List PV} {ok : α → Prop} {H : Type} {en : TypeId × Value → H} {base b0 : Nat} {sp : Nat → Bool} {hd : Bool} {r : Reach} {v : Value} {d : DataW H} {p : List MemPlace} (ht : P.underlying t = some (.array n e)) (h : Rd P w t f ok) (ho : Value.okWide P w r b0 t v) (hv : DataW.Trod en P w base sp hd t v d p) : ∃ a, ok a ∧ PRel (full w) (.agg (f a)) v := by
  unfold Value.okWide at ho
  rw [ht] at ho
  obtain ⟨cs, rfl, _⟩ := ho
  obtain ⟨m, hm⟩ := hv
  obtain ⟨x, h1, h2⟩ := h _ _ _ _ _ _ _ _ hm
  exact ⟨x, h1, agg_of h2⟩
theorem Ps.cons {S : Snap} {p : PV} {v : Value} {ps : List PV} {vs : List Value} (h : PRel S p v) (k : Ps S ps vs) : Ps S (p :: ps) (v :: vs) := (Ps.one h).append k
/-- An array of two. -/
theorem Rd.arr2 {α : Type} {e : TypeId} {sz : Nat} {f : α → List PV} {ok : α → Prop} (ht : P.underlying t = some (.array 2 e)) (hc : P.cellsOf e = sz) (hs : P.cellsOf t = 2 * sz) (hr : Rd P w e f ok) : Rd P w t (fun x : α × α => f x.1 ++ f x.2) fun x => ok x.1 ∧ ok x.2 := by
  intro H en base sp hd fuel cs x h
  obtain ⟨xs, m, _, rfl, hl, hlen, hfl⟩ := DataW.trod_array ht h
  have get : ∀ i, i < 2 → ∃ a, ok a ∧ Ps (full w) (f a) ((cs.drop (i * sz)).take sz) := fun i hi => by
    have h0 := hfl i hi
    rw [hc, List.getElem?_eq_getElem (by omega)] at h0
    exact hr _ _ _ _ _ _ _ _ h0
  obtain ⟨a, ha, ha2⟩ := get 0 (by omega)
  obtain ⟨b, hb, hb2⟩ := get 1 (by omega)
  refine ⟨(a, b), ⟨ha, hb⟩, ?_⟩
  have := ha2.append hb2
  have e : (cs.drop (0 * sz)).take sz ++ (cs.drop (1 * sz)).take sz = cs := by
    apply List.ext_getElem?
    intro i
    simp only [Nat.zero_mul, List.drop_zero, Nat.one_mul]
    have l0 : (cs.take sz).length = sz := by simp; omega
    by_cases h1 : i < sz
    · rw [List.getElem?_append_left (by omega), List.getElem?_take, if_pos h1]
    · rw [List.getElem?_append_right (by omega), l0]
      by_cases h2 : i - sz < sz
      · rw [List.getElem?_take, if_pos h2, List.getElem?_drop]; congr 1; omega
      · rw [List.getElem?_take, if_neg h2, List.getElem?_eq_none (by omega)]
  rwa [e] at this
end Go.Abs
namespace Go.Proofs.YtnonjaonklngpaaDoor
open Go Go.Abs Go.ChangeShapes Go.WideShapes Go.RowKit Go.Proofs
set_option maxRecDepth 100000
set_option linter.unusedVariables false

theorem own : ownKnob Tryd.prog.godebug = none := by kernel_rfl
theorem outB : laidOutB Tryd.prog = true := by kernel_rfl

/-- THE WITNESS's WORLD: the settled world, the two variables holding what their text lays. -/
noncomputable def laidWorld (os : Os) : World :=
  let w0 := World.holding Tryd.prog os ⟨#[], #[], []⟩
  let put (h : Array Obj) (g : Nat) (cs : Array Value) : Array Obj := h.modify g fun
    | .cells _ t frozen => .cells cs t frozen
    | o => o
  let h1 := put w0.heap 1 (Lib.firstTab.map fun z => Value.int .u8 z).toArray
  let h2 := put h1 2 ((List.range 16).flatMap fun i => [Value.int .u8 (Lib.accLo i), Value.int .u8 (Lib.accHi i)]).toArray
  { w0 with heap := h2 }
def laidL : List (String × DataW Unit) := [("unicode/utf8.acceptRanges", Rows.laid_unicode_utf8_acceptRanges), ("unicode/utf8.first", Rows.laid_unicode_utf8_first)]
theorem laid_met (os : Os) (args : Array Value) : laidMet Tryd.prog laidL ((laidWorld os).forCall (fun _ _ => 0) ⟨#[], args, []⟩).memory :=
  (LaidIn.of_run (l := laidL) [1, 2] 8 (by kernel_rfl) (by kernel_rfl) (by kernel_rfl) (by kernel_rfl)).met
theorem laid_metH (os : Os) (args : Array Value) : laidMetH Tryd.prog laidL ((laidWorld os).forCall (fun _ _ => 0) ⟨#[], args, []⟩).memory := by
  have e : (laidL.filter fun x => x.2.handleName?.isSome) = [] := by kernel_rfl
  unfold laidMetH
  rw [e]
  exact laid_met os args

/-- The arguments of a law that returns true: they read behind the call as they did. -/
theorem args_stay {H : Type} {enc : TypeId × Value → H} {W W' : World} (hb : Below W.heap.size W W') : ∀ {ts : List TypeId} {vs : List Value} {ds : List (DataW H)} {ps : List MemPlace},
    (∀ t ∈ ts, Tryd.prog.readableRec t = true ∧ t < Tryd.prog.types.size) → DataW.TrodAll enc Tryd.prog W 0 (fun _ => true) true ts vs ds ps → (∀ x ∈ ps, x.block < W.heap.size) → DataW.TrodAll enc Tryd.prog W' 0 (fun b => decide (b < W.heap.size)) true ts vs ds ps
  | [], vs, ds, ps, _, h, _ => by
    obtain ⟨rfl, rfl, rfl⟩ := trodAll_nil h
    exact trodAll_mk0
  | t :: ts, vs, ds, ps, ht, h, hlt => by
    obtain ⟨v, vs', d, ds', p, q, rfl, rfl, rfl, h1, h2⟩ := trodAll_cons h
    refine trodAll_cons_mk ?_ ?_
    · exact Below.trod outB (ht t (by simp)).1 (ht t (by simp)).2 h1 hb fun x hx => hlt x (by simp [hx])
    · exact args_stay hb (fun t' h' => ht t' (by simp [h'])) h2 fun x hx => hlt x (by simp [hx])
theorem keep_below {W W' : World} (h : Keep W W') : Below W.heap.size W W' := ⟨h.os, h.tape, h.output, h.size, h.heap⟩

/-- The step of a law's row: whatever reads as its parameters, the call returns true. -/
theorem law_step {H : Type} {enc : TypeId × Value → H} {fn : Func} {spec : ChangeSpec} {W : World} {args : Array Value} {ds gs : List (DataW H)} {before : List MemPlace} {f : FuncId} {ps : List PV}
    (hvars : spec.vars = []) (hfn : fn.resultTypes = #[4]) (hW : DataW.Whole enc Tryd.prog fn.params.toList spec.vars false W args.toList ds gs before)
    (hspec : spec.fn H (ds ++ []) = { results := [.lit (.bool true)], args := ds })
    (hread : ∀ t ∈ fn.params.toList, Tryd.prog.readableRec t = true ∧ t < Tryd.prog.types.size)
    (hb : Best Tryd.prog f ps (.p (.bool true))) (hps : Ps (full W) ps args.toList) :
    Calls Tryd.prog f args W fun e W' => ∃ v, e = .returned v ∧ spec.post enc Tryd.prog fn false true false false W args v W' := by
  have hc := hb.2 (full W) W args.toList (fun a v h => h) hps
  rw [Array.toArray_toList] at hc
  refine hc.mono ?_
  rintro e W' ⟨x, S', rfl, hk, _, _, _, hres⟩
  have hx : x = .bool true := by
    cases hres; rfl
  subst hx
  have hW' := hW
  obtain ⟨p, q, hA, hV, rfl, _, _⟩ := hW
  rw [hvars] at hV
  obtain ⟨rfl, rfl⟩ := trodVars_none hV
  have hbel := keep_below hk
  refine ⟨_, rfl, ds, [], _, [], p, [], hW', ?_, ?_, ?_, hbel.frame _, fun h => by cases h⟩
  · rw [hspec, hfn]
    exact trodAll_mk1 (shut_bool Tryd.underlying4 true)
  · rw [hspec]
    exact args_stay hbel hread hA fun y hy => hW'.lt y (by simp [hy])
  · rw [hspec, hvars]; rfl
end Go.Proofs.YtnonjaonklngpaaDoor
namespace Go.Proofs.YtnonjaonklngpaaDoor
open Go Go.Abs Go.ChangeShapes Go.WideShapes Go.RowKit Go.Proofs Go.Abs.A09
set_option maxRecDepth 100000
set_option linter.unusedVariables false

theorem Rd.to {P : Program} {w : World} {t : TypeId} {α β : Type} {f : α → List PV} {g : β → List PV} {ok : α → Prop} {ok' : β → Prop} (h : α → β) (hf : ∀ a, ok a → f a = g (h a)) (hk : ∀ a, ok a → ok' (h a)) (r : Rd P w t f ok) : Rd P w t g ok' := by
  intro H en base sp hd fuel cs x hx
  obtain ⟨a, ha, h2⟩ := r H en base sp hd fuel cs x hx
  exact ⟨h a, hk a ha, by rw [← hf a ha]; exact h2⟩
theorem wfR {n : Int} (h : (Lit.int .i64 n).wf = true) : R n := by
  simp [Lit.wf, IntKind.min, IntKind.max, IntKind.bits, IntKind.signed] at h
  exact ⟨by omega, by omega⟩
variable {w : World}
theorem rd_int : Rd Tryd.prog w 3 (fun n : Int => [.int .i64 n]) fun n => R n := Rd.to id (fun _ _ => rfl) (fun _ h => wfR h) (Rd.int Tryd.underlying3)
theorem rd_ints : Rd Tryd.prog w 25 (fun l : List Int => [.sl 1 (l.map intRow)]) fun l => (∀ a ∈ l, R a) ∧ l.length ≤ maxLen :=
  Rd.slice Tryd.underlying25 (by kernel_rfl) rd_int fun _ => rfl
theorem rd_tent : Rd Tryd.prog w 71 tRow fun _ => True := by
  have h : RdF Tryd.prog w [{ name := "From", type := 3, offset := 0, embedded := false, tag := "", pkgPath := "", byteOffset := 0 }, { name := "Peak", type := 3, offset := 1, embedded := false, tag := "", pkgPath := "", byteOffset := 8 }, { name := "To", type := 3, offset := 2, embedded := false, tag := "", pkgPath := "", byteOffset := 16 }] _ _ := (RdF.cons rd_int (RdF.cons rd_int (RdF.cons rd_int RdF.nil)))
  have k := Rd.struct (t := 71) Tryd.underlying71 (by kernel_rfl) h
  exact Rd.to (fun x : Int × Int × Int × Unit => ⟨x.1, x.2.1, x.2.2.1⟩) (fun _ _ => rfl) (fun _ _ => trivial) k
theorem rd_tents : Rd Tryd.prog w 40 (fun l : List T3 => [.sl 3 (l.map tRow)]) fun l => (∀ a ∈ l, True) ∧ l.length ≤ maxLen :=
  Rd.slice Tryd.underlying40 (by kernel_rfl) rd_tent fun _ => rfl
theorem rd_region : Rd Tryd.prog w 42 (fun l : List T3 => [.sl 3 (l.map tRow)]) fun l => (∀ a ∈ l, True) ∧ l.length ≤ maxLen :=
  Rd.struct1 Tryd.underlying42 rfl (by kernel_rfl) rd_tents
theorem rd_pair : Rd Tryd.prog w 30 pRow fun x => R x.1 ∧ R x.2 := Rd.to id (fun _ _ => rfl) (fun _ h => h) (Rd.arr2 Tryd.underlying30 (sz := 1) (by kernel_rfl) (by kernel_rfl) rd_int)
theorem rd_pairs : Rd Tryd.prog w 22 (fun l : List (Int × Int) => [.sl 2 (l.map pRow)]) fun l => (∀ x ∈ l, R x.1 ∧ R x.2) ∧ l.length ≤ maxLen :=
  Rd.slice Tryd.underlying22 (by kernel_rfl) rd_pair fun _ => rfl
theorem rd_grow : Rd Tryd.prog w 60 pRow fun x => R x.1 ∧ R x.2 := by
  have h : RdF Tryd.prog w [{ name := "Region", type := 3, offset := 0, embedded := false, tag := "", pkgPath := "", byteOffset := 0 }, { name := "By", type := 3, offset := 1, embedded := false, tag := "", pkgPath := "", byteOffset := 8 }] _ _ := (RdF.cons rd_int (RdF.cons rd_int RdF.nil))
  have k := Rd.struct (t := 60) Tryd.underlying60 (by kernel_rfl) h
  exact Rd.to (fun x : Int × Int × Unit => (x.1, x.2.1)) (fun _ _ => rfl) (fun _ h => ⟨h.1, h.2.1⟩) k
theorem rd_grows : Rd Tryd.prog w 53 (fun l : List (Int × Int) => [.sl 2 (l.map pRow)]) fun l => (∀ x ∈ l, R x.1 ∧ R x.2) ∧ l.length ≤ maxLen :=
  Rd.slice Tryd.underlying53 (by kernel_rfl) rd_grow fun _ => rfl
theorem rd_lists : Rd Tryd.prog w 54 (fun l : List (List Int) => [.sl 1 (l.map llRow)]) fun l => (∀ x ∈ l, (∀ a ∈ x, R a) ∧ x.length ≤ maxLen) ∧ l.length ≤ maxLen :=
  Rd.slice Tryd.underlying54 (by kernel_rfl) rd_ints fun _ => rfl
structure CsOk (c : Cs) : Prop where
  ax : c.ax < 256
  rg : c.rg.length ≤ maxLen
  at' : c.at'.length ≤ maxLen
  rn : c.rn.length ≤ maxLen
  wd : c.wd.length ≤ maxLen
  aR : ∀ a ∈ c.at', R a
  wR : ∀ a ∈ c.wd, R a
theorem rd_case : Rd Tryd.prog w 56 csC CsOk := by
  have h : RdF Tryd.prog w [{ name := "Regions", type := 54, offset := 0, embedded := false, tag := "", pkgPath := "", byteOffset := 0 }, { name := "At", type := 25, offset := 1, embedded := false, tag := "", pkgPath := "", byteOffset := 24 }, { name := "Ranges", type := 25, offset := 2, embedded := false, tag := "", pkgPath := "", byteOffset := 48 }, { name := "Wide", type := 25, offset := 3, embedded := false, tag := "", pkgPath := "", byteOffset := 72 }, { name := "Axes", type := 5, offset := 4, embedded := false, tag := "", pkgPath := "", byteOffset := 96 }] _ _ := (RdF.cons rd_lists (RdF.cons rd_ints (RdF.cons rd_ints (RdF.cons rd_ints (RdF.cons (Rd.int Tryd.underlying5) RdF.nil)))))
  have wf8 : ∀ {n : Int}, (Lit.int .u8 n).wf = true → 0 ≤ n ∧ n < 256 := fun h => by
    simp [Lit.wf, IntKind.min, IntKind.max, IntKind.bits, IntKind.signed] at h
    omega
  refine Rd.to (fun x => ⟨x.1, x.2.1, x.2.2.1, x.2.2.2.1, x.2.2.2.2.1.toNat⟩) (fun x hx => ?_) (fun x hx => ?_) (Rd.struct (t := 56) Tryd.underlying56 (by kernel_rfl) h)
  · obtain ⟨_, _, _, _, h5, _⟩ := hx
    have := wf8 h5
    simp only [csC, List.append_nil, List.cons_append, List.nil_append]
    rw [Int.toNat_of_nonneg this.1]
  · obtain ⟨h1, h2, h3, h4, h5, _⟩ := hx
    have := wf8 h5
    exact ⟨by show x.2.2.2.2.1.toNat < 256; omega, h1.2, h2.2, h3.2, h4.2, h2.1, h4.1⟩
theorem wf8N {n : Int} (h : (Lit.int .u8 n).wf = true) : 0 ≤ n ∧ n < 256 := by
  simp [Lit.wf, IntKind.min, IntKind.max, IntKind.bits, IntKind.signed] at h
  omega
theorem rd_u8 : Rd Tryd.prog w 5 (fun n : Nat => [.int .u8 n]) fun n => n < 256 :=
  Rd.to Int.toNat (fun n h => by have := wf8N h; rw [Int.toNat_of_nonneg this.1]) (fun n h => by have := wf8N h; omega) (Rd.int Tryd.underlying5)
theorem wf16 {n : Int} (h : (Lit.int .i16 n).wf = true) : -32768 ≤ n ∧ n ≤ 32767 := by
  simp [Lit.wf, IntKind.min, IntKind.max, IntKind.bits, IntKind.signed] at h
  omega
theorem rd_i16 : Rd Tryd.prog w 76 (fun n : Int => [.int .i16 n]) fun n => -32768 ≤ n ∧ n ≤ 32767 :=
  Rd.to id (fun _ _ => rfl) (fun n h => wf16 h) (Rd.int Tryd.underlying76)
theorem rd_grows2 : Rd Tryd.prog w 77 (fun x : List (Int × Int) × List (Int × Int) => [.sl 2 (x.1.map pRow), .sl 2 (x.2.map pRow)]) fun x => ((∀ y ∈ x.1, R y.1 ∧ R y.2) ∧ x.1.length ≤ maxLen) ∧ ((∀ y ∈ x.2, R y.1 ∧ R y.2) ∧ x.2.length ≤ maxLen) :=
  Rd.to id (fun _ _ => rfl) (fun _ h => h) (Rd.arr2 Tryd.underlying77 (sz := 1) (by kernel_rfl) (by kernel_rfl) rd_grows)
theorem rd_int3 : Rd Tryd.prog w 26 (fun x : Int × Int × Int => [.int .i64 x.1, .int .i64 x.2.1, .int .i64 x.2.2]) fun x => R x.1 ∧ R x.2.1 ∧ R x.2.2 :=
  Rd.to id (fun _ _ => rfl) (fun _ h => h) (Rd.arr3 Tryd.underlying26 (sz := 1) (by kernel_rfl) (by kernel_rfl) rd_int)
structure AxOk (a : Ax) : Prop where
  nm : a.nm.length ≤ maxLen
  lo : R a.lo
  df : R a.df
  hi : R a.hi
  m : a.m.length ≤ maxLen
  mR : ∀ x ∈ a.m, R x.1 ∧ R x.2
theorem rd_axis : Rd Tryd.prog w 24 axC AxOk := by
  have h : RdF Tryd.prog w [{ name := "Name", type := 9, offset := 0, embedded := false, tag := "", pkgPath := "", byteOffset := 0 }, { name := "Min", type := 3, offset := 1, embedded := false, tag := "", pkgPath := "", byteOffset := 16 }, { name := "Default", type := 3, offset := 2, embedded := false, tag := "", pkgPath := "", byteOffset := 24 }, { name := "Max", type := 3, offset := 3, embedded := false, tag := "", pkgPath := "", byteOffset := 32 }, { name := "Map", type := 22, offset := 4, embedded := false, tag := "", pkgPath := "", byteOffset := 40 }] _ _ := (RdF.cons (Rd.str Tryd.underlying9) (RdF.cons rd_int (RdF.cons rd_int (RdF.cons rd_int (RdF.cons rd_pairs RdF.nil)))))
  refine Rd.to (fun x => ⟨x.1.data.toList, x.2.1, x.2.2.1, x.2.2.2.1, x.2.2.2.2.1⟩) (fun x hx => ?_) (fun x hx => ?_) (Rd.struct (t := 24) Tryd.underlying24 (by kernel_rfl) h)
  · simp only [axC, List.append_nil, List.cons_append, List.nil_append, ← ba_eta]
  · obtain ⟨h1, h2, h3, h4, h5, _⟩ := hx
    exact ⟨by have := ba_size x.1.data.toList; rw [← ba_eta] at this; show x.1.data.toList.length ≤ maxLen; omega, h2, h3, h4, h5.2, h5.1⟩
end Go.Proofs.YtnonjaonklngpaaDoor
