/- A part of the proof: an abstract reading of the model, contracts of functions. -/
import Derived.Test.YtnonjaonklngpaaDoorC1
import Derived.RangeFuncLeaves
import Derived.RangeFuncNested
import Derived.OrdersIn
namespace Go.Abs
open Go
set_option linter.unusedSimpArgs false
set_option linter.unusedVariables false

/-! ### calls -/
/-- What a call gives: a value by content, or one that owns one new block. -/
inductive Res where
  | p (v : PV)
  | own (v : Slot → AV) (k : Blk)

/-- How a call's value lies behind it. -/
def ResAt (w : World) (S' : Snap) (w' : World) (x : Value) : Res → Prop
  | .p v => PRel S' v x
  | .own v k => ∃ r : Option (Nat × Nat), (∀ b t, r = some (b, t) → w.heap.size ≤ b ∧ ∀ a : Addr, a.block = b → S' a = none) ∧
      ∀ (ι : Inj) (s : Slot), ι s = r → AVRel ι S' (v s) x ∧ BRel ι S' w' s k

/-- What a call comes to, whatever memory it is made in. -/
def Best (P : Program) (f : FuncId) (args : List PV) (res : Res) : Prop :=
  (∃ fn, P.funcs[f]? = some fn ∧ fn.body.isSome = true ∧ (fn.name == "runtime.NumGoroutine") = false) ∧
  ∀ (S : Snap) (w : World) (xs : List Value), S.holds w → Ps S args xs → Calls P f xs.toArray w fun e w' =>
    ∃ (x : Value) (S' : Snap), e = .returned x ∧ Keep w w' ∧ S.le S' ∧ S'.holds w' ∧ (∀ a v, S' a = some v → S a = some v ∨ w.heap.size ≤ a.block) ∧ ResAt w S' w' x res

mutual
def PV.flat : PV → Bool
  | .int _ _ | .bool _ | .str _ | .nsl | .nptr | .nfn | .nif => true
  | .agg cs => PV.flatL cs
  | .tup cs => PV.flatL cs
  | _ => false
def PV.flatL : List PV → Bool
  | [] => true
  | p :: l => p.flat && PV.flatL l
end

theorem PV.flatL_get : ∀ {l : List PV} {j : Nat} {p : PV}, PV.flatL l = true → l[j]? = some p → p.flat = true
  | [], _, _, _, h => by simp at h
  | x :: l, 0, p, h, e => by simp [PV.flatL] at h e; exact e ▸ h.1
  | x :: l, j + 1, p, h, e => by simp [PV.flatL] at h e; exact PV.flatL_get h.2 e

/-- A flat value needs nothing of memory. -/
theorem PRel.flat {S S' : Snap} {p : PV} {x : Value} (h : PRel S p x) (hf : p.flat = true) : PRel S' p x := by
  induction h with
  | int k n => exact .int k n
  | bool b => exact .bool b
  | str s => exact .str s
  | nsl => exact .nsl
  | sl size rows a cap f hcap hsz hcell hrel ih => simp [PV.flat] at hf
  | nptr => exact .nptr
  | ro cells a f hcell hrel ih => simp [PV.flat] at hf
  | nfn => exact .nfn
  | clo fn first captured fs cs hf' hc h1 h2 ih1 ih2 => simp [PV.flat] at hf
  | agg cells vs hl h ih => exact .agg cells vs hl fun j p v e1 e2 => ih j p v e1 e2 (PV.flatL_get (by simpa [PV.flat] using hf) e1)
  | tup cells vs hl h ih => exact .tup cells vs hl fun j p v e1 e2 => ih j p v e1 e2 (PV.flatL_get (by simpa [PV.flat] using hf) e1)
  | nif => exact .nif
  | ifc t p v h ih => simp [PV.flat] at hf

/-- Values of a frame by their content, for a call. -/
def FF.reify (F : FF) : Nat → AV → Option PV
  | _, .p v => some v
  | _, .ref s size off len => (F.rows size (.ref s size off len)).map (.sl size)
  | 0, _ => none
  | n + 1, .ptr s size row off => match F.blk s with
    | some (.sl _ sz rows) => if sz = size then (rows[row]?).map fun r => .ro (r.drop off) else none
    | some (.box cells) => if row = 0 then ((cells.drop off).mapM (FF.reify F n)).map .ro else none
    | none => none
  | n + 1, .agg cells => (cells.mapM (FF.reify F n)).map .agg
  | n + 1, .tup cells => (cells.mapM (FF.reify F n)).map .tup
  | n + 1, .clo fn first captured => match first.mapM (FF.reify F n), captured.mapM (FF.reify F n) with
    | some f, some c => some (.clo fn f c)
    | _, _ => none
  | _, .top => none

theorem mapM_some {α β : Type} {f : α → Option β} : ∀ {l : List α} {r : List β}, l.mapM f = some r → r.length = l.length ∧ ∀ (j : Nat) (b : β), r[j]? = some b → ∃ a, l[j]? = some a ∧ f a = some b
  | [], r, h => by simp at h; subst h; simp
  | x :: l, r, h => by
    simp only [List.mapM_cons, Option.bind_eq_bind, Option.bind_eq_some_iff, Option.pure_def, Option.some.injEq] at h
    obtain ⟨y, h1, ys, h2, rfl⟩ := h
    obtain ⟨h3, h4⟩ := mapM_some h2
    refine ⟨by simp [h3], fun j b e => ?_⟩
    cases j with
    | zero => simp at e; subst e; exact ⟨x, rfl, h1⟩
    | succ j => simp at e ⊢; exact h4 j b e

section
variable {P : Program} {N : Nat} {w0 : Base} {ι : Inj} {S : Snap} {F : FF} {a : Act} {w : World}

def full (w : World) : Snap := fun a => w.cell? a

theorem rows_T (h : St N w0 ι S F a w) {T : Snap} (hS : S.le T) (hT : ∀ s k b t, F.blk s = some k → ι s = some (b, t) → ∀ a : Addr, a.block = b → ∀ u, w.cell? a = some u → T a = some u) {x : AV} {v : Value} {size : Nat} {rows : List (List PV)} (hx : AVRel ι S x v) (e : F.rows size x = some rows) (hs : 0 < size ∨ ∃ s off len, x = .ref s size off len) : PRel T (.sl size rows) v := by
  unfold FF.rows at e
  split at e
  · simp at e; subst e
    cases hx.inv_p
    exact .sl size [] none 0 (fun _ _ => undef) (Nat.le_refl _) (by simp) (by simp) (by simp)
  · rename_i sz rows'
    split at e
    · rename_i hsz; subst hsz
      simp at e; subst e
      exact hx.inv_p.mono hS
    · simp at e
  · rename_i s sz off len
    split at e
    · rename_i e0 sz' rows' hb
      split at e
      · rename_i hc
        obtain ⟨rfl, rfl, hle⟩ := hc
        simp at e; subst e
        obtain ⟨hwf, hm⟩ := h.mem s _ hb
        have hget : ∀ i, ((rows'.drop off).take len)[i]? = if i < len then rows'[off + i]? else none := by
          intro i; simp [List.getElem?_take, List.getElem?_drop]
        have hlen : ((rows'.drop off).take len).length = len := by simp; omega
        have hwf' : ∀ (i : Nat) (row : List PV), ((rows'.drop off).take len)[i]? = some row → row.length = sz' := fun i row e1 => by
          rw [hget] at e1
          split at e1
          · exact hwf _ row e1
          · simp at e1
        cases hx with
        | ref _ _ _ _ b total cap p hi hct hl ha =>
          have hcell : ∀ (i : Nat) (row : List PV) (j : Nat) (pv : PV), ((rows'.drop off).take len)[i]? = some row → row[j]? = some pv → ∃ u, w.cell? (p.add (i * sz' + j)) = some u ∧ PRel S pv u := by
            intro i row j pv e1 e2
            have hlt : i < len := by have := (List.getElem?_eq_some_iff.1 e1).1; omega
            have hp : p = ⟨b, off * sz', none⟩ := by
              rcases ha with h0 | h0
              · omega
              · exact h0
            subst hp
            rw [hget, if_pos hlt] at e1
            rcases hm with ⟨q, _⟩ | ⟨b', t', e', c, q1, q2, q3, q4, q5, q6, q7⟩
            · rw [hi] at q; simp at q
            · rw [hi] at q1; simp at q1; obtain ⟨rfl, rfl⟩ := q1
              obtain ⟨u, u1, u2⟩ := q7 (off + i) j (.p pv) (by simp [Blk.cell, e1, e2])
              refine ⟨u, ?_, u2.inv_p⟩
              rw [addr_add, q2.cell, ← u1]
              congr 1
              simp only [Blk.size, Nat.add_mul, Nat.add_assoc]
          have hpb : ∀ (i : Nat) (row : List PV) (j : Nat) {pv : PV}, ((rows'.drop off).take len)[i]? = some row → row[j]? = some pv → p = ⟨b, off * sz', none⟩ := by
            intro i row j pv e1 e2
            have hlt : i < len := by have := (List.getElem?_eq_some_iff.1 e1).1; omega
            rcases ha with h0 | h0
            · omega
            · exact h0
          have := PRel.sl (S := T) sz' ((rows'.drop off).take len) (some p) cap (fun i j => (w.cell? (p.add (i * sz' + j))).getD undef) (by omega) hwf'
            (fun i row j pv e1 e2 => by
              obtain ⟨u, u1, _⟩ := hcell i row j pv e1 e2
              exact ⟨p, rfl, hT s _ b total hb hi _ (by rw [hpb i row j e1 e2, addr_add]) _ (by rw [u1]; rfl)⟩)
            (fun i row j pv e1 e2 => by
              obtain ⟨u, u1, u2⟩ := hcell i row j pv e1 e2
              simp only [u1, Option.getD_some]
              exact u2.mono hS)
          rw [hlen] at this
          exact this
        | refnil _ _ hi =>
          simp
          exact .sl sz' [] none 0 (fun _ _ => undef) (Nat.le_refl _) (by simp) (by simp) (by simp)
      · simp at e
    · simp at e
  · simp at e

theorem reify_T (h : St N w0 ι S F a w) {T : Snap} (hS : S.le T) (hT : ∀ s k b t, F.blk s = some k → ι s = some (b, t) → ∀ a : Addr, a.block = b → ∀ u, w.cell? a = some u → T a = some u) : ∀ (n : Nat) {v : AV} {p : PV} {x : Value}, F.reify n v = some p → AVRel ι S v x → PRel T p x := by
  have base : ∀ (n : Nat) {v : AV} {p : PV} {x : Value}, (∃ q, v = .p q) ∨ (∃ s size off len, v = .ref s size off len) → F.reify n v = some p → AVRel ι S v x → PRel T p x := by
    intro n v p x hv e hx
    rcases hv with ⟨q, rfl⟩ | ⟨s, size, off, len, rfl⟩
    · cases n <;> (simp only [FF.reify, Option.some.injEq] at e; subst e; exact hx.inv_p.mono hS)
    · have : (F.rows size (.ref s size off len)).map (PV.sl size) = some p := by cases n <;> simpa only [FF.reify] using e
      simp only [Option.map_eq_some_iff] at this
      obtain ⟨rows, h1, rfl⟩ := this
      exact rows_T h hS hT hx h1 (.inr ⟨s, off, len, rfl⟩)
  intro n
  induction n with
  | zero =>
    intro v p x e hx
    cases v with
    | p q => exact base 0 (.inl ⟨q, rfl⟩) e hx
    | ref s size off len => exact base 0 (.inr ⟨s, size, off, len, rfl⟩) e hx
    | _ => simp [FF.reify] at e
  | succ n ih =>
    have ihL : ∀ {vs : List AV} {ps : List PV} {xs : List Value}, vs.mapM (FF.reify F n) = some ps → Rs ι S vs xs → Ps T ps xs := by
      intro vs ps xs e hr
      obtain ⟨h1, h2⟩ := mapM_some e
      refine ⟨by rw [h1]; exact hr.1, fun j q u e1 e2 => ?_⟩
      obtain ⟨v, e3, e4⟩ := h2 j q e1
      exact ih e4 (hr.2 j v u e3 e2)
    intro v p x e hx
    cases v with
    | p q => exact base _ (.inl ⟨q, rfl⟩) e hx
    | ref s size off len => exact base _ (.inr ⟨s, size, off, len, rfl⟩) e hx
    | ptr s size row off =>
      simp only [FF.reify] at e
      cases hx with
      | ptr _ _ _ _ b total hi =>
        split at e
        · rename_i t sz rows hb
          split at e
          · rename_i hsz; subst hsz
            simp only [Option.map_eq_some_iff] at e
            obtain ⟨r, hr, rfl⟩ := e
            obtain ⟨hwf, hm⟩ := h.mem s _ hb
            rcases hm with ⟨q, _⟩ | ⟨b', t', e', c, q1, q2, q3, q4, q5, q6, q7⟩
            · rw [hi] at q; simp at q
            · rw [hi] at q1; simp at q1; obtain ⟨rfl, rfl⟩ := q1
              have hcell : ∀ (j : Nat) (pv : PV), (r.drop off)[j]? = some pv → ∃ u, w.cell? ((⟨b, row * sz + off, none⟩ : Addr).add j) = some u ∧ PRel S pv u := by
                intro j pv e1
                rw [List.getElem?_drop] at e1
                obtain ⟨u, u1, u2⟩ := q7 row (off + j) (.p pv) (by simp [Blk.cell, hr, e1])
                refine ⟨u, ?_, u2.inv_p⟩
                rw [addr_add, q2.cell, ← u1]
                simp only [Blk.size, Nat.add_assoc]
              exact .ro _ _ (fun j => (w.cell? ((⟨b, row * sz + off, none⟩ : Addr).add j)).getD undef) (fun j pv e1 => by obtain ⟨u, u1, _⟩ := hcell j pv e1; exact hT s _ b total hb hi _ (by rw [addr_add]) _ (by rw [u1]; rfl)) (fun j pv e1 => by
                obtain ⟨u, u1, u2⟩ := hcell j pv e1
                simp only [u1, Option.getD_some]; exact u2.mono hS)
          · simp at e
        · rename_i cells hb
          split at e
          · rename_i hrow; subst hrow
            simp only [Option.map_eq_some_iff] at e
            obtain ⟨ps, hps, rfl⟩ := e
            obtain ⟨h1, h2⟩ := mapM_some hps
            obtain ⟨hwf, hm⟩ := h.mem s _ hb
            rcases hm with ⟨q, _⟩ | ⟨b', t', e', c, q1, q2, q3, q4, q5, q6, q7⟩
            · rw [hi] at q; simp at q
            · rw [hi] at q1; simp at q1; obtain ⟨rfl, rfl⟩ := q1
              have hcell : ∀ (j : Nat) (pv : PV), ps[j]? = some pv → ∃ u, w.cell? ((⟨b, 0 * size + off, none⟩ : Addr).add j) = some u ∧ PRel T pv u := by
                intro j pv e1
                obtain ⟨v, e2, e3⟩ := h2 j pv e1
                rw [List.getElem?_drop] at e2
                obtain ⟨u, u1, u2⟩ := q7 0 (off + j) v (by simp [Blk.cell, e2])
                refine ⟨u, ?_, ih e3 u2⟩
                rw [addr_add, q2.cell, ← u1]
                simp only [Nat.zero_mul, Nat.zero_add]
              exact .ro _ _ (fun j => (w.cell? ((⟨b, 0 * size + off, none⟩ : Addr).add j)).getD undef) (fun j pv e1 => by obtain ⟨u, u1, _⟩ := hcell j pv e1; exact hT s _ b total hb hi _ (by rw [addr_add]) _ (by rw [u1]; rfl)) (fun j pv e1 => by
                obtain ⟨u, u1, u2⟩ := hcell j pv e1
                simp only [u1, Option.getD_some]; exact u2)
          · simp at e
        · simp at e
    | agg cells =>
      simp only [FF.reify, Option.map_eq_some_iff] at e
      obtain ⟨ps, hps, rfl⟩ := e
      cases hx with
      | agg _ vs hl hh => exact .agg ps vs (ihL hps ⟨hl, hh⟩).1 (ihL hps ⟨hl, hh⟩).2
    | tup cells =>
      simp only [FF.reify, Option.map_eq_some_iff] at e
      obtain ⟨ps, hps, rfl⟩ := e
      cases hx with
      | tup _ vs hl hh => exact .tup ps vs (ihL hps ⟨hl, hh⟩).1 (ihL hps ⟨hl, hh⟩).2
    | clo fn first captured =>
      simp only [FF.reify] at e
      split at e
      · rename_i f c h1 h2
        simp at e; subst e
        cases hx with
        | clo _ _ _ fs cs hf hc g1 g2 =>
          have r1 := ihL h1 ⟨hf, g1⟩
          have r2 := ihL h2 ⟨hc, g2⟩
          exact .clo fn f c fs cs r1.1 r2.1 r1.2 r2.2
      · simp at e
    | top => simp [FF.reify] at e

theorem reify_ok (h : St N w0 ι S F a w) (n : Nat) {v : AV} {p : PV} {x : Value} (e : F.reify n v = some p) (hx : AVRel ι S v x) : PRel (full w) p x :=
  reify_T h (fun a u q => h.snap a u q) (fun _ _ _ _ _ _ _ _ u q => q) n e hx

def FF.reifyL (F : FF) (vs : List AV) : Option (List PV) := vs.mapM (F.reify 4)

theorem reifyL_ok (h : St N w0 ι S F a w) {vs : List AV} {ps : List PV} {xs : List Value} (e : F.reifyL vs = some ps) (hr : Rs ι S vs xs) : Ps (full w) ps xs := by
  obtain ⟨h1, h2⟩ := mapM_some e
  refine ⟨by rw [h1]; exact hr.1, fun j q u e1 e2 => ?_⟩
  obtain ⟨v, e3, e4⟩ := h2 j q e1
  exact reify_ok h 4 e4 (hr.2 j v u e3 e2)

def Res.del (d : Nat) : Res → Del
  | .p v => ⟨.p v, [], []⟩
  | .own v k => ⟨v (d, 0), [((d, 0), k)], []⟩

/-- What is known behind a call. -/
def exCall (P : Program) (F : FF) (d : Nat) (f : FuncId) (vs : List AV) (δ : Del) : Prop :=
  (∃ ps r, allP vs = some ps ∧ Best P f ps r ∧ δ = r.del d) ∨ (∃ ps v, F.reifyL vs = some ps ∧ Best P f ps (.p v) ∧ v.flat = true ∧ δ = ⟨.p v, [], []⟩)

theorem exCall_ok (h : St N w0 ι S F a w) {d : Nat} {f : FuncId} {vs : List AV} {xs : List Value} {δ : Del} {dst : Option Nat} (hex : exCall P F d f vs δ) (hr : Rs ι S vs xs) (hd : ∀ s k, (s, k) ∈ δ.blks → F.noSlot s) (hdst : ∀ d, dst = some d → d < N) :
    (∃ fn, P.funcs[f]? = some fn ∧ fn.body.isSome = true ∧ (fn.name == "runtime.NumGoroutine") = false) ∧
    Calls P f xs.toArray w fun e w' => ∃ x ι' S', e = .returned x ∧ St N w0 ι' S' (F.app dst δ) (a.put dst x) w' := by
  rcases hex with ⟨ps, r, h1, h2, rfl⟩ | ⟨ps, v, h1, h2, h3, rfl⟩
  · refine ⟨h2.1, (h2.2 S w xs h.snap (hr.toPs h1)).mono ?_⟩
    rintro e w' ⟨x, S', rfl, hk, hS, hS', hnew, hres⟩
    cases r with
    | p v =>
      refine ⟨x, ι, S', rfl, ?_⟩
      have hst := h.step0 hk hS hS' hnew
      have := hst.put (dst := dst) (v := .p v) (x := x) (.p _ _ hres) hdst
      have e : F.app dst ⟨.p v, [], []⟩ = { F with var := fun t => if dst = some t then some (.p v) else F.var t } := by
        unfold FF.app; congr 1
      simp only [Res.del]
      rw [e]; exact this
    | own v k =>
      obtain ⟨r, hr1, hr2⟩ := hres
      have hns := hd (d, 0) k (by simp [Res.del])
      refine ⟨x, setι ι (d, 0) r, S', rfl, ?_⟩
      have hst := h.step (ι' := setι ι (d, 0) r) (d, 0) hk hS hS' hnew (fun s hs => setι_ne hs) hns
      obtain ⟨q1, q2⟩ := hr2 (setι ι (d, 0) r) (d, 0) setι_eq
      have hlay := hst.lay (d, 0) k q2 (fun b t q => by
        rw [setι_eq] at q
        refine ⟨Nat.le_trans h.keep.size (hr1 b t q).1, (hr1 b t q).2, fun s' k' g1 g2 b' t' g3 => ?_⟩
        rw [setι_ne g2] at g3
        rcases (h.mem s' k' g1).2 with ⟨q4, _⟩ | ⟨b2, t2, e2, c2, q4, q5, _⟩
        · rw [g3] at q4; simp at q4
        · rw [g3] at q4; simp at q4
          have := q5.lt
          have := (hr1 b t q).1
          omega)
      have := hlay.put (dst := dst) q1 hdst
      have e := FF.app_append (F := F) (dst := dst) (s := (d, 0)) (s1 := (d, 0)) (k := k) (v := v (d, 0)) (del := []) (by simp)
      simp only [Res.del]
      rw [e]
      simpa using this
  · refine ⟨h2.1, (h2.2 (full w) w xs (fun _ _ q => q) (reifyL_ok h h1 hr)).mono ?_⟩
    rintro e w' ⟨x, S', rfl, hk, hS, hS', hnew, hres⟩
    refine ⟨x, ι, S, rfl, ?_⟩
    have hst := h.step0 (S' := S) hk (fun _ _ q => q) (fun y v q => hk.cell (h.snap y v q)) (fun y v q => .inl q)
    have := hst.put (dst := dst) (v := .p v) (x := x) (.p _ _ (hres.flat h3)) hdst
    have e : F.app dst ⟨.p v, [], []⟩ = { F with var := fun t => if dst = some t then some (.p v) else F.var t } := by
      unfold FF.app; congr 1
    rw [e]; exact this
end
end Go.Abs
namespace Go.Abs
open Go
set_option linter.unusedSimpArgs false
set_option linter.unusedVariables false

/-! ### one operation -/
def evDel (F : FF) (d : Nat) (op : AOp) : Option Del :=
  match op with
  | .alloc z => (evN F d (.alloc z)).map fun x => ⟨x.1, [((d, 0), x.2)], []⟩
  | .box x => (evN F d (.box x)).map fun x => ⟨x.1, [((d, 0), x.2)], []⟩
  | .bslice e n l z ps => (evN F d (.bslice e n l z ps)).map fun x => ⟨x.1, [((d, 0), x.2)], []⟩
  | .mksl e n b z l c => (evN F d (.mksl e n b z l c)).map fun x => ⟨x.1, [((d, 0), x.2)], []⟩
  | .store n x v => (evS F (.store n x v)).map fun x => ⟨.top, [(x.1, x.2)], []⟩
  | .app e n b s x => (evA F d (.app e n b s x)).map fun x => ⟨x.1, [(x.2.1, x.2.2.1)], x.2.2.2⟩
  | op => (evV F op).map fun v => ⟨v, [], []⟩

def cloOf : AV → Option (FuncId × List AV × List AV)
  | .p (.clo (.func f) fi ca) => some (f, fi.map .p, ca.map .p)
  | .clo (.func f) fi ca => some (f, fi, ca)
  | _ => none

/-- What may be known behind an operation. -/
def exOp (P : Program) (F : FF) (d : Nat) (op : AOp) (δ : Del) : Prop :=
  match op with
  | .call f args => ∃ vs, F.vals args = some vs ∧ exCall P F d f vs δ
  | .callv x args => ∃ u vs f fi ca, F.val x = some u ∧ F.vals args = some vs ∧ cloOf u = some (f, fi, ca) ∧ exCall P F d f (fi ++ vs ++ ca) δ
  | op => evDel F d op = some δ

/-- The slots that it lays anew. -/
def newS (op : AOp) (δ : Del) : List Slot := match op with
  | .store _ _ _ => []
  | _ => δ.blks.map (·.1)

section
variable {P : Program} {N : Nat} {w0 : Base} {ι : Inj} {S : Snap} {F : FF} {a : Act} {w : World}

theorem FF.app_val {dst : Option Nat} {v : AV} : F.app dst ⟨v, [], []⟩ = { F with var := fun t => if dst = some t then some v else F.var t } := by
  unfold FF.app; congr 1

theorem exOp_ok (h : St N w0 ι S F a w) {o : Oper} {op : AOp} {d : Nat} {δ : Del} (hr : resolveOp P o.op = some op) (hex : exOp P F d op δ) (hf : ∀ s ∈ newS op δ, F.noSlot s) (hdst : ∀ d, o.dst = some d → d < N)
    {K : Act → World → Prop} {Q : Exit → Act → World → Prop} (hK : ∀ ι' S' a' w', St N w0 ι' S' (F.app o.dst δ) a' w' → K a' w') : o.wp P a w K Q := by
  have val : ∀ {x : Value} {w' : World} {ι' : Inj}, (execOp a.eval o).run P w = .ok (.value x) w' → St N w0 ι' S (F.app o.dst δ) (a.put o.dst x) w' → o.wp P a w K Q := by
    intro x w' ι' h1 h2
    unfold Oper.wp
    rw [h1]
    exact hK _ _ _ _ h2
  have skp : ∀ {w' : World} {ι' : Inj}, (execOp a.eval o).run P w = .ok .skip w' → St N w0 ι' S (F.app o.dst δ) (a.put o.dst undef) w' → o.wp P a w K Q := by
    intro w' ι' h1 h2
    unfold Oper.wp
    rw [h1]
    exact hK _ _ _ _ h2
  have isV : (evV F op).map (fun v => (⟨v, [], []⟩ : Del)) = some δ → o.wp P a w K Q := by
    intro hv
    simp only [Option.map_eq_some_iff] at hv
    obtain ⟨v, h1, rfl⟩ := hv
    obtain ⟨x, h2, h3⟩ := evV_ok h hr h1
    refine val (ι' := ι) h2 ?_
    rw [FF.app_val]
    exact h.put h3 hdst
  have isN : ∀ q, (evN F d op).map q = some δ → (∀ x, q x = ⟨x.1, [((d, 0), x.2)], []⟩) → newS op δ = δ.blks.map (·.1) → o.wp P a w K Q := by
    intro q hv hq hn
    simp only [Option.map_eq_some_iff] at hv
    obtain ⟨⟨v, k⟩, h1, rfl⟩ := hv
    rw [hq] at *
    obtain ⟨x, w', ι', h2, h3⟩ := evN_ok h hr h1 (hf (d, 0) (by rw [hn]; simp)) hdst
    exact val h2 h3
  have call : ∀ {f : FuncId} {vs : List AV} {xs : List Value}, exCall P F d f vs δ → Rs ι S vs xs → (∀ w', ((∃ fn, P.funcs[f]? = some fn ∧ fn.body.isSome = true ∧ (fn.name == "runtime.NumGoroutine") = false)) → (callFunc f xs.toArray).run P w' = .ok (.enter f xs.toArray) w') →
      (execOp a.eval o).run P w = (callFunc f xs.toArray).run P w → newS op δ = δ.blks.map (·.1) → o.wp P a w K Q := by
    intro f vs xs h1 h2 h3 h4 h5
    obtain ⟨q1, q2⟩ := exCall_ok h h1 h2 (dst := o.dst) (fun s k hs => hf s (by rw [h5]; exact List.mem_map.2 ⟨_, hs, rfl⟩)) hdst
    unfold Oper.wp
    rw [h4, h3 w q1]
    simp only [Oper.upon]
    refine q2.mono ?_
    rintro e w' ⟨x, ι', S', rfl, hst⟩
    exact hK _ _ _ _ hst
  have cf : ∀ {f : FuncId} {xs : List Value} (w' : World), (∃ fn, P.funcs[f]? = some fn ∧ fn.body.isSome = true ∧ (fn.name == "runtime.NumGoroutine") = false) → (callFunc f xs.toArray).run P w' = .ok (.enter f xs.toArray) w' := by
    rintro f xs w' ⟨fn, h1, h2, h3⟩
    have h4 : fn.body.isNone = false := by cases hb : fn.body <;> simp_all
    simp only [callFunc, Sem.run_bind, run_program, Result.andThen_ok, h1, h3, h4, Bool.false_eq_true, if_false, Sem.run_pure]
  cases op with
  | call f args =>
    obtain ⟨vs, h1, h2⟩ := hex
    have hop : ∃ c : Call, o.op = .call c ∧ c.callee = .value (.func f) ∧ rOs c.args.toList = some args := by
      cases hop : o.op with
      | call c =>
        obtain ⟨callee, cargs, argTypes⟩ := c
        simp only [hop, resolveOp, resolveCall] at hr
        split at hr
        · repeat' split at hr
          all_goals (try (simp at hr; done))
          simp only [Option.map_eq_some_iff, AOp.call.injEq] at hr
          obtain ⟨q, g1, rfl, rfl⟩ := hr
          exact ⟨_, rfl, rfl, g1⟩
        all_goals (repeat' split at hr)
        all_goals first
        | (simp at hr; done)
        | (simp only [Option.map_eq_some_iff] at hr; obtain ⟨q, h1, h2⟩ := hr; simp at h2; done)
      | slice t x lo hi mx =>
        exfalso
        cases mx with
        | some m => simp [hop, resolveOp] at hr
        | none =>
          simp only [hop, resolveOp] at hr
          repeat' split at hr
          all_goals (simp at hr; done)
      | _ =>
        exfalso
        simp only [hop, resolveOp] at hr
        first
        | (simp at hr; done)
        | (simp only [Option.map_eq_some_iff] at hr; obtain ⟨q, h1, h2⟩ := hr; simp at h2; done)
        | (repeat' split at hr
           all_goals first
           | (simp at hr; done)
           | (simp only [Option.map_eq_some_iff] at hr; obtain ⟨q, h1, h2⟩ := hr; simp at h2; done))
    obtain ⟨c, hop, hc, hargs⟩ := hop
    refine call h2 (h.vals hargs h1) cf ?_ rfl
    obtain ⟨callee, cargs, argTypes⟩ := c
    simp only at hc hargs
    subst hc
    have e1 : cargs.map a.eval = (cargs.toList.map a.eval).toArray := by apply Array.ext'; simp
    simp only [execOp, hop, resolve, Act.eval, Deferred.ofValue, Sem.run_bind, Sem.run_pure, Result.andThen_ok, invoke]
    rw [e1]
    simp
  | callv x args =>
    obtain ⟨u, vs, f, fi, ca, h1, h2, h3, h4⟩ := hex
    have hop : ∃ (c : Call) (g : Operand), o.op = .call c ∧ c.callee = .value g ∧ rO g = some x ∧ rOs c.args.toList = some args := by
      cases hop : o.op with
      | call c =>
        obtain ⟨callee, cargs, argTypes⟩ := c
        simp only [hop, resolveOp, resolveCall] at hr
        split at hr
        · repeat' split at hr
          all_goals first
          | (simp at hr; done)
          | (simp only [Option.map_eq_some_iff] at hr; obtain ⟨q, h1, h2⟩ := hr; simp at h2; done)
        · split at hr
          · rename_i g1 g2
            simp at hr
            obtain ⟨rfl, rfl⟩ := hr
            exact ⟨_, _, rfl, rfl, g1, g2⟩
          · simp at hr
        all_goals (repeat' split at hr)
        all_goals first
        | (simp at hr; done)
        | (simp only [Option.map_eq_some_iff] at hr; obtain ⟨q, h1, h2⟩ := hr; simp at h2; done)
      | slice t x lo hi mx =>
        exfalso
        cases mx with
        | some m => simp [hop, resolveOp] at hr
        | none =>
          simp only [hop, resolveOp] at hr
          repeat' split at hr
          all_goals (simp at hr; done)
      | _ =>
        exfalso
        simp only [hop, resolveOp] at hr
        first
        | (simp at hr; done)
        | (simp only [Option.map_eq_some_iff] at hr; obtain ⟨q, h1, h2⟩ := hr; simp at h2; done)
        | (repeat' split at hr
           all_goals first
           | (simp at hr; done)
           | (simp only [Option.map_eq_some_iff] at hr; obtain ⟨q, h1, h2⟩ := hr; simp at h2; done))
    obtain ⟨c, g, hop, hc, hg, hargs⟩ := hop
    have hrel := h.val hg h1
    have hclo : ∃ fs cs : List Value, a.eval g = .func (.func f) fs.toArray cs.toArray ∧ Rs ι S fi fs ∧ Rs ι S ca cs := by
      unfold cloOf at h3
      split at h3
      · simp at h3
        obtain ⟨rfl, rfl, rfl⟩ := h3
        have := hrel.inv_p
        generalize a.eval g = y at this
        cases this with
        | clo _ _ _ fs cs hf hc g1 g2 => exact ⟨fs, cs, rfl, Ps.toRs ⟨hf, g1⟩, Ps.toRs ⟨hc, g2⟩⟩
      · simp at h3
        obtain ⟨rfl, rfl, rfl⟩ := h3
        generalize a.eval g = y at hrel
        cases hrel with
        | clo _ _ _ fs cs hf hc g1 g2 => exact ⟨fs, cs, rfl, ⟨hf, g1⟩, ⟨hc, g2⟩⟩
      · simp at h3
    obtain ⟨fs, cs, e1, r1, r2⟩ := hclo
    have r3 := h.vals hargs h2
    have happ : ∀ {l1 l2 : List AV} {v1 v2 : List Value}, Rs ι S l1 v1 → Rs ι S l2 v2 → Rs ι S (l1 ++ l2) (v1 ++ v2) := by
      intro l1 l2 v1 v2 q1 q2
      refine ⟨by simp [q1.1, q2.1], fun j p v g1 g2 => ?_⟩
      rw [List.getElem?_append] at g1 g2
      have hl := q1.1
      by_cases hj : j < l1.length
      · rw [if_pos hj] at g1; rw [if_pos (by omega)] at g2; exact q1.2 j p v g1 g2
      · rw [if_neg hj] at g1; rw [if_neg (by omega), hl] at g2; exact q2.2 _ p v g1 g2
    refine call h4 (happ (happ r1 r3) r2) cf ?_ rfl
    obtain ⟨callee, cargs, argTypes⟩ := c
    simp only at hc hargs
    subst hc
    have e2 : cargs.map a.eval = (cargs.toList.map a.eval).toArray := by apply Array.ext'; simp
    simp only [execOp, hop, resolve, e1, Deferred.ofValue, Sem.run_bind, Sem.run_pure, Result.andThen_ok, invoke]
    rw [e2]
    simp
  | alloc z => exact isN (fun x => ⟨x.1, [((d, 0), x.2)], []⟩) hex (fun _ => rfl) rfl
  | box x => exact isN (fun x => ⟨x.1, [((d, 0), x.2)], []⟩) hex (fun _ => rfl) rfl
  | bslice e n l z ps => exact isN (fun x => ⟨x.1, [((d, 0), x.2)], []⟩) hex (fun _ => rfl) rfl
  | mksl e n b z l c => exact isN (fun x => ⟨x.1, [((d, 0), x.2)], []⟩) hex (fun _ => rfl) rfl
  | store n x v =>
    simp only [exOp, evDel, Option.map_eq_some_iff] at hex
    obtain ⟨⟨s, k⟩, h1, rfl⟩ := hex
    obtain ⟨w', h2, h3⟩ := evS_ok h hr h1 hdst
    exact skp h2 h3
  | app e n b s x =>
    simp only [exOp, evDel, Option.map_eq_some_iff] at hex
    obtain ⟨⟨v, s1, k, del⟩, h1, rfl⟩ := hex
    obtain ⟨x, w', ι', h2, h3⟩ := evA_ok h hr h1 (hf s1 (by simp [newS])) hdst
    exact val h2 h3
  | _ => exact isV hex

end
end Go.Abs
namespace Go.Abs
open Go
set_option linter.unusedSimpArgs false
set_option linter.unusedVariables false

/-! ### instructions, code -/
structure AB where
  dst : Option Nat
  op : AOp
  guard : Option (Nat × Bool)
  after : List Nat
  deriving Inhabited

/-- An instruction of a region that draws, with what is to be forgotten where it is met. -/
structure AI where
  b : AB
  drop : List Nat
  dropS : List Nat
  keys : List Nat
  na : List Nat
  pl : Nat
  deriving Inhabited

def afterOf (o : Oper) : List Nat := o.after.toList.filterMap fun e => if Region.binds .any e then some e.on else none

def dstOk (N : Nat) : Option Nat → Bool
  | some d => decide (d < N)
  | none => true

def resolveI (P : Program) (N : Nat) (ops : Array Oper) (o : Oper) : Option AB :=
  match resolveOp P o.op with
  | none => none
  | some op =>
    if dstOk N o.dst = true then
      match o.guard with
      | none => some ⟨o.dst, op, none, afterOf o⟩
      | some (j, want) => match (ops[j]?).bind (·.dst) with
        | some t => some ⟨o.dst, op, some (t, want), afterOf o⟩
        | none => none
    else none

def stepI (P : Program) (G : FF) (i : AB) (δ : Del) : Prop := match i.guard with
  | none => exOp P G (i.dst.getD 0) i.op δ
  | some (t, want) => (∃ b, G.var t = some (.p (.bool b)) ∧ (b = want → exOp P G (i.dst.getD 0) i.op δ) ∧ (b ≠ want → δ = ⟨.p (.tup []), [], []⟩)) ∨ (G.var t = some (.p (.tup [])) ∧ δ = ⟨.p (.tup []), [], []⟩)

section
variable {P : Program} {N : Nat} {w0 : Base} {ι : Inj} {S : Snap} {F : FF} {a : Act} {w : World}

theorem stepI_ok (h : St N w0 ι S F a w) {ops : Array Oper} {k : Nat} {o : Oper} {i : AB} {δ : Del} (hi : ops[k]? = some o) (hr : resolveI P N ops o = some i) (hs : stepI P F i δ) (hf : ∀ s ∈ newS i.op δ, F.noSlot s)
    {K : Act → World → Prop} {Q : Exit → Act → World → Prop} (hK : ∀ ι' S' a' w', St N w0 ι' S' (F.app i.dst δ) a' w' → K a' w') : wpOp P ops Q k K a w := by
  have hop : ∃ op, resolveOp P o.op = some op ∧ i.op = op ∧ i.dst = o.dst ∧ (∀ d, o.dst = some d → d < N) ∧ ((o.guard = none ∧ i.guard = none) ∨ ∃ j want t, o.guard = some (j, want) ∧ (ops[j]?).bind (·.dst) = some t ∧ i.guard = some (t, want)) := by
    unfold resolveI at hr
    split at hr
    · simp at hr
    · rename_i op h1
      split at hr
      · rename_i h2
        have hd : ∀ d, o.dst = some d → d < N := by
          intro d hd; rw [hd] at h2; simpa [dstOk] using h2
        split at hr
        · rename_i h3; simp at hr; subst hr; exact ⟨op, h1, rfl, rfl, hd, .inl ⟨h3, rfl⟩⟩
        · rename_i j want h3
          split at hr
          · rename_i t h4; simp at hr; subst hr; exact ⟨op, h1, rfl, rfl, hd, .inr ⟨j, want, t, h3, h4, rfl⟩⟩
          · simp at hr
      · simp at hr
  obtain ⟨op, h1, rfl, h2, h3, h4⟩ := hop
  have run : exOp P F (i.dst.getD 0) i.op δ → o.wp P a w K Q := fun hex => exOp_ok h h1 hex hf h3 (by rw [h2] at hK; exact hK)
  unfold wpOp
  rw [hi]
  simp only
  unfold stepI at hs
  rcases h4 with ⟨g1, g2⟩ | ⟨j, want, t, g1, g2, g3⟩
  · rw [g2] at hs
    have : Region.wanted o (yielded ops a.tmps) = true := by simp [Region.wanted, g1]
    rw [if_pos this]
    exact .inl (run hs)
  · rw [g3] at hs
    rcases hs with ⟨b, q1, q2, q3⟩ | ⟨q1, rfl⟩
    rotate_left
    · obtain ⟨x, q4, q5⟩ := h.vars t _ q1
      have hx : ∃ vs : List Value, x = .tuple vs.toArray := by
        cases q5 with
        | p v x hp => cases hp with
          | tup cells vs hl hh => exact ⟨vs, rfl⟩
      obtain ⟨vs, rfl⟩ := hx
      have hy : yielded ops a.tmps j = none := by simp [yielded, g2, q4]
      have hw : Region.wanted o (yielded ops a.tmps) = false := by
        simp only [Region.wanted, g1, hy]; rfl
      rw [hw]
      simp only [Bool.false_eq_true, if_false]
      refine hK ι S _ w ?_
      rw [FF.app_val, h2]
      exact h.put (.p _ _ (.tup [] [] rfl (by simp))) h3
    obtain ⟨x, q4, q5⟩ := h.vars t _ q1
    obtain rfl := inv_bool q5
    have hy : yielded ops a.tmps j = some b := by simp [yielded, g2, q4]
    have hw : Region.wanted o (yielded ops a.tmps) = (b == want) := by
      simp only [Region.wanted, g1, hy]
      cases b <;> cases want <;> rfl
    rw [hw]
    by_cases hb : b = want
    · subst hb
      simp only [beq_self_eq_true, if_true]
      exact .inl (run (q2 rfl))
    · have : (b == want) = false := by cases b <;> cases want <;> simp_all
      rw [this]
      simp only [Bool.false_eq_true, if_false]
      have hδ := q3 hb
      subst hδ
      refine hK ι S _ w ?_
      rw [FF.app_val, h2]
      exact h.put (.p _ _ (.tup [] [] rfl (by simp))) h3
end

/-! #### a region in the order of the text -/
/-- What is to be shown where a call stands. -/
def callK (P : Program) (G : FF) (d : Nat) (f : FuncId) (vs : List AV) (ok : Del → Bool) (K : Del → Prop) : Prop := ∃ δ, exCall P G d f vs δ ∧ ok δ = true ∧ K δ

def awpStep (P : Program) (G : FF) (i : AB) (ok : Del → Bool) (K : Del → Prop) : Prop :=
  match i.op with
  | .call f args => match G.vals args with
    | some vs => callK P G (i.dst.getD 0) f vs ok K
    | none => False
  | .callv x args => match G.val x, G.vals args with
    | some u, some vs => match cloOf u with
      | some (f, fi, ca) => callK P G (i.dst.getD 0) f (fi ++ vs ++ ca) ok K
      | none => False
    | _, _ => False
  | op => match evDel G (i.dst.getD 0) op with
    | some δ => ok δ = true ∧ K δ
    | none => False

def awpI (P : Program) (G : FF) (i : AB) (ok : Del → Bool) (K : Del → Prop) : Prop :=
  match i.guard with
  | none => awpStep P G i ok K
  | some (t, want) => match G.var t with
    | some (.p (.bool b)) => (b = want → awpStep P G i ok K) ∧ (b ≠ want → K ⟨.p (.tup []), [], []⟩)
    | some (.p (.tup [])) => K ⟨.p (.tup []), [], []⟩
    | _ => False

theorem awpStep_ex {P : Program} {G : FF} {i : AB} {ok : Del → Bool} {K : Del → Prop} (h : awpStep P G i ok K) : ∃ δ, exOp P G (i.dst.getD 0) i.op δ ∧ ok δ = true ∧ K δ := by
  unfold awpStep at h
  split at h
  · rename_i f args hop
    split at h
    · rename_i vs h1
      obtain ⟨δ, h2, h3, h4⟩ := h
      exact ⟨δ, by rw [hop]; exact ⟨vs, h1, h2⟩, h3, h4⟩
    · exact h.elim
  · rename_i x args hop
    split at h
    · rename_i u vs h1 h2
      split at h
      · rename_i f fi ca h3
        obtain ⟨δ, h4, h5, h6⟩ := h
        exact ⟨δ, by rw [hop]; exact ⟨u, vs, f, fi, ca, h1, h2, h3, h4⟩, h5, h6⟩
      · exact h.elim
    · exact h.elim
  · rename_i h1 h2
    split at h
    · rename_i δ hδ
      refine ⟨δ, ?_, h.1, h.2⟩
      generalize i.op = op at *
      cases op <;> first | exact hδ | exact absurd rfl (h1 _ _) | exact absurd rfl (h2 _ _)
    · exact h.elim

theorem awpI_ex {P : Program} {G : FF} {i : AB} {ok : Del → Bool} {K : Del → Prop} (h : awpI P G i ok K) : ∃ δ, stepI P G i δ ∧ (ok δ = true ∨ δ = ⟨.p (.tup []), [], []⟩) ∧ K δ := by
  unfold awpI at h
  split at h
  · rename_i hg
    obtain ⟨δ, h1, h2, h3⟩ := awpStep_ex h
    exact ⟨δ, by unfold stepI; rw [hg]; exact h1, .inl h2, h3⟩
  · rename_i t want hg
    split at h
    · rename_i b hb
      by_cases hw : b = want
      · obtain ⟨δ, h1, h2, h3⟩ := awpStep_ex (h.1 hw)
        exact ⟨δ, by unfold stepI; rw [hg]; exact .inl ⟨b, hb, fun _ => h1, fun q => absurd hw q⟩, .inl h2, h3⟩
      · exact ⟨_, by unfold stepI; rw [hg]; exact .inl ⟨b, hb, fun q => absurd q hw, fun _ => rfl⟩, .inr rfl, h.2 hw⟩
    · rename_i hb
      exact ⟨_, by unfold stepI; rw [hg]; exact .inr ⟨hb, rfl⟩, .inr rfl, h⟩
    · exact h.elim

def freshB (F : Fr) (op : AOp) (δ : Del) : Bool := (newS op δ).all fun s => F.noSlot s

def awpR (P : Program) : List AB → (Fr → Prop) → Fr → Prop
  | [], K, F => K F
  | i :: l, K, F => awpI P F.ff i (freshB F i.op) fun δ => awpR P l K (F.app i.dst δ)

theorem fresh_ok {F : Fr} {op : AOp} {δ : Del} (h : freshB F op δ = true ∨ δ = ⟨.p (.tup []), [], []⟩) : ∀ s ∈ newS op δ, F.ff.noSlot s := by
  intro s hs
  rcases h with h | rfl
  · exact Fr.noSlot_ff (List.all_eq_true.1 h s hs)
  · cases op <;> simp [newS] at hs

theorem awpR_ok {P : Program} {N : Nat} {w0 : Base} {ops : Array Oper} {Q : Exit → Act → World → Prop} {K : Fr → Prop} : ∀ (l : List AB) (k : Nat) (F : Fr) (ι : Inj) (S : Snap) (a : Act) (w : World),
    (∀ j i, l[j]? = some i → ∃ o, ops[k + j]? = some o ∧ resolveI P N ops o = some i) → awpR P l K F → St N w0 ι S F.ff a w →
    (∀ F' ι' S' a' w', K F' → St N w0 ι' S' F'.ff a' w' → Q .normal a' w') → wpOps P ops Q (List.range' k l.length) a w
  | [], k, F, ι, S, a, w, hl, h, hst, hQ => by
    simp only [List.length_nil, List.range'_zero, wpOps]
    exact hQ F ι S a w h hst
  | i :: l, k, F, ι, S, a, w, hl, h, hst, hQ => by
    obtain ⟨o, h1, h2⟩ := hl 0 i rfl
    obtain ⟨δ, h3, h4, h5⟩ := awpI_ex h
    simp only [List.length_cons, List.range'_succ, wpOps_cons]
    refine stepI_ok hst h1 h2 h3 (fresh_ok h4) fun ι' S' a' w' hst' => ?_
    rw [← Fr.app_ff] at hst'
    exact awpR_ok l (k + 1) _ ι' S' a' w' (fun j i' hj => by
      obtain ⟨o', g1, g2⟩ := hl (j + 1) i' (by simpa using hj)
      exact ⟨o', by rw [← g1]; congr 1; omega, g2⟩) h5 hst' hQ

/-! #### forgetting, and other turns of what is known -/
inductive Ghost where
  | keep (vs : List Nat)
  | own (t d : Nat) (e : TypeId) (size : Nat)
  | freeze (s : Slot)
  | ren (s s' : Slot)
  deriving Inhabited

mutual
/-- References to a slot read by their content. -/
def AV.fz (s : Slot) (sz : Nat) (rows : List (List PV)) : AV → AV
  | .ref s' size off len => if s' = s then (if size = sz ∧ off + len ≤ rows.length then .p (.sl size ((rows.drop off).take len)) else .top) else .ref s' size off len
  | .ptr s' size row off => if s' = s then .top else .ptr s' size row off
  | .agg cs => mkAgg (AV.fzL s sz rows cs)
  | .tup cs => mkTup (AV.fzL s sz rows cs)
  | .clo fn f c => .clo fn (AV.fzL s sz rows f) (AV.fzL s sz rows c)
  | .p v => .p v
  | .top => .top
def AV.fzL (s : Slot) (sz : Nat) (rows : List (List PV)) : List AV → List AV
  | [] => []
  | v :: l => v.fz s sz rows :: AV.fzL s sz rows l
end

def Blk.fz (s : Slot) (sz : Nat) (rows : List (List PV)) : Blk → Blk
  | .box cells => .box (AV.fzL s sz rows cells)
  | k => k

mutual
/-- Another name for a slot. -/
def AV.rn (s s' : Slot) : AV → AV
  | .ref t size off len => .ref (if t = s then s' else t) size off len
  | .ptr t size row off => .ptr (if t = s then s' else t) size row off
  | .agg cs => .agg (AV.rnL s s' cs)
  | .tup cs => .tup (AV.rnL s s' cs)
  | .clo fn f c => .clo fn (AV.rnL s s' f) (AV.rnL s s' c)
  | .p v => .p v
  | .top => .top
def AV.rnL (s s' : Slot) : List AV → List AV
  | [] => []
  | v :: l => v.rn s s' :: AV.rnL s s' l
end
def Blk.rn (s s' : Slot) : Blk → Blk
  | .box cells => .box (AV.rnL s s' cells)
  | k => k

/-- Is the slot spoken of by what is kept, or by another block? -/
def Fr.spoken (F : Fr) (vs : List (Nat × AV)) (s : Slot) : Bool := vs.any (fun y => !(y.2.noSlot s)) || F.mem.any (fun y => !(y.2.noSlot s))

/-- Blocks in order, each once. -/
def insM (s : Slot) (k : Blk) : List (Slot × Blk) → List (Slot × Blk)
  | [] => [(s, k)]
  | x :: l => if x.1 = s then (s, k) :: l else if s.1 < x.1.1 ∨ (s.1 = x.1.1 ∧ s.2 < x.1.2) then (s, k) :: x :: l else x :: insM s k l
def normM : List (Slot × Blk) → List (Slot × Blk)
  | [] => []
  | x :: l => insM x.1 x.2 (normM l)
theorem look_insM {s s' : Slot} {k : Blk} : ∀ {l : List (Slot × Blk)}, look s' (insM s k l) = if s' = s then some k else look s' l
  | [] => by simp [insM, look]
  | (s1, k1) :: l => by
    simp only [insM]
    by_cases h1 : s1 = s
    · subst h1
      simp only [if_true, look]
      split <;> rfl
    · rw [if_neg h1]
      split
      · simp [look]
      · simp only [look]
        rw [look_insM (l := l)]
        by_cases h2 : s' = s1
        · subst h2; simp [h1]
        · simp [h2]
theorem look_normM {s : Slot} : ∀ {l : List (Slot × Blk)}, look s (normM l) = look s l
  | [] => rfl
  | (s1, k1) :: l => by
    simp only [normM, look_insM, look, look_normM (l := l)]

def Ghost.app : Ghost → Fr → Option Fr
  | .keep vs, F => some ⟨vs.filterMap fun t => (F.var t).map (t, ·), normM (F.mem.filter fun x => F.spoken (vs.filterMap fun t => (F.var t).map (t, ·)) x.1)⟩
  | .own t d e size, F => match F.var t with
    | some (.p .nsl) => if F.noSlot (d, 0) then some ⟨(t, .ref (d, 0) size 0 0) :: F.vars, ((d, 0), .sl e size []) :: F.mem⟩ else none
    | some (.ref s a b c) => some F
    | _ => none
  | .freeze s, F => match F.blk s with
    | some (.sl e sz rows) => some ⟨F.vars.map fun x => (x.1, x.2.fz s sz rows), (F.mem.filter fun x => decide (x.1 ≠ s)).map fun x => (x.1, x.2.fz s sz rows)⟩
    | _ => some F
  | .ren s s', F => if F.noSlot s then some F else if F.noSlot s' then some ⟨F.vars.map fun x => (x.1, x.2.rn s s'), F.mem.map fun x => (if x.1 = s then s' else x.1, x.2.rn s s')⟩ else none

theorem look_filterMap {κ α : Type} [DecidableEq κ] {f : κ → Option α} {k : κ} {v : α} : ∀ {l : List κ}, look k (l.filterMap fun t => (f t).map (t, ·)) = some v → f k = some v
  | [], h => by simp [look] at h
  | t :: l, h => by
    simp only [List.filterMap_cons] at h
    cases hf : f t with
    | none => simp [hf] at h; exact look_filterMap h
    | some u =>
      simp only [hf, Option.map_some, look] at h
      split at h
      · rename_i e; subst e; simp at h; subst h; exact hf
      · exact look_filterMap h

theorem look_map {κ α β : Type} [DecidableEq κ] {g : α → β} {k : κ} {v : β} : ∀ {l : List (κ × α)}, look k (l.map fun x => (x.1, g x.2)) = some v → ∃ u, look k l = some u ∧ g u = v
  | [], h => by simp [look] at h
  | (t, u) :: l, h => by
    simp only [List.map_cons, look] at h ⊢
    split at h
    · rename_i e; simp at h; exact ⟨u, by simp [e], h⟩
    · rename_i e; rw [if_neg e]; exact look_map h

section
variable {P : Program} {N : Nat} {w0 : Base} {ι : Inj} {S : Snap} {a : Act} {w : World}

theorem mkTup_rel {ι : Inj} {S : Snap} {cs : List AV} {vs : List Value} (h : Rs ι S cs vs) : AVRel ι S (mkTup cs) (.tuple vs.toArray) := by
  unfold mkTup
  split
  · rename_i ps e; exact .p _ _ (.tup ps vs (h.toPs e).1 (h.toPs e).2)
  · exact .tup cs vs h.1 h.2

theorem fzL_get {s : Slot} {sz : Nat} {rows : List (List PV)} : ∀ {l : List AV} {j : Nat} {v : AV}, (AV.fzL s sz rows l)[j]? = some v → ∃ u, l[j]? = some u ∧ v = u.fz s sz rows
  | [], j, v, h => by simp [AV.fzL] at h
  | x :: l, 0, v, h => by simp [AV.fzL] at h; exact ⟨x, rfl, h.symm⟩
  | x :: l, j + 1, v, h => by simp [AV.fzL] at h; simpa using fzL_get h
theorem fzL_len {s : Slot} {sz : Nat} {rows : List (List PV)} : ∀ {l : List AV}, (AV.fzL s sz rows l).length = l.length
  | [] => rfl
  | x :: l => by simp [AV.fzL, fzL_len]

theorem fz_rel {s : Slot} {e : TypeId} {sz : Nat} {rows : List (List PV)} {S' : Snap} (hS : S.le S') (hb : BRel ι S w s (.sl e sz rows)) (hS' : ∀ b t, ι s = some (b, t) → ∀ x : Addr, x.block = b → S' x = w.cell? x) {v : AV} {x : Value} (h : AVRel ι S v x) :
    AVRel ι S' (v.fz s sz rows) x := by
  induction h with
  | p v x hr => simp only [AV.fz]; exact .p _ _ (hr.mono hS)
  | ref s' size off len b total cap p hi hct hl ha =>
    simp only [AV.fz]
    by_cases hs : s' = s
    · subst hs
      rw [if_pos rfl]
      split
      · rename_i hc
        obtain ⟨rfl, hle⟩ := hc
        refine .p _ _ ?_
        obtain ⟨hwf, hm⟩ := hb
        have hget : ∀ i, ((rows.drop off).take len)[i]? = if i < len then rows[off + i]? else none := by
          intro i; simp [List.getElem?_take, List.getElem?_drop]
        have hlen : ((rows.drop off).take len).length = len := by simp; omega
        have hwf' : ∀ (i : Nat) (row : List PV), ((rows.drop off).take len)[i]? = some row → row.length = size := fun i row e1 => by
          rw [hget] at e1
          split at e1
          · exact hwf _ row e1
          · simp at e1
        have hcell : ∀ (i : Nat) (row : List PV) (j : Nat) (pv : PV), ((rows.drop off).take len)[i]? = some row → row[j]? = some pv → ∃ u, S' (p.add (i * size + j)) = some u ∧ PRel S' pv u := by
          intro i row j pv e1 e2
          have hlt : i < len := by have := (List.getElem?_eq_some_iff.1 e1).1; omega
          have hp : p = ⟨b, off * size, none⟩ := by
            rcases ha with h0 | h0
            · omega
            · exact h0
          subst hp
          rw [hget, if_pos hlt] at e1
          rcases hm with ⟨q, _⟩ | ⟨b', t', e', c, q1, q2, q3, q4, q5, q6, q7⟩
          · rw [hi] at q; simp at q
          · rw [hi] at q1; simp at q1; obtain ⟨rfl, rfl⟩ := q1
            obtain ⟨u, u1, u2⟩ := q7 (off + i) j (.p pv) (by simp [Blk.cell, e1, e2])
            refine ⟨u, ?_, u2.inv_p.mono hS⟩
            rw [hS' b total hi _ (by rw [addr_add]), addr_add, q2.cell, ← u1]
            congr 1
            simp only [Blk.size, Nat.add_mul, Nat.add_assoc]
        have := PRel.sl (S := S') size ((rows.drop off).take len) (some p) cap (fun i j => (S' (p.add (i * size + j))).getD undef) (by omega) hwf'
          (fun i row j pv e1 e2 => by
            obtain ⟨u, u1, _⟩ := hcell i row j pv e1 e2
            exact ⟨p, rfl, by rw [u1]; rfl⟩)
          (fun i row j pv e1 e2 => by
            obtain ⟨u, u1, u2⟩ := hcell i row j pv e1 e2
            simp only [u1, Option.getD_some]
            exact u2)
        rw [hlen] at this
        exact this
      · exact .top _
    · rw [if_neg hs]; exact .ref s' size off len b total cap p hi hct hl ha
  | refnil s' size hi =>
    simp only [AV.fz]
    by_cases hs : s' = s
    · subst hs
      rw [if_pos rfl]
      split
      · simp only [List.drop_zero, List.take_zero]
        exact .p _ _ (.sl size [] none 0 (fun _ _ => undef) (Nat.le_refl _) (by simp) (by simp) (by simp))
      · exact .top _
    · rw [if_neg hs]; exact .refnil s' size hi
  | ptr s' size row off b total hi =>
    simp only [AV.fz]
    by_cases hs : s' = s
    · rw [if_pos hs]; exact .top _
    · rw [if_neg hs]; exact .ptr s' size row off b total hi
  | agg cells vs hl h ih =>
    simp only [AV.fz]
    refine mkAgg_rel ⟨by rw [fzL_len]; exact hl, fun j p v e1 e2 => ?_⟩
    obtain ⟨u, e3, rfl⟩ := fzL_get e1
    exact ih j u v e3 e2
  | tup cells vs hl h ih =>
    simp only [AV.fz]
    refine mkTup_rel ⟨by rw [fzL_len]; exact hl, fun j p v e1 e2 => ?_⟩
    obtain ⟨u, e3, rfl⟩ := fzL_get e1
    exact ih j u v e3 e2
  | clo fn first captured fs cs hf hc h1 h2 ih1 ih2 =>
    simp only [AV.fz]
    refine .clo fn _ _ fs cs (by rw [fzL_len]; exact hf) (by rw [fzL_len]; exact hc) (fun j p v e1 e2 => ?_) (fun j p v e1 e2 => ?_)
    · obtain ⟨u, e3, rfl⟩ := fzL_get e1
      exact ih1 j u v e3 e2
    · obtain ⟨u, e3, rfl⟩ := fzL_get e1
      exact ih2 j u v e3 e2
  | top x => exact .top x

theorem rnL_get {s s' : Slot} : ∀ {l : List AV} {j : Nat} {v : AV}, (AV.rnL s s' l)[j]? = some v → ∃ u, l[j]? = some u ∧ v = u.rn s s'
  | [], j, v, h => by simp [AV.rnL] at h
  | x :: l, 0, v, h => by simp [AV.rnL] at h; exact ⟨x, rfl, h.symm⟩
  | x :: l, j + 1, v, h => by simp [AV.rnL] at h; simpa using rnL_get h
theorem rnL_len {s s' : Slot} : ∀ {l : List AV}, (AV.rnL s s' l).length = l.length
  | [] => rfl
  | x :: l => by simp [AV.rnL, rnL_len]
theorem rn_inj {s s' t : Slot} (ht : t ≠ s') {ι : Inj} : (if (if t = s then s' else t) = s' then ι s else ι (if t = s then s' else t)) = ι t := by
  by_cases h : t = s
  · subst h; simp
  · simp [h, ht]
theorem rn_rel {ι : Inj} {S : Snap} {s s' : Slot} {v : AV} {x : Value} (h : AVRel ι S v x) (hn : v.noSlot s' = true) : AVRel (fun r => if r = s' then ι s else ι r) S (v.rn s s') x := by
  induction h with
  | p v x h => exact .p v x h
  | ref t size off len b total cap a h1 hc hl ha => exact .ref _ size off len b total cap a (by rw [rn_inj (by simpa [AV.noSlot] using hn)]; exact h1) hc hl ha
  | refnil t size h1 => exact .refnil _ size (by rw [rn_inj (by simpa [AV.noSlot] using hn)]; exact h1)
  | ptr t size row off b total h1 => exact .ptr _ size row off b total (by rw [rn_inj (by simpa [AV.noSlot] using hn)]; exact h1)
  | agg cells vs hl h ih =>
    refine .agg _ vs (by rw [rnL_len]; exact hl) fun j p v e1 e2 => ?_
    obtain ⟨u, e3, rfl⟩ := rnL_get e1
    exact ih j u v e3 e2 (AV.noSlotL_get (by simpa [AV.noSlot] using hn) e3)
  | tup cells vs hl h ih =>
    refine .tup _ vs (by rw [rnL_len]; exact hl) fun j p v e1 e2 => ?_
    obtain ⟨u, e3, rfl⟩ := rnL_get e1
    exact ih j u v e3 e2 (AV.noSlotL_get (by simpa [AV.noSlot] using hn) e3)
  | clo fn first captured fs cs hf hc h1 h2 ih1 ih2 =>
    simp [AV.noSlot] at hn
    refine .clo fn _ _ fs cs (by rw [rnL_len]; exact hf) (by rw [rnL_len]; exact hc) (fun j p v e1 e2 => ?_) (fun j p v e1 e2 => ?_)
    · obtain ⟨u, e3, rfl⟩ := rnL_get e1
      exact ih1 j u v e3 e2 (AV.noSlotL_get hn.1 e3)
    · obtain ⟨u, e3, rfl⟩ := rnL_get e1
      exact ih2 j u v e3 e2 (AV.noSlotL_get hn.2 e3)
  | top x => exact .top x
theorem look_ren {s s' : Slot} {t : Slot} {k' : Blk} : ∀ {l : List (Slot × Blk)}, (∀ x ∈ l, x.1 ≠ s') → look t (l.map fun x => (if x.1 = s then s' else x.1, x.2.rn s s')) = some k' → ∃ r k, look r l = some k ∧ t = (if r = s then s' else r) ∧ k' = k.rn s s' ∧ r ≠ s'
  | [], _, h => by simp [look] at h
  | (r, k) :: l, hl, h => by
    simp only [List.map_cons, look] at h
    have hr := hl (r, k) (by simp)
    by_cases e : t = (if r = s then s' else r)
    · rw [if_pos e] at h; simp at h; exact ⟨r, k, by simp [look], e, h.symm, hr⟩
    · rw [if_neg e] at h
      obtain ⟨r', k1, h1, h2, h3, h4⟩ := look_ren (fun x hx => hl x (by simp [hx])) h
      refine ⟨r', k1, ?_, h2, h3, h4⟩
      simp only [look]
      rw [if_neg (fun e' => e (by rw [h2, e'])), h1]
theorem ghost_ok {g : Ghost} {F F' : Fr} (h : St N w0 ι S F.ff a w) (e : g.app F = some F') : ∃ ι' S', St N w0 ι' S' F'.ff a w := by
  cases g with
  | keep vs =>
    simp only [Ghost.app, Option.some.injEq] at e
    subst e
    refine ⟨ι, S, h.weaken ⟨fun t v q => look_filterMap (f := F.var) q, fun s k q => ?_⟩⟩
    have q' : look s (normM (F.mem.filter fun x => F.spoken (vs.filterMap fun t => (F.var t).map (t, ·)) x.1)) = some k := q
    rw [look_normM, look_filter (fun s => F.spoken (vs.filterMap fun t => (F.var t).map (t, ·)) s)] at q'
    split at q'
    · exact q'
    · simp at q'
  | own t d e0 size =>
    simp only [Ghost.app] at e
    split at e
    · rename_i hv
      split at e
      · rename_i hns
        simp only [Option.some.injEq] at e
        subst e
        obtain ⟨x, x1, x2⟩ := h.vars t _ hv
        have hx : x = .slice none 0 0 := by cases x2.inv_p; rfl
        subst hx
        have h1 := h.step (ι' := setι ι (d, 0) none) (d, 0) (Keep.refl w) (fun _ _ q => q) h.snap (fun x v q => .inl q) (fun s hs => setι_ne hs) (Fr.noSlot_ff hns)
        have h2 := h1.lay (d, 0) (.sl e0 size []) ⟨by intro i row q; simp at q, .inl ⟨setι_eq, rfl⟩⟩ (fun b t q => by rw [setι_eq] at q; simp at q)
        refine ⟨setι ι (d, 0) none, S, h2.nt, h2.df, h2.ob, h2.keep, h2.sle, h2.snew, h2.snap, fun t' v q => ?_, fun s k q => ?_, fun s k q => ?_, fun s s' k k' q q' => ?_⟩
        · have q' : (if t' = t then some (AV.ref (d, 0) size 0 0) else look t' F.vars) = some v := q
          split at q'
          · rename_i ht; subst ht; simp at q'; subst q'; exact ⟨_, x1, .refnil _ _ setι_eq⟩
          · exact h2.vars t' v q'
        · exact h2.mem s k (by have q' : (if s = (d, 0) then some (Blk.sl e0 size []) else look s F.mem) = some k := q; exact q')
        · exact h2.own s k (by have q' : (if s = (d, 0) then some (Blk.sl e0 size []) else look s F.mem) = some k := q; exact q')
        · exact h2.sep s s' k k' (by have q1 : (if s = (d, 0) then some (Blk.sl e0 size []) else look s F.mem) = some k := q; exact q1) (by have q1 : (if s' = (d, 0) then some (Blk.sl e0 size []) else look s' F.mem) = some k' := q'; exact q1)
      · simp at e
    · simp at e; subst e; exact ⟨ι, S, h⟩
    · simp at e
  | freeze s =>
    simp only [Ghost.app] at e
    split at e
    · rename_i t sz rows hb
      simp only [Option.some.injEq] at e
      subst e
      have hbr := h.mem s _ hb
      let S' : Snap := fun x => match ι s with
        | some (b, _) => if x.block = b then w.cell? x else S x
        | none => S x
      have hown := fun b t hi => (h.own s _ hb b t hi).2
      have hS : S.le S' := by
        intro x v q
        show (match ι s with | some (b, _) => if x.block = b then w.cell? x else S x | none => S x) = some v
        split
        · rename_i b t hi
          split
          · rename_i hx; rw [hown b t hi x hx] at q; simp at q
          · exact q
        · exact q
      have hS1 : ∀ b t, ι s = some (b, t) → ∀ x : Addr, x.block = b → S' x = w.cell? x := by
        intro b t hi x hx
        show (match ι s with | some (b, _) => if x.block = b then w.cell? x else S x | none => S x) = _
        rw [hi]; simp [hx]
      have hS2 : ∀ x v, S' x = some v → w.cell? x = some v := by
        intro x v q
        have q' : (match ι s with | some (b, _) => if x.block = b then w.cell? x else S x | none => S x) = some v := q
        split at q'
        · split at q'
          · exact q'
          · exact h.snap x v q'
        · exact h.snap x v q'
      have hS3 : ∀ x : Addr, (∀ b t, ι s = some (b, t) → x.block ≠ b) → S' x = S x := by
        intro x hx
        show (match ι s with | some (b, _) => if x.block = b then w.cell? x else S x | none => S x) = _
        split
        · rename_i b t hi; rw [if_neg (hx b t hi)]
        · rfl
      have hblk : ∀ (s' : Slot) (k' : Blk), look s' ((F.mem.filter fun x => decide (x.1 ≠ s)).map fun x => (x.1, x.2.fz s sz rows)) = some k' →
          s' ≠ s ∧ ∃ k, F.blk s' = some k ∧ k' = k.fz s sz rows := by
        intro s' k' q
        obtain ⟨k, q1, q2⟩ := look_map (g := fun k : Blk => k.fz s sz rows) q
        rw [look_filter (fun x => decide (x ≠ s))] at q1
        split at q1
        · rename_i hs; exact ⟨by simpa using hs, k, q1, q2.symm⟩
        · simp at q1
      have hS4 : ∀ x v, S' x = some v → w0.S x = some v ∨ w0.w.heap.size ≤ x.block := by
        intro x v q
        have q' : (match ι s with | some (b, _) => if x.block = b then w.cell? x else S x | none => S x) = some v := q
        split at q'
        · rename_i b t hi
          split at q'
          · rename_i hx; rw [hx]; exact .inr (h.own s _ hb b t hi).1
          · exact h.snew x v q'
        · exact h.snew x v q'
      refine ⟨ι, S', ⟨h.nt, h.df, h.ob, h.keep, fun x v q => hS x v (h.sle x v q), hS4, hS2, ?_, ?_, ?_, ?_⟩⟩
      · intro t v q
        obtain ⟨u, q1, q2⟩ := look_map (g := fun v : AV => v.fz s sz rows) q
        obtain ⟨x, x1, x2⟩ := h.vars t u q1
        exact ⟨x, x1, q2 ▸ fz_rel hS hbr hS1 x2⟩
      · intro s' k' q
        obtain ⟨hne, k, q1, rfl⟩ := hblk s' k' q
        obtain ⟨hwf, hm⟩ := h.mem s' k q1
        cases k with
        | sl e' sz' rows' =>
          exact ⟨hwf, hm.imp id fun ⟨b, total, t', c, e1, e2, e3, e4, e5, e6, e7⟩ => ⟨b, total, t', c, e1, e2, e3, e4, e5, e6, fun i j av q => let ⟨v, v1, v2⟩ := e7 i j av q; ⟨v, v1, v2.mono hS⟩⟩⟩
        | box cells =>
          refine ⟨trivial, hm.imp id fun ⟨b, total, t', c, e1, e2, e3, e4, e5, e6, e7⟩ => ⟨b, total, t', c, e1, e2, e3, by simpa [Blk.fz, Blk.size, fzL_len] using e4, e5, e6, fun i j av q => ?_⟩⟩
          simp only [Blk.fz, Blk.cell] at q
          split at q
          · rename_i hi0; subst hi0
            obtain ⟨u, u1, rfl⟩ := fzL_get q
            obtain ⟨v, v1, v2⟩ := e7 0 j u (by simp [Blk.cell, u1])
            exact ⟨v, by simpa using v1, fz_rel hS hbr hS1 v2⟩
          · simp at q
      · intro s' k' q b t hi
        obtain ⟨hne, k, q1, rfl⟩ := hblk s' k' q
        obtain ⟨g1, g2⟩ := h.own s' k q1 b t hi
        refine ⟨g1, fun x hx => ?_⟩
        rw [hS3 x (fun b' t' hi' => by rw [hx]; exact h.sep s' s k _ q1 hb hne b t b' t' hi hi')]
        exact g2 x hx
      · intro s1 s2 k1 k2 q1 q2 hne b t b' t' i1 i2
        obtain ⟨_, k1', g1, _⟩ := hblk s1 k1 q1
        obtain ⟨_, k2', g2, _⟩ := hblk s2 k2 q2
        exact h.sep s1 s2 k1' k2' g1 g2 hne b t b' t' i1 i2
    · simp only [Option.some.injEq] at e
      subst e
      exact ⟨ι, S, h⟩
  | ren s s' =>
    simp only [Ghost.app] at e
    split at e
    · simp only [Option.some.injEq] at e
      subst e
      exact ⟨ι, S, h⟩
    · split at e
      · rename_i _ hn
        simp only [Option.some.injEq] at e
        subst e
        have hf := Fr.noSlot_ff hn
        have hk : ∀ x ∈ F.mem, x.1 ≠ s' := by
          intro x hx
          simp only [Fr.noSlot, Bool.and_eq_true, List.all_eq_true] at hn
          have := hn.2 x hx
          simp at this
          exact this.1
        refine ⟨fun r => if r = s' then ι s else ι r, S, ⟨h.nt, h.df, h.ob, h.keep, h.sle, h.snew, h.snap, ?_, ?_, ?_, ?_⟩⟩
        · intro t v q
          obtain ⟨u, q1, q2⟩ := look_map (g := fun v : AV => v.rn s s') q
          obtain ⟨x, x1, x2⟩ := h.vars t u q1
          exact ⟨x, x1, q2 ▸ rn_rel x2 (hf.1 t u q1)⟩
        · intro t k' q
          obtain ⟨r, k, q1, rfl, rfl, hr⟩ := look_ren hk q
          obtain ⟨hwf, hm⟩ := h.mem r k q1
          have hkn := (hf.2 r k q1).2
          cases k with
          | sl e' sz' rows' =>
            exact ⟨hwf, hm.imp (fun ⟨a1, a2⟩ => ⟨(rn_inj hr).trans a1, a2⟩) fun ⟨b, total, t', c, e1, e2, e3, e4, e5, e6, e7⟩ => ⟨b, total, t', c, (rn_inj hr).trans e1, e2, e3, e4, e5, e6, fun i j av q => let ⟨v, v1, v2⟩ := e7 i j av q; ⟨v, v1, by
              simp only [Blk.rn, Blk.cell, Option.map_eq_some_iff] at q
              obtain ⟨p, -, rfl⟩ := q
              exact .p _ _ v2.inv_p⟩⟩⟩
          | box cells =>
            refine ⟨trivial, hm.imp (fun ⟨a1, a2⟩ => ⟨(rn_inj hr).trans a1, a2⟩) fun ⟨b, total, t', c, e1, e2, e3, e4, e5, e6, e7⟩ => ⟨b, total, t', c, (rn_inj hr).trans e1, e2, e3, by simpa [Blk.rn, Blk.size, rnL_len] using e4, e5, e6, fun i j av q => ?_⟩⟩
            simp only [Blk.rn, Blk.cell] at q
            split at q
            · rename_i hi0; subst hi0
              obtain ⟨u, u1, rfl⟩ := rnL_get q
              obtain ⟨v, v1, v2⟩ := e7 0 j u (by simp [Blk.cell, u1])
              exact ⟨v, by simpa [Blk.rn, Blk.size, rnL_len] using v1, rn_rel v2 (AV.noSlotL_get (by simpa [Blk.noSlot] using hkn) u1)⟩
            · simp at q
        · intro t k' q b t' hi
          obtain ⟨r, k, q1, rfl, rfl, hr⟩ := look_ren hk q
          exact h.own r k q1 b t' ((rn_inj hr).symm.trans hi)
        · intro s1 s2 k1 k2 q1 q2 hne b t b' t' i1 i2
          obtain ⟨r1, c1, g1, rfl, -, hr1⟩ := look_ren hk q1
          obtain ⟨r2, c2, g2, rfl, -, hr2⟩ := look_ren hk q2
          exact h.sep r1 r2 c1 c2 g1 g2 (fun e => hne (by rw [e])) b t b' t' ((rn_inj hr1).symm.trans i1) ((rn_inj hr2).symm.trans i2)
      · simp at e
end
end Go.Abs
namespace Go.Abs
open Go
set_option linter.unusedSimpArgs false
set_option linter.unusedVariables false

/-! ### with more known, an operation gives the same -/
section
variable {P : Program} {F G : FF}

theorem bind_mono {α β : Type} {x y : Option α} {f g : α → Option β} {b : β} (h : x.bind f = some b) (hx : ∀ a, x = some a → y = some a) (hf : ∀ a, f a = some b → g a = some b) : y.bind g = some b := by
  simp only [Option.bind_eq_some_iff] at h ⊢
  obtain ⟨a, h1, h2⟩ := h
  exact ⟨a, hx a h1, hf a h2⟩

theorem vals_mono (h : F.le G) : ∀ {l : List Opd} {vs : List AV}, F.vals l = some vs → G.vals l = some vs
  | [], vs, e => e
  | x :: l, vs, e => by
    simp only [FF.vals] at e ⊢
    split at e
    · rename_i v vs' e1 e2
      rw [FF.val_mono h e1, vals_mono h e2]; exact e
    · simp at e
theorem parts_mono (h : F.le G) : ∀ {l : List (Nat × Nat × Opd)} {r : List (Nat × List AV)}, F.parts l = some r → G.parts l = some r
  | [], r, e => e
  | (off, n, x) :: l, r, e => by
    simp only [FF.parts] at e ⊢
    split at e
    · rename_i cs r' e1 e2
      rw [bind_mono e1 (fun a q => FF.val_mono h q) (fun a q => q), parts_mono h e2]; exact e
    · simp at e
theorem bound_mono (h : F.le G) {d : Nat} {o : Option Opd} {l : Int} (e : boundO F d o = some l) : boundO G d o = some l := by
  cases o with
  | none => exact e
  | some x => exact bind_mono e (fun a q => FF.val_mono h q) (fun a q => q)
theorem int_mono (h : F.le G) {o : Opd} {l : Int} (e : (F.val o).bind intO = some l) : (G.val o).bind intO = some l := bind_mono e (fun a q => FF.val_mono h q) (fun a q => q)
theorem rows_mono (h : F.le G) {size : Nat} {x : AV} {r : List (List PV)} (e : F.rows size x = some r) : G.rows size x = some r := by
  unfold FF.rows at e ⊢
  split at e
  · exact e
  · exact e
  · rename_i s sz off len
    split at e
    · rename_i e0 sz' rows hb
      rw [h.2 _ _ hb]; exact e
    · simp at e
  · simp at e

theorem evV_mono (h : F.le G) {op : AOp} {v : AV} (e : evV F op = some v) : evV G op = some v := by
  cases op with
  | mov x => exact FF.val_mono h e
  | pick c x y =>
    simp only [evV] at e ⊢
    split at e
    · rename_i t va vb e1 e2 e3
      rw [FF.val_mono h e1, FF.val_mono h e2, FF.val_mono h e3]; exact e
    · simp at e
  | build z ps => exact bind_mono e (fun a q => parts_mono h q) (fun a q => q)
  | load b n x => exact bind_mono e (fun a q => FF.val_mono h q) (fun a q => bind_mono q (fun c q' => FF.read_mono h q') (fun c q' => q'))
  | nilck x =>
    simp only [evV] at e ⊢
    split at e
    · rename_i e1; rw [FF.val_mono h e1]; exact e
    · rename_i e1; rw [FF.val_mono h e1]; exact e
    · simp at e
  | bin op x y =>
    simp only [evV] at e ⊢
    split at e
    · rename_i e1 e2; rw [FF.val_mono h e1, FF.val_mono h e2]; exact e
    · simp at e
  | eqb n x y =>
    simp only [evV] at e ⊢
    split at e
    · rename_i e1 e2; rw [FF.val_mono h e1, FF.val_mono h e2]; exact e
    · simp at e
  | eqs n m ls x y =>
    simp only [evV] at e ⊢
    split at e
    · rename_i e1 e2; rw [FF.val_mono h e1, FF.val_mono h e2]; exact e
    · simp at e
  | un op x => exact bind_mono e (fun a q => FF.val_mono h q) (fun a q => q)
  | conv k x =>
    simp only [evV] at e ⊢
    split at e
    · rename_i e1; rw [FF.val_mono h e1]; exact e
    · simp at e
  | mkfn fn f c =>
    simp only [evV] at e ⊢
    split at e
    · rename_i e1 e2; rw [vals_mono h e1, vals_mono h e2]; exact e
    · simp at e
  | slcS x lo hi =>
    simp only [evV] at e ⊢
    split at e
    · rename_i e1
      rw [FF.val_mono h e1]
      split at e
      · rename_i e2 e3; dsimp only; rw [bound_mono h e2, bound_mono h e3]; exact e
      · simp at e
    · simp at e
  | slcV n x lo hi =>
    simp only [evV] at e ⊢
    split at e
    · rename_i e1
      rw [FF.val_mono h e1]
      split at e
      · rename_i e2 e3; dsimp only; rw [bound_mono h e2, bound_mono h e3]; exact e
      · simp at e
    · rename_i e1
      rw [FF.val_mono h e1]
      split at e
      · rename_i e2 e3; dsimp only; rw [bound_mono h e2, bound_mono h e3]; exact e
      · simp at e
    · rename_i e1
      rw [FF.val_mono h e1]
      split at e
      · rename_i e2 e3; dsimp only; rw [bound_mono h e2, bound_mono h e3]; exact e
      · simp at e
    · simp at e
  | faddr off x =>
    simp only [evV] at e ⊢
    split at e
    · rename_i e1; rw [FF.val_mono h e1]; exact e
    · rename_i e1; rw [FF.val_mono h e1]; exact e
    · simp at e
  | field off b n x => exact bind_mono e (fun a q => bind_mono q (fun c q' => FF.val_mono h q') (fun c q' => q')) (fun a q => q)
  | iaddr n x i =>
    simp only [evV] at e ⊢
    split at e
    · rename_i e1 e2; rw [FF.val_mono h e1, int_mono h e2]; exact e
    · rename_i e1 e2; rw [FF.val_mono h e1, int_mono h e2]; exact e
    · simp at e
  | iaddrA n m x i =>
    simp only [evV] at e ⊢
    split at e
    · rename_i e1 e2; rw [FF.val_mono h e1, int_mono h e2]; exact e
    · rename_i e1 e2; rw [FF.val_mono h e1, int_mono h e2]; exact e
    · simp at e
  | idxS x i =>
    simp only [evV] at e ⊢
    split at e
    · rename_i e1 e2; rw [FF.val_mono h e1, int_mono h e2]; exact e
    · simp at e
  | idxA n b len x i =>
    simp only [evV] at e ⊢
    split at e
    · rename_i e1 e2; rw [bind_mono e1 (fun a q => FF.val_mono h q) (fun a q => q), int_mono h e2]; exact e
    · simp at e
  | ext x i =>
    simp only [evV] at e ⊢
    split at e
    · rename_i e1; rw [FF.val_mono h e1]; exact e
    · rename_i e1; rw [FF.val_mono h e1]; exact e
    · simp at e
  | len b x =>
    simp only [evV, Option.map_eq_some_iff] at e ⊢
    obtain ⟨n, e1, e2⟩ := e
    exact ⟨n, bind_mono e1 (fun a q => FF.val_mono h q) (fun a q => q), e2⟩
  | mm b x y =>
    simp only [evV] at e ⊢
    split at e
    · rename_i e1 e2; rw [FF.val_mono h e1, FF.val_mono h e2]; exact e
    · simp at e
  | _ => simp [evV] at e

theorem evN_mono (h : F.le G) {op : AOp} {d : Nat} {v : AV × Blk} (e : evN F d op = some v) : evN G d op = some v := by
  cases op with
  | alloc z => exact e
  | box x =>
    simp only [evN, Option.map_eq_some_iff] at e ⊢
    obtain ⟨cs, e1, e2⟩ := e
    exact ⟨cs, bind_mono e1 (fun a q => FF.val_mono h q) (fun a q => q), e2⟩
  | bslice t n l z ps => exact bind_mono e (fun a q => parts_mono h q) (fun a q => q)
  | mksl t n b z l c =>
    simp only [evN] at e ⊢
    split at e
    · rename_i e1 e2; rw [FF.val_mono h e1, FF.val_mono h e2]; exact e
    · simp at e
  | _ => simp [evN] at e

theorem evS_mono (h : F.le G) {op : AOp} {v : Slot × Blk} (e : evS F op = some v) : evS G op = some v := by
  cases op with
  | store n x y =>
    simp only [evS] at e ⊢
    split at e
    · rename_i s size row off cs e1 e2
      rw [FF.val_mono h e1, bind_mono e2 (fun a q => FF.val_mono h q) (fun a q => q)]
      dsimp only
      split at e
      · rename_i hc
        rw [if_pos hc]
        cases hb : F.blk s with
        | none => simp [hb] at e
        | some k => rw [hb] at e; rw [h.2 _ _ hb]; exact e
      · simp at e
    · simp at e
  | _ => simp [evS] at e

theorem evA_mono (h : F.le G) {op : AOp} {d : Nat} {v : AV × Slot × Blk × List Slot} (e : evA F d op = some v) : evA G d op = some v := by
  cases op with
  | app t n b s x =>
    simp only [evA] at e ⊢
    split at e
    · rename_i e1 e2
      rw [FF.val_mono h e1, bind_mono e2 (fun a q => FF.val_mono h q) (fun a q => rows_mono h q)]; exact e
    · rename_i s0 sz k new e1 e2
      rw [FF.val_mono h e1, bind_mono e2 (fun a q => FF.val_mono h q) (fun a q => rows_mono h q)]
      cases hb : F.blk s0 with
      | none => simp [hb] at e
      | some k => rw [hb] at e; simp only [h.2 _ _ hb]; exact e
    · simp at e
  | _ => simp [evA] at e

theorem evDel_mono (h : F.le G) {op : AOp} {d : Nat} {δ : Del} (e : evDel F d op = some δ) : evDel G d op = some δ := by
  have mp : ∀ {α β : Type} {x y : Option α} {f : α → β} {b : β}, x.map f = some b → (∀ a, x = some a → y = some a) → y.map f = some b := by
    intro α β x y f b hx hxy
    simp only [Option.map_eq_some_iff] at hx ⊢
    obtain ⟨a, q1, q2⟩ := hx
    exact ⟨a, hxy a q1, q2⟩
  cases op with
  | alloc z => simp only [evDel] at e ⊢; exact mp e fun a q => evN_mono h q
  | box x => simp only [evDel] at e ⊢; exact mp e fun a q => evN_mono h q
  | bslice t n l z ps => simp only [evDel] at e ⊢; exact mp e fun a q => evN_mono h q
  | mksl t n b z l c => simp only [evDel] at e ⊢; exact mp e fun a q => evN_mono h q
  | store n x v => simp only [evDel] at e ⊢; exact mp e fun a q => evS_mono h q
  | app t n b s x => simp only [evDel] at e ⊢; exact mp e fun a q => evA_mono h q
  | _ => simp only [evDel] at e ⊢; exact mp e fun a q => evV_mono h q

theorem mapM_mono {α β : Type} {f g : α → Option β} (h : ∀ a b, f a = some b → g a = some b) : ∀ {l : List α} {r : List β}, l.mapM f = some r → l.mapM g = some r
  | [], r, e => by simpa using e
  | x :: l, r, e => by
    simp only [List.mapM_cons, Option.bind_eq_bind, Option.bind_eq_some_iff, Option.pure_def, Option.some.injEq] at e ⊢
    obtain ⟨y, h1, ys, h2, rfl⟩ := e
    exact ⟨y, h x y h1, ys, mapM_mono h h2, rfl⟩

theorem reify_mono (h : F.le G) : ∀ (n : Nat) {v : AV} {p : PV}, F.reify n v = some p → G.reify n v = some p
  | 0, v, p, e => by
    cases v with
    | ref s size off len =>
      simp only [FF.reify, Option.map_eq_some_iff] at e ⊢
      obtain ⟨r, e1, e2⟩ := e
      exact ⟨r, rows_mono h e1, e2⟩
    | _ => first | exact e | (simp [FF.reify] at e)
  | n + 1, v, p, e => by
    cases v with
    | p q => exact e
    | ref s size off len =>
      simp only [FF.reify, Option.map_eq_some_iff] at e ⊢
      obtain ⟨r, e1, e2⟩ := e
      exact ⟨r, rows_mono h e1, e2⟩
    | ptr s size row off =>
      simp only [FF.reify] at e ⊢
      cases hb : F.blk s with
      | none => simp [hb] at e
      | some k =>
        rw [hb] at e
        rw [h.2 _ _ hb]
        cases k with
        | sl t sz rows => exact e
        | box cells =>
          dsimp only at e ⊢
          split at e
          · rename_i hc
            rw [if_pos hc]
            simp only [Option.map_eq_some_iff] at e ⊢
            obtain ⟨ps, e1, e2⟩ := e
            exact ⟨ps, mapM_mono (fun a b q => reify_mono h n q) e1, e2⟩
          · simp at e
    | agg cells =>
      simp only [FF.reify, Option.map_eq_some_iff] at e ⊢
      obtain ⟨ps, e1, e2⟩ := e
      exact ⟨ps, mapM_mono (fun a b q => reify_mono h n q) e1, e2⟩
    | tup cells =>
      simp only [FF.reify, Option.map_eq_some_iff] at e ⊢
      obtain ⟨ps, e1, e2⟩ := e
      exact ⟨ps, mapM_mono (fun a b q => reify_mono h n q) e1, e2⟩
    | clo fn f c =>
      simp only [FF.reify] at e ⊢
      split at e
      · rename_i e1 e2
        rw [mapM_mono (fun a b q => reify_mono h n q) e1, mapM_mono (fun a b q => reify_mono h n q) e2]; exact e
      · simp at e
    | top => simp [FF.reify] at e

theorem exCall_mono (h : F.le G) {d : Nat} {f : FuncId} {vs : List AV} {δ : Del} (e : exCall P F d f vs δ) : exCall P G d f vs δ := by
  rcases e with e | ⟨ps, v, e1, e2⟩
  · exact .inl e
  · exact .inr ⟨ps, v, mapM_mono (fun a b q => reify_mono h 4 q) e1, e2⟩

theorem exOp_mono (h : F.le G) {op : AOp} {d : Nat} {δ : Del} (e : exOp P F d op δ) : exOp P G d op δ := by
  cases op with
  | call f args =>
    obtain ⟨vs, e1, e2⟩ := e
    exact ⟨vs, vals_mono h e1, exCall_mono h e2⟩
  | callv x args =>
    obtain ⟨u, vs, f, fi, ca, e1, e2, e3, e4⟩ := e
    exact ⟨u, vs, f, fi, ca, FF.val_mono h e1, vals_mono h e2, e3, exCall_mono h e4⟩
  | _ => exact evDel_mono h e

theorem stepI_mono (h : F.le G) {i : AB} {δ : Del} (e : stepI P F i δ) : stepI P G i δ := by
  unfold stepI at e ⊢
  split at e
  · exact exOp_mono h e
  · rcases e with ⟨b, e1, e2, e3⟩ | ⟨e1, e2⟩
    · exact .inl ⟨b, h.1 _ _ e1, fun q => exOp_mono h (e2 q), e3⟩
    · exact .inr ⟨h.1 _ _ e1, e2⟩
end

/-! ### a region that draws its order -/
def Fr.erase (F : Fr) (vs : List Nat) (ms : List Nat) : Fr := ⟨F.vars.filter fun x => !vs.contains x.1, F.mem.filter fun x => !ms.contains x.1.1⟩

def Del.noSlot (s : Slot) (δ : Del) : Bool := δ.v.noSlot s && δ.blks.all fun x => decide (x.1 ≠ s) && x.2.noSlot s
def Del.owners (δ : Del) : List Nat := δ.blks.map (·.1.1) ++ δ.del.map (·.1)

/-- What is checked of a result where the order is open. -/
def okD (F0 : Fr) (hist : List (Nat × Del × List Slot)) (i : AI) (δ : Del) : Bool :=
  ((newS i.b.op δ).all fun s => F0.noSlot s && hist.all fun h => h.2.1.noSlot s) && (hist.all fun h => !(i.na.contains h.1) || h.2.2.all fun s => δ.noSlot s) && δ.owners.all fun o => i.keys.contains o

def awpD (P : Program) (F0 : Fr) : Nat → List (Nat × Del × List Slot) → List AI → (Fr → Prop) → Fr → Prop
  | _, _, [], K, F => K F
  | k, hist, i :: l, K, F => awpI P (F.erase i.drop i.dropS).ff i.b (okD F0 hist i) fun δ => awpD P F0 (k + 1) ((k, δ, newS i.b.op δ) :: hist) l K (F.app i.b.dst δ)

/-- Bit j of mask k: k waits for j. -/
def masks : List (List Nat) → List Nat → List Nat
  | [], acc => acc
  | a :: l, acc => masks l (acc ++ [a.foldl (fun m e => m ||| 2 ^ e ||| acc.getD e 0) 0])

def keyV (i : AI) : List Nat := i.b.dst.toList
/-- The marks of a region fit what its edges leave open. -/
def okMarks (l : List AI) : Bool :=
  let ms := masks (l.map (·.b.after)) []
  (List.range l.length).all fun k =>
    let ik := l.getD k default
    let mk := ms.getD k 0
    ik.b.after.all (· < k) &&
    (List.range l.length).all fun j =>
      let ij := l.getD j default
      let mj := ms.getD j 0
      j == k || mk.testBit j || ((mj.testBit k || ((keyV ij).all (ik.drop.contains ·) && ij.keys.all (ik.dropS.contains ·) && (keyV ij).all (fun t => !(keyV ik).contains t) && ij.keys.all (fun o => !ik.keys.contains o))) && (!(decide (j < k)) || ik.na.contains j))

section
variable {P : Program}

theorem Fr.erase_ff {F : Fr} {vs ms : List Nat} : ∀ {t v}, (F.erase vs ms).var t = some v → F.var t = some v ∧ vs.contains t = false := by
  intro t v h
  simp only [Fr.var, Fr.erase] at h
  rw [look_filter (fun x => !vs.contains x)] at h
  split at h
  · rename_i q; exact ⟨h, by simpa using q⟩
  · simp at h
theorem Fr.erase_blk {F : Fr} {vs ms : List Nat} : ∀ {s k}, (F.erase vs ms).blk s = some k → F.blk s = some k ∧ ms.contains s.1 = false := by
  intro s k h
  simp only [Fr.blk, Fr.erase] at h
  rw [look_filter (fun x : Slot => !ms.contains x.1)] at h
  split at h
  · rename_i q; exact ⟨h, by simpa using q⟩
  · simp at h

variable (F0 : FF) (dst : Nat → Option Nat) (δ : Nat → Del)
def sig (listed : Nat → Bool) : Nat → FF
  | 0 => F0
  | k + 1 => if listed k then (sig listed k).app (dst k) (δ k) else sig listed k

variable {F0 dst δ}
theorem sig_var {l1 l2 : Nat → Bool} {t : Nat} : ∀ {m : Nat}, (∀ j, j < m → dst j = some t → l1 j = l2 j) → (sig F0 dst δ l1 m).var t = (sig F0 dst δ l2 m).var t
  | 0, _ => rfl
  | m + 1, h => by
    have ih := sig_var (m := m) fun j hj => h j (by omega)
    simp only [sig]
    by_cases hd : dst m = some t
    · rw [h m (by omega) hd]
      split
      · simp [FF.app, hd]
      · exact ih
    · have : ∀ (F : FF), (F.app (dst m) (δ m)).var t = F.var t := fun F => by simp [FF.app, hd]
      cases l1 m <;> cases l2 m <;> simp [this, ih]
theorem sig_blk {l1 l2 : Nat → Bool} {s : Slot} : ∀ {m : Nat}, (∀ j, j < m → (δ j).blk s ≠ none → l1 j = l2 j) → (sig F0 dst δ l1 m).blk s = (sig F0 dst δ l2 m).blk s
  | 0, _ => rfl
  | m + 1, h => by
    have ih := sig_blk (m := m) fun j hj => h j (by omega)
    simp only [sig]
    by_cases hd : (δ m).blk s = none
    · have : ∀ (F : FF), (F.app (dst m) (δ m)).blk s = F.blk s := fun F => by simp [FF.app, hd]
      cases l1 m <;> cases l2 m <;> simp [this, ih]
    · rw [h m (by omega) hd]
      split
      · obtain ⟨x, hx⟩ := Option.ne_none_iff_exists'.1 hd
        simp [FF.app, hx]
      · exact ih
theorem sig_lt {k : Nat} : ∀ {n : Nat}, k ≤ n → sig F0 dst δ (fun j => decide (j < k)) n = sig F0 dst δ (fun _ => true) k
  | n, h => by
    induction n with
    | zero => have : k = 0 := by omega
              subst this; rfl
    | succ n ih =>
      rcases Nat.lt_or_ge n k with hlt | hge
      · have hk : k = n + 1 := by omega
        subst hk
        have : ∀ m, m ≤ n + 1 → sig F0 dst δ (fun j => decide (j < n + 1)) m = sig F0 dst δ (fun _ => true) m := by
          intro m
          induction m with
          | zero => intro _; rfl
          | succ m ihm => intro hm; simp only [sig, ihm (by omega)]; simp [show m < n + 1 by omega]
        exact this _ (Nat.le_refl _)
      · simp only [sig]
        rw [if_neg (by simp; omega)]
        exact ih hge
theorem sig_last_var {l : Nat → Bool} {k t : Nat} (hk : l k = true) (hd : dst k = some t) : ∀ {n : Nat}, k < n → (∀ j, k < j → j < n → dst j = some t → l j = false) → (sig F0 dst δ l n).var t = some (δ k).v
  | n + 1, h, hl => by
    simp only [sig]
    rcases Nat.lt_or_ge k n with hlt | hge
    · have ih := sig_last_var hk hd hlt fun j h1 h2 => hl j h1 (by omega)
      by_cases hdn : dst n = some t
      · rw [hl n hlt (by omega) hdn]; simpa using ih
      · split
        · simpa [FF.app, hdn] using ih
        · exact ih
    · have : k = n := by omega
      subst this
      rw [hk]; simp [FF.app, hd]
theorem sig_last_blk {l : Nat → Bool} {k : Nat} {s : Slot} {x : Option Blk} (hk : l k = true) (hd : (δ k).blk s = some x) : ∀ {n : Nat}, k < n → (∀ j, k < j → j < n → (δ j).blk s ≠ none → l j = false) → (sig F0 dst δ l n).blk s = x
  | n + 1, h, hl => by
    simp only [sig]
    rcases Nat.lt_or_ge k n with hlt | hge
    · have ih := sig_last_blk hk hd hlt fun j h1 h2 => hl j h1 (by omega)
      by_cases hdn : (δ n).blk s = none
      · split
        · simpa [FF.app, hdn] using ih
        · exact ih
      · rw [hl n hlt (by omega) hdn]; simpa using ih
    · have : k = n := by omega
      subst this
      rw [hk]; simp [FF.app, hd]

theorem app_noSlot {F : FF} {s : Slot} {d : Option Nat} {x : Del} (h : F.noSlot s) (hx : x.noSlot s = true) : (F.app d x).noSlot s := by
  simp only [Del.noSlot, Bool.and_eq_true, List.all_eq_true] at hx
  refine ⟨fun t v e => ?_, fun s' k e => ?_⟩
  · simp only [FF.app] at e
    split at e
    · simp at e; subst e; exact hx.1
    · exact h.1 t v e
  · simp only [FF.app, Del.blk] at e
    cases hl : look s' x.blks with
    | some k' =>
      simp [hl] at e; subst e
      have := hx.2 _ (look_mem hl)
      simpa using this
    | none =>
      simp only [hl] at e
      split at e
      · simp at e
      · exact h.2 s' k e
theorem sig_noSlot {l : Nat → Bool} {s : Slot} (h0 : F0.noSlot s) : ∀ {n : Nat}, (∀ j, j < n → l j = true → (δ j).noSlot s = true) → (sig F0 dst δ l n).noSlot s
  | 0, _ => h0
  | n + 1, h => by
    have ih := sig_noSlot h0 (n := n) fun j hj => h j (by omega)
    simp only [sig]
    split
    · rename_i hl; exact app_noSlot ih (h n (by omega) hl)
    · exact ih
end

end Go.Abs
namespace Go.Abs
open Go
set_option linter.unusedSimpArgs false
set_option linter.unusedVariables false

section
variable {P : Program}

theorem newS_top (op : AOp) : newS op ⟨.p (.tup []), [], []⟩ = [] := by cases op <;> rfl

/-! #### what a region that draws has been seen to do -/
def dstAt (l : List AI) (k : Nat) : Option Nat := (l.getD k default).b.dst
def delAt (ds : List Del) (k : Nat) : Del := ds.getD k ⟨.p (.tup []), [], []⟩
def histAt (l : List AI) (ds : List Del) : Nat → List (Nat × Del × List Slot)
  | 0 => []
  | k + 1 => (k, delAt ds k, newS (l.getD k default).b.op (delAt ds k)) :: histAt l ds k
def frAt (F0 : Fr) (l : List AI) (ds : List Del) : Nat → Fr
  | 0 => F0
  | k + 1 => (frAt F0 l ds k).app (dstAt l k) (delAt ds k)

theorem frAt_ff {F0 : Fr} {l : List AI} {ds : List Del} : ∀ k, (frAt F0 l ds k).ff = sig F0.ff (dstAt l) (delAt ds) (fun _ => true) k
  | 0 => rfl
  | k + 1 => by simp only [frAt, sig, if_true, Fr.app_ff, frAt_ff k]

theorem awpD_run {F0 : Fr} {K : Fr → Prop} {all : List AI} : ∀ (l : List AI) (k : Nat) (pre : List Del), pre.length = k → all.drop k = l → awpD P F0 k (histAt all pre k) l K (frAt F0 all pre k) →
    ∃ ds : List Del, (∀ j, j < k → delAt ds j = delAt pre j) ∧ (∀ j, k ≤ j → j < all.length → stepI P ((frAt F0 all ds j).erase (all.getD j default).drop (all.getD j default).dropS).ff (all.getD j default).b (delAt ds j) ∧ (okD F0 (histAt all ds j) (all.getD j default) (delAt ds j) = true ∨ delAt ds j = ⟨.p (.tup []), [], []⟩)) ∧
      (k ≤ all.length → K (frAt F0 all ds all.length))
  | [], k, pre, hp, hd, h => by
    have hle : all.length ≤ k := by
      have := congrArg List.length hd
      simp at this; omega
    refine ⟨pre, fun _ _ => rfl, fun j h1 h2 => by omega, fun h3 => ?_⟩
    have : k = all.length := by omega
    rw [← this]; exact h
  | i :: l, k, pre, hp, hd, h => by
    have hlt : k < all.length := by
      have := congrArg List.length hd
      simp at this; omega
    have hi : all.getD k default = i := by
      have := congrArg (fun l => l[0]?) hd
      simp at this
      simp [List.getD, this]
    have hl : all.drop (k + 1) = l := by
      have := congrArg List.tail hd
      simpa [List.tail_drop] using this
    simp only [awpD] at h
    obtain ⟨δ, h1, h2, h3⟩ := awpI_ex h
    have hdel : ∀ j, j < k → delAt (pre ++ [δ]) j = delAt pre j := by
      intro j hj; simp [delAt, List.getD, List.getElem?_append, show j < pre.length by omega]
    have hdk : delAt (pre ++ [δ]) k = δ := by
      subst hp; simp [delAt, List.getD]
    have hh : ∀ m, m ≤ k → histAt all (pre ++ [δ]) m = histAt all pre m := by
      intro m
      induction m with
      | zero => intro _; rfl
      | succ m ih => intro hm; simp only [histAt, ih (by omega), hdel m (by omega)]
    have hf : ∀ m, m ≤ k → frAt F0 all (pre ++ [δ]) m = frAt F0 all pre m := by
      intro m
      induction m with
      | zero => intro _; rfl
      | succ m ih => intro hm; simp only [frAt, ih (by omega), hdel m (by omega)]
    have h3' : awpD P F0 (k + 1) (histAt all (pre ++ [δ]) (k + 1)) l K (frAt F0 all (pre ++ [δ]) (k + 1)) := by
      simp only [histAt, frAt, hh k (Nat.le_refl _), hf k (Nat.le_refl _), hdk, dstAt, hi]
      exact h3
    obtain ⟨ds, q2, q3, q4⟩ := awpD_run l (k + 1) (pre ++ [δ]) (by simp [hp]) hl h3'
    have hds : ∀ j, j < k → delAt ds j = delAt pre j := fun j hj => (q2 j (by omega)).trans (hdel j hj)
    have hdsk : delAt ds k = δ := (q2 k (by omega)).trans hdk
    have hh2 : ∀ m, m ≤ k → histAt all ds m = histAt all pre m := by
      intro m
      induction m with
      | zero => intro _; rfl
      | succ m ih => intro hm; simp only [histAt, ih (by omega), hds m (by omega)]
    have hf2 : ∀ m, m ≤ k → frAt F0 all ds m = frAt F0 all pre m := by
      intro m
      induction m with
      | zero => intro _; rfl
      | succ m ih => intro hm; simp only [frAt, ih (by omega), hds m (by omega)]
    refine ⟨ds, hds, fun j g1 g2 => ?_, fun _ => q4 (by omega)⟩
    rcases Nat.lt_or_ge k j with g3 | g3
    · exact q3 j (by omega) g2
    · have : j = k := by omega
      subst this
      rw [hf2 j (Nat.le_refl _), hh2 j (Nat.le_refl _), hdsk, hi]
      exact ⟨h1, h2⟩

/-! #### what waits for what -/
theorem foldl_or_bit {f : Nat → Nat} {j : Nat} : ∀ {a : List Nat} {m : Nat}, (a.foldl (fun m e => m ||| 2 ^ e ||| f e) m).testBit j = true → m.testBit j = true ∨ ∃ e ∈ a, j = e ∨ (f e).testBit j = true
  | [], m, h => .inl h
  | e :: a, m, h => by
    rcases foldl_or_bit (a := a) h with h | ⟨e', h1, h2⟩
    · simp only [Nat.testBit_or, Bool.or_eq_true] at h
      rcases h with (h | h) | h
      · exact .inl h
      · rw [Nat.testBit_two_pow] at h
        exact .inr ⟨e, by simp, .inl (by have := of_decide_eq_true h; omega)⟩
      · exact .inr ⟨e, by simp, .inr h⟩
    · exact .inr ⟨e', by simp [h1], h2⟩

theorem masks_spec : ∀ (l : List (List Nat)) (acc : List Nat) (pre : List (List Nat)), acc.length = pre.length → (∀ k, k < pre.length → ∀ j, (acc.getD k 0).testBit j = true → ∃ e ∈ pre.getD k [], j = e ∨ (e < k ∧ (acc.getD e 0).testBit j = true)) → (∀ k, k < (pre ++ l).length → ∀ e ∈ (pre ++ l).getD k [], e < k) →
    (masks l acc).length = (pre ++ l).length ∧ ∀ k, k < (pre ++ l).length → ∀ j, ((masks l acc).getD k 0).testBit j = true → ∃ e ∈ (pre ++ l).getD k [], j = e ∨ (e < k ∧ ((masks l acc).getD e 0).testBit j = true)
  | [], acc, pre, h1, h2, h3 => by
    simp only [List.append_nil, masks]
    exact ⟨h1, h2⟩
  | a :: l, acc, pre, h1, h2, h3 => by
    simp only [masks]
    have hap : pre ++ a :: l = (pre ++ [a]) ++ l := by simp
    rw [hap] at h3 ⊢
    refine masks_spec l _ (pre ++ [a]) (by simp [h1]) (fun k hk j hj => ?_) h3
    have hka : ∀ m, m < acc.length → (acc ++ [a.foldl (fun m e => m ||| 2 ^ e ||| acc.getD e 0) 0]).getD m 0 = acc.getD m 0 := by
      intro m hm; simp [List.getD, List.getElem?_append, hm]
    rcases Nat.lt_or_ge k pre.length with hlt | hge
    · rw [hka k (by omega)] at hj
      obtain ⟨e, g1, g2⟩ := h2 k hlt j hj
      refine ⟨e, by simpa [List.getD, List.getElem?_append, hlt] using g1, g2.imp id fun ⟨g3, g4⟩ => ⟨g3, by rw [hka e (by omega)]; exact g4⟩⟩
    · have : k = pre.length := by simp at hk; omega
      subst this
      have hke : (acc ++ [a.foldl (fun m e => m ||| 2 ^ e ||| acc.getD e 0) 0]).getD pre.length 0 = a.foldl (fun m e => m ||| 2 ^ e ||| acc.getD e 0) 0 := by
        rw [← h1]; simp [List.getD]
      rw [hke] at hj
      rcases foldl_or_bit hj with hj | ⟨e, g1, g2⟩
      · simp at hj
      · have hea : e ∈ (pre ++ [a]).getD pre.length [] := by simpa [List.getD] using g1
        have hlt := h3 pre.length (by simp) e (by simpa [List.getD, List.getElem?_append] using g1)
        exact ⟨e, hea, g2.imp id fun g3 => ⟨hlt, by rw [hka e (by omega)]; exact g3⟩⟩

variable {N : Nat} {w0 : Base} {Q : Exit → Act → World → Prop} {K : Fr → Prop}

theorem ready_iff {ops : Array Oper} {listed : Array Bool} {k : Nat} : k ∈ Region.ready .any ops listed ↔ k < ops.size ∧ listed.getD k true = false ∧ ∃ o, ops[k]? = some o ∧ ∀ e ∈ afterOf o, listed.getD e false = true := by
  simp only [Region.ready, List.mem_filter, List.mem_range, Bool.and_eq_true, Bool.not_eq_true']
  constructor
  · rintro ⟨h1, h2, h3⟩
    refine ⟨h1, h2, ops[k], by simp, ?_⟩
    simp only [Array.getElem?_eq_getElem h1, Option.map_some, Option.getD_some, Array.all_eq_true', Bool.or_eq_true, Bool.not_eq_true'] at h3
    intro e he
    simp only [afterOf, List.mem_filterMap, Array.mem_toList_iff] at he
    obtain ⟨x, h4, h5⟩ := he
    split at h5
    · rename_i hb
      simp at h5; subst h5
      rcases h3 x h4 with h | h
      · rw [hb] at h; simp at h
      · exact h
    · simp at h5
  · rintro ⟨h1, h2, o, h3, h4⟩
    refine ⟨h1, h2, ?_⟩
    rw [h3]
    simp only [Option.map_some, Option.getD_some, Array.all_eq_true', Bool.or_eq_true, Bool.not_eq_true']
    intro x hx
    by_cases hb : Region.binds .any x = true
    · exact .inr (h4 x.on (by simp only [afterOf, List.mem_filterMap, Array.mem_toList_iff]; exact ⟨x, hx, by simp [hb]⟩))
    · exact .inl (by simpa using hb)

/-- A region whose order is open. -/
theorem awpD_ok {ops : Array Oper} {l : List AI} {F0 : Fr} {ι : Inj} {S : Snap} {a : Act} {w : World} (hl : l.length = ops.size) (hr : ∀ (k : Nat) (i : AI), l[k]? = some i → ∃ o, ops[k]? = some o ∧ resolveI P N ops o = some i.b) (hm : okMarks l = true)
    (h : awpD P F0 0 [] l K F0) (hst : St N w0 ι S F0.ff a w) (hQ : ∀ F' ι' S' a' w', K F' → St N w0 ι' S' F'.ff a' w' → Q .normal a' w') : wpAny P .any ops Q ops.size (Array.replicate ops.size false) a w := by
  obtain ⟨ds, -, hstep, hK⟩ := awpD_run (all := l) l 0 [] rfl rfl h
  have hK := hK (Nat.zero_le _)
  -- the marks
  have hafter : ∀ k, k < l.length → ∀ o, ops[k]? = some o → afterOf o = (l.getD k default).b.after := by
    intro k hk o ho
    obtain ⟨o', h1, h2⟩ := hr k (l.getD k default) (by simp [List.getD, hk])
    rw [ho] at h1; simp at h1; subst h1
    unfold resolveI at h2
    split at h2
    · simp at h2
    · split at h2
      · split at h2
        · simp only [Option.some.injEq] at h2; rw [← h2]
        · split at h2
          · simp only [Option.some.injEq] at h2; rw [← h2]
          · simp at h2
      · simp at h2
  let ms := masks (l.map (·.b.after)) []
  have hkv : ∀ j t, dstAt l j = some t → t ∈ keyV (l.getD j default) := by
    intro j t ht
    unfold dstAt at ht
    unfold keyV
    rw [ht]; simp
  have hmk : ∀ k, k < l.length → (∀ e ∈ (l.getD k default).b.after, e < k) ∧ ∀ j, j < l.length → j = k ∨ (ms.getD k 0).testBit j = true ∨ (((ms.getD j 0).testBit k = true ∨
      ((∀ t, dstAt l j = some t → (l.getD k default).drop.contains t = true) ∧ (∀ o ∈ (l.getD j default).keys, (l.getD k default).dropS.contains o = true) ∧ (∀ t, dstAt l j = some t → dstAt l k ≠ some t) ∧ ∀ o ∈ (l.getD j default).keys, o ∉ (l.getD k default).keys)) ∧ (j < k → (l.getD k default).na.contains j = true)) := by
    intro k hk
    have := List.all_eq_true.1 hm k (by simpa using hk)
    simp only [Bool.and_eq_true] at this
    refine ⟨fun e he => by have h1 := List.all_eq_true.1 this.1 e he; simpa using h1, fun j hj => ?_⟩
    have h2 := List.all_eq_true.1 this.2 j (by simpa using hj)
    simp only [Bool.or_eq_true, Bool.and_eq_true] at h2
    rcases h2 with (h2 | h2) | ⟨h2, h3⟩
    · exact .inl (by simpa using h2)
    · exact .inr (.inl h2)
    · refine .inr (.inr ⟨h2.imp id fun h4 => ?_, fun hjk => ?_⟩)
      · obtain ⟨⟨⟨g1, g2⟩, g3⟩, g4⟩ := h4
        refine ⟨fun t ht => List.all_eq_true.1 g1 t (hkv j t ht), fun o ho => List.all_eq_true.1 g2 o ho, fun t ht ht' => ?_, fun o ho ho' => ?_⟩
        · have h5 := List.all_eq_true.1 g3 t (hkv j t ht)
          have h6 : (keyV (l.getD k default)).contains t = true := by rw [List.contains_iff_mem]; exact hkv k t ht'
          rw [h6] at h5; simp at h5
        · have h5 := List.all_eq_true.1 g4 o ho
          have h6 : (l.getD k default).keys.contains o = true := by rw [List.contains_iff_mem]; exact ho'
          rw [h6] at h5; simp at h5
      · rcases h3 with h3 | h3
        · simp at h3; omega
        · exact h3
  have hspec := masks_spec (l.map (·.b.after)) [] [] rfl (by simp) (by
    intro k hk e he
    simp only [List.nil_append, List.length_map] at hk he
    exact (hmk k hk).1 e (by simpa [List.getD, hk] using he))
  simp only [List.nil_append, List.length_map] at hspec
  have hge : ∀ k, k < l.length → (l.map (·.b.after)).getD k [] = (l.getD k default).b.after := by intro k hk; simp [List.getD, hk]
  -- closed lists of what has been done
  have hdep : ∀ (listed : Nat → Bool), (∀ k, k < l.length → listed k = true → ∀ e ∈ (l.getD k default).b.after, listed e = true) → ∀ k, k < l.length → (∀ e ∈ (l.getD k default).b.after, listed e = true) → ∀ j, (ms.getD k 0).testBit j = true → listed j = true ∧ j < k := by
    intro listed hcl k
    induction k using Nat.strongRecOn with
    | _ k ih =>
      intro hk hre j hj
      obtain ⟨e, h1, h2⟩ := hspec.2 k hk j hj
      rw [hge k hk] at h1
      have hlt := (hmk k hk).1 e h1
      rcases h2 with rfl | ⟨h2, h3⟩
      · exact ⟨hre _ h1, hlt⟩
      · obtain ⟨g1, g2⟩ := ih e hlt (by omega) (hcl e (by omega) (hre e h1)) j h3
        exact ⟨g1, by omega⟩
  have hbit : ∀ k, k < l.length → ∀ j, (ms.getD k 0).testBit j = true → j < k := fun k hk j hj => (hdep (fun _ => true) (fun _ _ _ _ _ => rfl) k hk (fun _ _ => rfl) j hj).2
  have hkeys : ∀ j, j < l.length → ∀ s, (delAt ds j).blk s ≠ none → s.1 ∈ (l.getD j default).keys := by
    intro j hj s hs
    rcases (hstep j (Nat.zero_le _) hj).2 with h1 | h1
    · simp only [okD, Bool.and_eq_true] at h1
      have h2 := List.all_eq_true.1 h1.2
      have : s.1 ∈ (delAt ds j).owners := by
        unfold Del.blk at hs
        unfold Del.owners
        cases hlk : look s (delAt ds j).blks with
        | some k => exact List.mem_append.2 (.inl (List.mem_map.2 ⟨_, look_mem hlk, rfl⟩))
        | none =>
          rw [hlk] at hs
          by_cases hd : s ∈ (delAt ds j).del
          · exact List.mem_append.2 (.inr (List.mem_map.2 ⟨_, hd, rfl⟩))
          · simp [hd] at hs
      simpa using h2 _ this
    · rw [h1] at hs; simp [Del.blk, look] at hs
  have hhist : ∀ k, k ≤ l.length → ∀ j, j < k → (j, delAt ds j, newS (l.getD j default).b.op (delAt ds j)) ∈ histAt l ds k := by
    intro k
    induction k with
    | zero => intro _ j hj; omega
    | succ k ih =>
      intro hk j hj
      simp only [histAt, List.mem_cons]
      rcases Nat.lt_or_ge j k with h1 | h1
      · exact .inr (ih (by omega) j h1)
      · have : j = k := by omega
        subst this; exact .inl rfl
  -- one more
  have one : ∀ (listed : Nat → Bool), (∀ k, k < l.length → listed k = true → ∀ e ∈ (l.getD k default).b.after, listed e = true) → ∀ k, k < l.length → listed k = false → (∀ e ∈ (l.getD k default).b.after, listed e = true) →
      ((frAt F0 l ds k).erase (l.getD k default).drop (l.getD k default).dropS).ff.le (sig F0.ff (dstAt l) (delAt ds) listed l.length) ∧ (∀ s ∈ newS (l.getD k default).b.op (delAt ds k), (sig F0.ff (dstAt l) (delAt ds) listed l.length).noSlot s) ∧
      (sig F0.ff (dstAt l) (delAt ds) listed l.length).app (dstAt l k) (delAt ds k) = sig F0.ff (dstAt l) (delAt ds) (fun j => j == k || listed j) l.length := by
    intro listed hcl k hk hlk hre
    have hd := hdep listed hcl
    -- whatever is done and not waited for stands apart
    have hun : ∀ j, j < l.length → (decide (j < k) = listed j) ∨ j = k ∨ ((∀ t, dstAt l j = some t → (l.getD k default).drop.contains t = true) ∧ (∀ o ∈ (l.getD j default).keys, (l.getD k default).dropS.contains o = true)) := by
      intro j hj
      rcases (hmk k hk).2 j hj with rfl | h1 | ⟨h1 | h1, _⟩
      · exact .inr (.inl rfl)
      · obtain ⟨g1, g2⟩ := hd k hk hre j h1
        exact .inl (by rw [g1]; simp [g2])
      · refine .inl ?_
        have hlt := hbit j hj k h1
        cases hlj : listed j with
        | false => simp; omega
        | true =>
          have := (hd j hj (hcl j hj hlj) k h1).1
          rw [hlk] at this; simp at this
      · exact .inr (.inr ⟨h1.1, h1.2.1⟩)
    have hlater : ∀ j, k < j → j < l.length → listed j = true → (ms.getD j 0).testBit k = false ∧ (ms.getD k 0).testBit j = false := by
      intro j h1 h2 h3
      constructor
      · cases hb : (ms.getD j 0).testBit k with
        | false => rfl
        | true =>
          have := (hd j h2 (hcl j h2 h3) k hb).1
          rw [hlk] at this; simp at this
      · cases hb : (ms.getD k 0).testBit j with
        | false => rfl
        | true => have := hbit k hk j hb; omega
    have hT : (frAt F0 l ds k).ff = sig F0.ff (dstAt l) (delAt ds) (fun j => decide (j < k)) l.length := by
      rw [frAt_ff, sig_lt (by omega)]
    refine ⟨⟨fun t v e => ?_, fun s b e => ?_⟩, fun s hs => ?_, ?_⟩
    · obtain ⟨h1, h2⟩ := Fr.erase_ff e
      have h3 : (frAt F0 l ds k).ff.var t = some v := h1
      rw [hT] at h3
      rw [← h3]
      refine (sig_var fun j hj hdj => ?_).symm
      rcases hun j hj with h4 | rfl | h4
      · exact h4
      · simp [hlk]
      · have := h4.1 t hdj; rw [h2] at this; simp at this
    · obtain ⟨h1, h2⟩ := Fr.erase_blk e
      have h3 : (frAt F0 l ds k).ff.blk s = some b := h1
      rw [hT] at h3
      rw [← h3]
      refine (sig_blk fun j hj hdj => ?_).symm
      rcases hun j hj with h4 | rfl | h4
      · exact h4
      · simp [hlk]
      · have := h4.2 s.1 (hkeys j hj s hdj); rw [h2] at this; simp at this
    · rcases (hstep k (Nat.zero_le _) hk).2 with h1 | h1
      · simp only [okD, Bool.and_eq_true] at h1
        have h2 := List.all_eq_true.1 h1.1.1 s hs
        simp only [Bool.and_eq_true] at h2
        refine sig_noSlot (Fr.noSlot_ff h2.1) fun j hj hlj => ?_
        rcases Nat.lt_trichotomy j k with h3 | rfl | h3
        · exact List.all_eq_true.1 h2.2 _ (hhist k (by omega) j h3)
        · rw [hlk] at hlj; simp at hlj
        · rcases (hstep j (Nat.zero_le _) hj).2 with h4 | h4
          · simp only [okD, Bool.and_eq_true] at h4
            have h5 := List.all_eq_true.1 h4.1.2 _ (hhist j (by omega) k h3)
            simp only [Bool.or_eq_true, Bool.not_eq_true'] at h5
            obtain ⟨g1, g2⟩ := hlater j h3 hj hlj
            have hna : (l.getD j default).na.contains k = true := by
              rcases (hmk j hj).2 k hk with h6 | h6 | ⟨_, h6⟩
              · omega
              · rw [g1] at h6; simp at h6
              · exact h6 h3
            rcases h5 with h5 | h5
            · rw [hna] at h5; simp at h5
            · exact List.all_eq_true.1 h5 s hs
          · rw [h4]; rfl
      · rw [h1, newS_top] at hs
        simp at hs
    · have apart : ∀ j, k < j → j < l.length → listed j = true → (∀ t, dstAt l j = some t → dstAt l k ≠ some t) ∧ ∀ o ∈ (l.getD j default).keys, o ∉ (l.getD k default).keys := by
        intro j h1 h2 h3
        obtain ⟨g1, g2⟩ := hlater j h1 h2 h3
        rcases (hmk k hk).2 j h2 with h6 | h6 | ⟨h6 | h6, _⟩
        · omega
        · rw [g2] at h6; simp at h6
        · rw [g1] at h6; simp at h6
        · exact h6.2.2
      have heq : ∀ j, j ≠ k → (listed j = (j == k || listed j)) := by intro j hj; simp [hj]
      cases hA : (sig F0.ff (dstAt l) (delAt ds) listed l.length).app (dstAt l k) (delAt ds k) with
      | mk av ab =>
      cases hB : sig F0.ff (dstAt l) (delAt ds) (fun j => j == k || listed j) l.length with
      | mk bv bb =>
      have ev : av = bv := by
        funext t
        have hav : av t = ((sig F0.ff (dstAt l) (delAt ds) listed l.length).app (dstAt l k) (delAt ds k)).var t := by rw [hA]
        have hbv : bv t = (sig F0.ff (dstAt l) (delAt ds) (fun j => j == k || listed j) l.length).var t := by rw [hB]
        rw [hav, hbv]
        simp only [FF.app]
        by_cases hdk : dstAt l k = some t
        · rw [if_pos hdk]
          refine (sig_last_var (l := fun j => j == k || listed j) (k := k) (by simp) hdk hk fun j h1 h2 h3 => ?_).symm
          have : (j == k) = false := by simp; omega
          simp only [this, Bool.false_or]
          cases hlj : listed j with
          | false => rfl
          | true => exact absurd hdk ((apart j h1 h2 hlj).1 t h3)
        · rw [if_neg hdk]
          exact sig_var fun j hj hdj => heq j (fun q => by subst q; exact hdk hdj)
      have eb : ab = bb := by
        funext s
        have hab : ab s = ((sig F0.ff (dstAt l) (delAt ds) listed l.length).app (dstAt l k) (delAt ds k)).blk s := by rw [hA]
        have hbb : bb s = (sig F0.ff (dstAt l) (delAt ds) (fun j => j == k || listed j) l.length).blk s := by rw [hB]
        rw [hab, hbb]
        simp only [FF.app]
        cases hdk : (delAt ds k).blk s with
        | none =>
          simp only [Option.getD_none]
          exact sig_blk fun j hj hdj => heq j (fun q => by subst q; exact hdj hdk)
        | some x =>
          simp only [Option.getD_some]
          refine (sig_last_blk (l := fun j => j == k || listed j) (k := k) (by simp) hdk hk fun j h1 h2 h3 => ?_).symm
          have : (j == k) = false := by simp; omega
          simp only [this, Bool.false_or]
          cases hlj : listed j with
          | false => rfl
          | true => exact absurd (hkeys k hk s (by rw [hdk]; simp)) ((apart j h1 h2 hlj).2 _ (hkeys j h2 s h3))
      rw [ev, eb]
  -- whatever the order
  have main : ∀ (fuel : Nat) (listed : Array Bool) (ι : Inj) (S : Snap) (a : Act) (w : World), listed.size = ops.size → ((List.range ops.size).filter fun j => !(listed.getD j false)).length = fuel →
      (∀ k, k < l.length → listed.getD k false = true → ∀ e ∈ (l.getD k default).b.after, listed.getD e false = true) → St N w0 ι S (sig F0.ff (dstAt l) (delAt ds) (fun j => listed.getD j false) l.length) a w → wpAny P .any ops Q fuel listed a w := by
    intro fuel
    induction fuel with
    | zero =>
      intro listed ι S a w hsz hcnt hcl hst
      have hall : ∀ j, j < ops.size → listed.getD j false = true := by
        intro j hj
        have := List.eq_nil_of_length_eq_zero hcnt
        rw [List.filter_eq_nil_iff] at this
        have := this j (by simpa using hj)
        simpa using this
      refine ⟨?_, ?_⟩
      · rw [List.eq_nil_iff_forall_not_mem]
        intro k hk
        obtain ⟨h1, h2, _⟩ := ready_iff.1 hk
        have h3 := hall k h1
        simp [Array.getD, hsz, h1] at h2 h3
        rw [h2] at h3; simp at h3
      · refine hQ _ ι S a w hK ?_
        rw [frAt_ff]
        have : sig F0.ff (dstAt l) (delAt ds) (fun _ => true) l.length = sig F0.ff (dstAt l) (delAt ds) (fun j => listed.getD j false) l.length := by
          have : ∀ m, m ≤ l.length → sig F0.ff (dstAt l) (delAt ds) (fun _ => true) m = sig F0.ff (dstAt l) (delAt ds) (fun j => listed.getD j false) m := by
            intro m
            induction m with
            | zero => intro _; rfl
            | succ m ih => intro hm; simp only [sig, ih (by omega), hall m (by omega), if_true]
          exact this _ (Nat.le_refl _)
        rw [this]; exact hst
    | succ fuel ih =>
      intro listed ι S a w hsz hcnt hcl hst
      refine ⟨fun hr0 => ?_, fun k hk => ?_⟩
      · -- something is always ready
        exfalso
        have hex : ∃ j, j < ops.size ∧ listed.getD j false = false := by
          have : ((List.range ops.size).filter fun j => !(listed.getD j false)) ≠ [] := by intro q; rw [q] at hcnt; simp at hcnt
          obtain ⟨j, hj⟩ := List.exists_mem_of_ne_nil _ this
          simp only [List.mem_filter, List.mem_range, Bool.not_eq_true'] at hj
          exact ⟨j, hj⟩
        have hmin : ∃ j, (j < ops.size ∧ listed.getD j false = false) ∧ ∀ i, i < j → ¬ (i < ops.size ∧ listed.getD i false = false) := by
          obtain ⟨j, hj⟩ := hex
          induction j using Nat.strongRecOn with
          | _ j ihj =>
            by_cases hq : ∃ i, i < j ∧ (i < ops.size ∧ listed.getD i false = false)
            · obtain ⟨i, h1, h2⟩ := hq
              exact ihj i h1 h2
            · exact ⟨j, hj, fun i hi hc => hq ⟨i, hi, hc⟩⟩
        obtain ⟨j, ⟨h1, h2⟩, h3⟩ := hmin
        have : j ∈ Region.ready .any ops listed := by
          refine ready_iff.2 ⟨h1, by simp [Array.getD, hsz, h1] at h2 ⊢; exact h2, ops[j], by simp, fun e he => ?_⟩
          rw [hafter j (by omega) _ (by simp)] at he
          have hlt := (hmk j (by omega)).1 e he
          cases hle : listed.getD e false with
          | true => rfl
          | false => exact absurd ⟨by omega, hle⟩ (h3 e hlt)
        rw [hr0] at this; simp at this
      · obtain ⟨h1, h2, o, h3, h4⟩ := ready_iff.1 hk
        have hkl : k < l.length := by omega
        have h2' : listed.getD k false = false := by simp [Array.getD, hsz, h1] at h2 ⊢; exact h2
        rw [hafter k hkl o h3] at h4
        obtain ⟨q1, q2, q3⟩ := one (fun j => listed.getD j false) hcl k hkl h2' h4
        obtain ⟨o', g1, g2⟩ := hr k (l.getD k default) (by simp [List.getD, hkl])
        rw [h3] at g1; simp at g1; subst g1
        have hs := stepI_mono q1 (hstep k (Nat.zero_le _) hkl).1
        refine stepI_ok hst h3 g2 hs q2 fun ι' S' a' w' hst' => ?_
        have hset : ∀ j, (listed.setIfInBounds k true).getD j false = (j == k || listed.getD j false) := by
          intro j
          by_cases hj : j = k
          · subst hj; simp [Array.getD, hsz, h1]
          · have : (j == k) = false := by simpa using hj
            rw [this, Bool.false_or]
            simp only [Array.getD_eq_getD_getElem?, Array.getElem?_setIfInBounds, if_neg (fun q : k = j => hj q.symm)]
        refine ih _ ι' S' a' w' (by simp [hsz]) ?_ (fun j hj hlj e he => ?_) ?_
        · have hp : ((List.range ops.size).filter fun j => !((listed.setIfInBounds k true).getD j false)) = ((List.range ops.size).filter fun j => !(listed.getD j false)).erase k := by
            have hnd : ((List.range ops.size).filter fun j => !(listed.getD j false)).Nodup := List.Pairwise.filter _ List.nodup_range
            rw [hnd.erase_eq_filter, List.filter_filter]
            congr 1
            funext j
            rw [hset j]
            cases hjk : (j == k) <;> simp [hjk, bne]
          rw [hp, List.length_erase_of_mem (by simp only [List.mem_filter, List.mem_range, Bool.not_eq_true']; exact ⟨h1, h2'⟩), hcnt]
          rfl
        · rw [hset] at hlj
          rw [hset]
          simp only [Bool.or_eq_true] at hlj ⊢
          rcases hlj with hlj | hlj
          · have : j = k := by simpa using hlj
            subst this; exact .inr (h4 e he)
          · exact .inr (hcl j hj hlj e he)
        · have hfun : (fun j => (listed.setIfInBounds k true).getD j false) = (fun j => j == k || listed.getD j false) := funext hset
          rw [hfun, ← q3]
          exact hst'
  refine main ops.size _ ι S a w (by simp) ?_ ?_ ?_
  · have : ((List.range ops.size).filter fun j => !((Array.replicate ops.size false).getD j false)) = List.range ops.size := by
      rw [List.filter_eq_self]
      intro j hj
      have hj' : j < ops.size := by simpa using hj
      simp [Array.getD, hj']
    rw [this]; simp
  · intro k hk hl'
    have : k < ops.size := by omega
    simp [Array.getD, this] at hl'
  · have : sig F0.ff (dstAt l) (delAt ds) (fun j => (Array.replicate ops.size false).getD j false) l.length = F0.ff := by
      have : ∀ m, m ≤ l.length → sig F0.ff (dstAt l) (delAt ds) (fun j => (Array.replicate ops.size false).getD j false) m = F0.ff := by
        intro m
        induction m with
        | zero => intro _; rfl
        | succ m ih =>
          intro hm
          simp only [sig, ih (by omega)]
          rw [if_neg]
          simp [Array.getD, show m < ops.size by omega]
      exact this _ (Nat.le_refl _)
    rw [this]; exact hst
end
end Go.Abs
namespace Go.Abs
open Go
set_option linter.unusedSimpArgs false
set_option linter.unusedVariables false

/-! ### within the fenced layer -/
def Fz (r : Option Nat) : Fence := { Fence.wide with round := r }

def Qn (X : Act → World → Prop) : Exit → Act → World → Prop
  | .normal, a, w => X a w
  | _, _, _ => False

def Same (D : Nat → Prop) (a a' : Act) : Prop := ∀ t, ¬ D t → a'.tmps[t]? = a.tmps[t]?
theorem Same.refl (D : Nat → Prop) (a : Act) : Same D a a := fun _ _ => rfl
theorem Same.trans {D : Nat → Prop} {a b c : Act} (h : Same D a b) (k : Same D b c) : Same D a c := fun t ht => (k t ht).trans (h t ht)
theorem Same.mono {D E : Nat → Prop} {a b : Act} (h : Same D a b) (hD : ∀ t, D t → E t) : Same E a b := fun t ht => h t fun q => ht (hD t q)
theorem Same.put {D : Nat → Prop} {a : Act} {dst : Option Nat} {x : Value} (h : ∀ d, dst = some d → D d) : Same D a (a.put dst x) := by
  intro t ht
  cases dst with
  | none => rfl
  | some d =>
    have : d ≠ t := fun e => ht (e ▸ h d rfl)
    simp [Act.put, Array.getElem?_setIfInBounds_ne this]

section
variable {P : Program} {r : Option Nat} {n : Nat}

theorem callsIn_fz {f : FuncId} {args : Array Value} {w : World} {R : Ending → World → Prop} (h : Calls P f args w R) : CallsIn (Fz r) n P f args w R :=
  (callsIn_wide (n := n)).2 h
theorem callsIn_fz' {f : FuncId} {args : Array Value} {w : World} {R : Ending → World → Prop} (h : CallsIn (Fz r) n P f args w R) : Calls P f args w R :=
  (callsIn_wide (n := n)).1 h
theorem rowsIn_fz {row : String} {args : Array Value} {w : World} {R : Value → World → Prop} (h : Rows P row args w R) : RowsIn (Fz r) n P row args w R := by
  intro c cs _
  obtain ⟨v, w', h1, h2⟩ := h c cs
  exact ⟨v, w', h1, (stepsIn_wide (P := P)).2 h2⟩

theorem wp_fz {o : Oper} {a : Act} {w : World} {K : Act → World → Prop} {X : Act → World → Prop} {Q : Exit → Act → World → Prop} (hd : ∀ c, o.op ≠ .defer c) (h : o.wp P a w K (Qn X)) : o.wpIn (Fz r) n P a w K Q := by
  refine ⟨fun _ _ => trivial, ?_⟩
  unfold Oper.wp at h
  rw [Oper.semAt_eq _ _ _ hd]
  generalize (execOp a.eval o).run P w = q at *
  cases q with
  | ok x w' =>
    cases x with
    | value v => exact h
    | skip => exact h
    | defer d => exact h
    | enter f args =>
      refine ⟨fun q => by simp [Fz, Fence.wide] at q, callsIn_fz (Calls.mono h fun e w'' he => ?_)⟩
      cases e with
      | returned v => exact he
      | panicked chain => exact he.elim
      | outgrown => obtain ⟨_, _, q⟩ := he; exact q.elim
    | row row args => exact ⟨fun q => by simp [Fz, Fence.wide] at q, rowsIn_fz h⟩
    | _ => exact h.elim
  | halt x w' => cases x <;> exact h.elim

def Dsts (D : Nat → Prop) (ops : Array Oper) : Prop := ∀ (k : Nat) (o : Oper), ops[k]? = some o → ∀ d, o.dst = some d → D d
def NoDefer (ops : Array Oper) : Prop := ∀ (k : Nat) (o : Oper), ops[k]? = some o → ∀ c, o.op ≠ .defer c

theorem wpIn_same {D : Nat → Prop} {o : Oper} {a0 a : Act} {w : World} {K K' : Act → World → Prop} {Q : Exit → Act → World → Prop} (hD : ∀ d, o.dst = some d → D d) (hs : Same D a0 a) (h : o.wpIn (Fz r) n P a w K Q)
    (hK : ∀ a w, Same D a0 a → K a w → K' a w) : o.wpIn (Fz r) n P a w K' Q := by
  refine ⟨h.1, ?_⟩
  have h2 := h.2
  have hp : ∀ v, Same D a0 (a.put o.dst v) := fun v => hs.trans (.put hD)
  generalize (o.semAt (Fz r).round a.eval).run P w = q at *
  cases q with
  | ok x w' =>
    cases x with
    | value v => exact hK _ _ (hp v) h2
    | skip => exact hK _ _ (hp _) h2
    | defer d => exact hK _ _ (show Same D a0 (({ a with defers := d :: a.defers } : Act).put o.dst undef) from Same.trans (b := { a with defers := d :: a.defers }) hs (.put hD)) h2
    | enter f args =>
      refine ⟨h2.1, CallsIn.mono h2.2 fun e w'' he => ?_⟩
      cases e with
      | returned v => exact hK _ _ (hp v) he
      | panicked chain => exact he
      | outgrown => exact he
    | row row args => exact ⟨h2.1, RowsIn.mono h2.2 fun v w'' he => hK _ _ (hp v) he⟩
    | round l f tmps assign body =>
      refine ⟨h2.1, RoundIn.mono h2.2 fun e w'' he => ?_⟩
      cases e with
      | returned v => exact hK _ _ (hp v) he
      | panicked chain => exact he
      | outgrown => exact he
    | _ => exact h2
  | halt x w' => cases x <;> exact h2

/-- A region's operations, seen in the plain layer, seen in the fenced one. -/
theorem toIn {D : Nat → Prop} {ops : Array Oper} {X : Act → World → Prop} {Q : Exit → Act → World → Prop} {a0 : Act} (hD : Dsts D ops) (hn : NoDefer ops) (hX : ∀ a w, X a w → Same D a0 a → Q .normal a w) :
    ∀ (l : List Nat) (a : Act) (w : World), wpOps P ops (Qn X) l a w → Same D a0 a → wpOpsIn (Fz r) n P ops Q l a w
  | [], a, w, h, hs => hX a w h hs
  | i :: l, a, w, h, hs => by
    simp only [wpOps, wpOpsIn] at h ⊢
    split
    · rename_i hi; rw [hi] at h; exact toIn hD hn hX l a w h hs
    · rename_i o hi
      rw [hi] at h
      simp only at h
      split
      · rename_i hw
        rw [if_pos hw] at h
        rcases h with h | h
        · exact wpIn_same (hD i o hi) hs (wp_fz (hn i o hi) h) fun a w h1 h2 => toIn hD hn hX l a w h2 h1
        · obtain ⟨_, _, _, q⟩ := h; exact q.elim
      · rename_i hw
        rw [if_neg hw] at h
        exact ⟨fun _ _ => trivial, toIn hD hn hX l _ w h (hs.trans (.put (hD i o hi)))⟩

/-- A region that draws, the same. -/
theorem toAny {D : Nat → Prop} {ops : Array Oper} {X : Act → World → Prop} {Q : Exit → Act → World → Prop} {a0 : Act} (hD : Dsts D ops) (hn : NoDefer ops) (hX : ∀ a w, X a w → Same D a0 a → Q .normal a w) :
    ∀ (fuel : Nat) (listed : Array Bool) (a : Act) (w : World), wpAny P .any ops (Qn X) fuel listed a w → Same D a0 a → wpAnyIn (Fz r) n P .any ops Q fuel listed a w
  | 0, listed, a, w, h, hs => ⟨h.1, hX a w h.2 hs⟩
  | fuel + 1, listed, a, w, h, hs => by
    refine ⟨fun q => hX a w (h.1 q) hs, fun i hi => ?_⟩
    have h2 := h.2 i hi
    unfold wpOp at h2
    unfold wpOpIn
    split
    · rename_i hi; rw [hi] at h2; exact toAny hD hn hX fuel _ a w h2 hs
    · rename_i o hi
      rw [hi] at h2
      simp only at h2
      split
      · rename_i hw
        rw [if_pos hw] at h2
        rcases h2 with h | h
        · exact wpIn_same (hD i o hi) hs (wp_fz (hn i o hi) h) fun a w h1 h2 => toAny hD hn hX fuel _ a w h2 h1
        · obtain ⟨_, _, _, q⟩ := h; exact q.elim
      · rename_i hw
        rw [if_neg hw] at h2
        exact ⟨fun _ _ => trivial, toAny hD hn hX fuel _ _ w h2 (hs.trans (.put (hD i o hi)))⟩
end

/-! ### what loops over functions do to a state -/
def Base.obj (b : Base) (r : Nat) (o : Option Obj) : Base := { b with O := fun k => if k = r then o else b.O k }

section
variable {P : Program} {N : Nat} {w0 : Base} {ι : Inj} {S : Snap} {F : FF} {a : Act} {w : World}

/-- The block of an object is turned. -/
theorem St.putObj (h : St N w0 ι S F a w) {r : Nat} {o : Obj} (o' : Obj) (hr : w0.O r = some o) (ho : ∀ c e q, o' ≠ .cells c e q) : St N (w0.obj r (some o')) ι S F a (w.putObj r o') := by
  obtain ⟨h1, h2, h3⟩ := h.ob r o hr
  have hlt := (Array.getElem?_eq_some_iff.1 h2).1
  have hcell : ∀ (b : Nat) (e : TypeId) (c : Array Value), Lies w b e c → b ≠ r := by
    intro b e c hl q; subst q
    have : w.heap[b]? = some (.cells c e (0, 0)) := hl
    rw [h2] at this; simp at this
    exact h3 _ _ _ this
  refine ⟨h.nt, h.df, fun k q e => ?_, ⟨h.keep.os, h.keep.tape, h.keep.output, by rw [World.putObj_size]; exact h.keep.size, fun k hk => by rw [World.putObj_heap_other (by have hk : k < w0.w.heap.size := hk; omega)]; exact h.keep.heap k hk⟩, h.sle, h.snew, fun x v e => ?_, h.vars, fun s k e => ?_, h.own, h.sep⟩
  · simp only [Base.obj] at e
    split at e
    · rename_i hk; subst hk; simp at e; subst e; exact ⟨h1, World.putObj_heap_same hlt, ho⟩
    · rename_i hk
      obtain ⟨g1, g2, g3⟩ := h.ob k q e
      exact ⟨g1, by rw [World.putObj_heap_other hk]; exact g2, g3⟩
  · have hc := h.snap x v e
    have hne : x.block ≠ r := by
      intro q
      unfold World.cell? at hc
      rw [q, h2] at hc
      cases o <;> simp_all
    unfold World.cell? at hc ⊢
    rw [World.putObj_heap_other hne]; exact hc
  · obtain ⟨g1, g2⟩ := h.mem s k e
    refine ⟨g1, g2.imp id ?_⟩
    rintro ⟨b, total, t', c, e1, e2, e3, e4, e5, e6, e7⟩
    exact ⟨b, total, t', c, e1, e2.of_heap (World.putObj_heap_other (hcell b _ _ e2)), e3, e4, e5, e6, e7⟩

/-- An object is laid. -/
theorem St.newObj (h : St N w0 ι S F a w) (o : Obj) (ho : ∀ c e q, o ≠ .cells c e q) : St N (w0.obj w.heap.size (some o)) ι S F a (w.alloc o) := by
  have hk := Keep.alloc w o
  have h2 := h.step0 (S' := S) hk (fun _ _ q => q) (fun x v q => hk.cell (h.snap x v q)) (fun x v q => .inl q)
  refine ⟨h2.nt, h2.df, fun k q e => ?_, h2.keep, h2.sle, h2.snew, h2.snap, h2.vars, h2.mem, h2.own, h2.sep⟩
  simp only [Base.obj] at e
  split at e
  · rename_i hk; subst hk; simp at e; subst e; exact ⟨h.keep.size, World.alloc_heap_new w o, ho⟩
  · exact h2.ob k q e

/-- Another activation, of which as much is known. -/
theorem St.other {N' : Nat} {w0' : Base} {F' : FF} {a' : Act} (h : St N w0 ι S F a w) (hw : w0'.w = w0.w) (hS : w0'.S = w0.S) (hO : ∀ r o, w0'.O r = some o → w0.O r = some o) (hn : a'.tmps.size = N') (hd : a'.defers = w0'.D.map markOf)
    (hv : ∀ t v, F'.var t = some v → (∃ x, a'.tmps[t]? = some x ∧ AVRel ι S v x)) (hb : ∀ s k, F'.blk s = some k → F.blk s = some k) : St N' w0' ι S F' a' w :=
  ⟨hn, hd, fun r o e => by rw [hw]; exact h.ob r o (hO r o e), by rw [hw]; exact h.keep, by rw [hS]; exact h.sle, by rw [hS, hw]; exact h.snew, h.snap, hv, fun s k e => h.mem s k (hb s k e), fun s k e => by rw [hw]; exact h.own s k (hb s k e), fun s s' k k' e e' => h.sep s s' k k' (hb s k e) (hb s' k' e')⟩

end
end Go.Abs
namespace Go.Abs
open Go
set_option linter.unusedSimpArgs false
set_option linter.unusedVariables false

/-! ### loops over functions -/
inductive AE where
  | normal
  | exit (id : Nat)
  | ret

def AE.toExit : AE → Exit
  | .normal => .normal
  | .exit id => .exit id
  | .ret => .ret
def AE.code : AE → Option Code
  | .normal => none
  | .exit id => some (.exit id)
  | .ret => some .ret

abbrev APT := (AE → Fr → Prop) → Fr → Prop

def Stab (J : Snap → World → Prop) : Prop := ∀ S w S' w', J S w → S.le S' → S'.holds w' → Keep w w' → (∀ x v, S' x = some v → S x = some v ∨ w.heap.size ≤ x.block) → J S' w'

/-- A call of yield, with whatever comes of the round. -/
def Round (P : Program) (l : Nat) (vs : List Value) (w : World) (S : Snap) (R : Bool → Snap → World → Prop) : Prop :=
  ∃ fn tmps assign body, (Instr.yield l vs.toArray).run P w = .ok (.round l fn tmps assign body) w ∧
    RoundIn Fence.wide 0 P l fn tmps assign body w fun e w2 => ∃ b S2, e = .returned (.bool b) ∧ S.le S2 ∧ S2.holds w2 ∧ R b S2 w2

/-- What a generator hands out, item by item. -/
def Gens (P : Program) (f : FuncId) (fi ca : List PV) (xs : List (List PV)) : Prop :=
  (∃ fn, P.funcs[f]? = some fn ∧ fn.body.isSome = true ∧ (fn.name == "runtime.NumGoroutine") = false) ∧
  ∀ (S : Snap) (w : World) (fs cs : List Value), S.holds w → Ps S fi fs → Ps S ca cs → ∀ (l : Nat) (J : Nat → Snap → World → Prop) (E : Snap → World → Prop), (∀ k, Stab (J k)) → Stab E →
    (∀ k x S1 w1 vs, xs[k]? = some x → S1.holds w1 → J k S1 w1 → Ps S1 x vs → Round P l vs w1 S1 fun b S2 w2 => if b then J (k + 1) S2 w2 else E S2 w2) →
    J 0 S w → Calls P f (fs ++ [Value.func (.yield l) #[] #[]] ++ cs).toArray w fun e w' => (∃ v, e = .returned v) ∧ ∃ S', S'.holds w' ∧ (J xs.length S' w' ∨ E S' w')

def Fr.setPs (F : Fr) (ps : List Nat) (x : List PV) : Fr := ⟨(ps.zip x).foldl (fun l p => (p.1, .p p.2) :: l) F.vars, F.mem⟩
def insV (s : Nat) (k : AV) : List (Nat × AV) → List (Nat × AV)
  | [] => [(s, k)]
  | x :: l => if x.1 = s then (s, k) :: l else if s < x.1 then (s, k) :: x :: l else x :: insV s k l
def normV : List (Nat × AV) → List (Nat × AV)
  | [] => []
  | x :: l => insV x.1 x.2 (normV l)
theorem look_insV {s s' : Nat} {k : AV} : ∀ {l : List (Nat × AV)}, look s' (insV s k l) = if s' = s then some k else look s' l
  | [] => by simp [insV, look]
  | (s1, k1) :: l => by
    simp only [insV]
    by_cases h1 : s1 = s
    · subst h1
      simp only [if_true, look]
      split <;> rfl
    · rw [if_neg h1]
      split
      · simp [look]
      · simp only [look]
        rw [look_insV (l := l)]
        by_cases h2 : s' = s1
        · subst h2; simp [h1]
        · simp [h2]
theorem look_normV {s : Nat} : ∀ {l : List (Nat × AV)}, look s (normV l) = look s l
  | [] => rfl
  | (s1, k1) :: l => by
    simp only [normV, look_insV, look, look_normV (l := l)]
/-- What is kept behind a round. -/
def Fr.backV (F : Fr) (vs : List (Nat × AV)) : Fr := ⟨vs, normM (F.mem.filter fun x => F.spoken vs x.1)⟩
def Fr.back (F : Fr) (dd : List Nat) : Fr := F.backV (normV (F.vars.filter fun v => !dd.contains v.1))
theorem back_var {F : Fr} {dd : List Nat} {t : Nat} {v : AV} (h : (F.back dd).ff.var t = some v) : look t (F.vars.filter fun v => !dd.contains v.1) = some v := by
  have h : look t (normV (F.vars.filter fun v => !dd.contains v.1)) = some v := h
  rwa [look_normV] at h
theorem back_blk {F : Fr} {dd : List Nat} {s : Slot} {k : Blk} (h : (F.back dd).ff.blk s = some k) : F.ff.blk s = some k := by
  have h : look s (normM (F.mem.filter fun x => F.spoken (normV (F.vars.filter fun v => !dd.contains v.1)) x.1)) = some k := h
  rw [look_normM, look_filter (fun s => F.spoken (normV (F.vars.filter fun v => !dd.contains v.1)) s)] at h
  split at h
  · exact h
  · simp at h

def rounds (A B : APT) (ps dd : List Nat) : List (List PV) → APT
  | [] => fun K F => K .normal F
  | x :: xs => fun K F => x.length = ps.length ∧ A (fun e F1 => match e with
      | .normal => B (fun e F2 => match e with
        | .normal => rounds A B ps dd xs K (F2.back dd)
        | e => K e (F2.back dd)) F1
      | _ => False) (F.setPs ps x)

structure Ext (b b' : Base) : Prop where
  w : b'.w = b.w
  S : b'.S = b.S
  D : ∃ m, b'.D = m ++ b.D
  O : ∀ r o, b.O r = some o → b'.O r = some o
theorem Ext.refl (b : Base) : Ext b b := ⟨rfl, rfl, ⟨[], rfl⟩, fun _ _ h => h⟩
theorem Ext.trans {a b c : Base} (h : Ext a b) (k : Ext b c) : Ext a c :=
  ⟨k.w.trans h.w, k.S.trans h.S, by obtain ⟨m, e⟩ := h.D; obtain ⟨m', e'⟩ := k.D; exact ⟨m' ++ m, by rw [e', e, List.append_assoc]⟩, fun r o q => k.O r o (h.O r o q)⟩

structure BOk (r : Option Nat) (b : Base) : Prop where
  nd : b.D.Nodup
  dm : ∀ m ∈ b.D, b.O m = some (.deferred (some []))
  rd : ∀ l, r = some l → ∃ rec, b.O l = some (.loop rec)

/-- What a run of the text says of the text. -/
def Sound (P : Program) (N : Nat) (D : Nat → Prop) (b : APT) (c : Code) : Prop :=
  ∀ (r : Option Nat) (n : Nat) (w0 : Base) (K : AE → Fr → Prop) (F : Fr) (ι : Inj) (S : Snap) (a : Act) (w : World) (Q : Exit → Act → World → Prop), BOk r w0 → b K F → St N w0 ι S F.ff a w →
    (∀ e F' w0' ι' S' a' w', K e F' → St N w0' ι' S' F'.ff a' w' → Ext w0 w0' → BOk r w0' → Same D a a' → Q e.toExit a' w') → c.wpIn (Fz r) n P Q a w

section
variable {P : Program} {N : Nat} {ι : Inj} {S : Snap}

theorem setPs_ok : ∀ (ps : List Nat) (x : List PV) (vs : List Value) (V : List (Nat × AV)) (T : Array Value), (∀ p ∈ ps, p < T.size) → Ps S x vs → x.length = ps.length → (∀ t v, look t V = some v → ∃ y, T[t]? = some y ∧ AVRel ι S v y) →
    ∀ t v, look t ((ps.zip x).foldl (fun l p => (p.1, .p p.2) :: l) V) = some v → ∃ y, ((ps.zip vs).foldl (fun (T : Array Value) p => T.setIfInBounds p.1 p.2) T)[t]? = some y ∧ AVRel ι S v y
  | [], x, vs, V, T, hp, h, hl, hV, t, v, e => by simpa using hV t v (by simpa using e)
  | p :: ps, [], vs, V, T, hp, h, hl, hV, t, v, e => by simp at hl
  | p :: ps, q :: x, [], V, T, hp, h, hl, hV, t, v, e => by have := h.1; simp at this
  | p :: ps, q :: x, u :: vs, V, T, hp, h, hl, hV, t, v, e => by
    simp only [List.zip_cons_cons, List.foldl_cons] at e ⊢
    have hpq : PRel S q u := h.2 0 q u rfl rfl
    refine setPs_ok ps x vs ((p, .p q) :: V) (T.setIfInBounds p u) (fun p' hp' => by simpa using hp p' (by simp [hp'])) ⟨by have := h.1; simpa using this, fun j a b e1 e2 => h.2 (j + 1) a b (by simpa using e1) (by simpa using e2)⟩ (by simpa using hl) (fun t' v' e' => ?_) t v e
    simp only [look] at e'
    have hlt := hp p (by simp)
    split at e'
    · rename_i ht; subst ht; simp at e'; subst e'; exact ⟨u, by simp [hlt], .p _ _ hpq⟩
    · rename_i ht
      obtain ⟨y, h1, h2⟩ := hV t' v' e'
      exact ⟨y, by rw [Array.getElem?_setIfInBounds_ne (fun q => ht q.symm)]; exact h1, h2⟩

theorem fold_size : ∀ (l : List (Nat × Value)) (T : Array Value), (l.foldl (fun (T : Array Value) p => T.setIfInBounds p.1 p.2) T).size = T.size
  | [], T => rfl
  | p :: l, T => by simp only [List.foldl_cons]; rw [fold_size l]; simp
theorem fold_ne : ∀ (l : List (Nat × Value)) (T : Array Value) (t : Nat), (∀ p ∈ l, p.1 ≠ t) → (l.foldl (fun (T : Array Value) p => T.setIfInBounds p.1 p.2) T)[t]? = T[t]?
  | [], T, t, h => rfl
  | p :: l, T, t, h => by
    simp only [List.foldl_cons]
    rw [fold_ne l _ t (fun q hq => h q (by simp [hq])), Array.getElem?_setIfInBounds_ne (h p (by simp))]

theorem fold_zip (ps : Array Nat) (vs : List Value) (T : Array Value) : ((ps.zip vs.toArray).foldl (fun tmps (t, a) => tmps.setIfInBounds t a) T) = (ps.toList.zip vs).foldl (fun (T : Array Value) p => T.setIfInBounds p.1 p.2) T := by
  rw [← Array.foldl_toList]
  simp

theorem St.baseS {w0 : Base} {F : FF} {a : Act} {w : World} (h : St N w0 ι S F a w) : St N { w0 with S := S } ι S F a w :=
  ⟨h.nt, h.df, h.ob, h.keep, fun _ _ q => q, fun _ _ q => .inl q, h.snap, h.vars, h.mem, h.own, h.sep⟩
theorem St.unS {w0 : Base} {S1 : Snap} {F : FF} {a : Act} {w : World} (h : St N { w0 with S := S1 } ι S F a w) (h1 : w0.S.le S1) (h2 : ∀ x v, S1 x = some v → w0.S x = some v ∨ w0.w.heap.size ≤ x.block) : St N w0 ι S F a w :=
  ⟨h.nt, h.df, h.ob, h.keep, fun x v q => h.sle x v (h1 x v q), fun x v q => (h.snew x v q).elim (fun q => h2 x v q) .inr, h.snap, h.vars, h.mem, h.own, h.sep⟩

theorem look_back {t : Nat} {v : AV} {V : List (Nat × AV)} {dd : List Nat} (h : look t (V.filter fun v => !dd.contains v.1) = some v) : look t V = some v ∧ t ∉ dd := by
  rw [look_filter (fun t => !dd.contains t)] at h
  split at h
  · rename_i hc; exact ⟨h, by simpa using hc⟩
  · simp at h

/-- The loop, once it has been entered. -/
theorem rfun_core {A B : APT} {assign body : Code} {ps : Array Nat} {dd : List Nat} {D D0 : Nat → Prop} (hA : Sound P N D A assign) (hB : Sound P N D B body) (hD : ∀ t, D t → t ∈ dd) (hps : ∀ p ∈ ps.toList, p < N ∧ p ∈ dd)
    {r : Option Nat} {n : Nat} {w0 b1 : Base} {K : AE → Fr → Prop} {F : Fr} {a aM : Act} {w w1 : World} {Q : Exit → Act → World → Prop} {g : Operand} {u : AV} {f : FuncId} {fi ca : List AV} {fi' ca' : List PV} {xs : List (List PV)}
    (hg : AVRel ι S u (a.eval g)) (hu : cloOf u = some (f, fi, ca)) (h1 : allP fi = some fi') (h2 : allP ca = some ca') (hG : Gens P f fi' ca' xs) (hR : rounds A B ps.toList dd xs K F)
    {fn : FuncId} {l : Nat} {mark : List Deferred} (hEnter : (Instr.enterLoop fn a.tmps ps assign body r).run P w = .ok (l, mark) w1) {rec : LoopState → Option Code → Loop}
    (hrec : ∀ st pe, rec st pe = { state := st, pending := pe, fn, tmps := a.tmps, params := ps, assign, body, defers := (rec .ready none).defers })
    (hst : St N b1 ι S F.ff aM w1) (haM : aM = { a with defers := mark ++ a.defers }) (hl : b1.O l = some (.loop (rec .ready none))) (hExt : ∀ o, Ext w0 (b1.obj l o)) (hBOk : ∀ rc, BOk r (b1.obj l (some (.loop rc))))
    (hQ : ∀ e F' w0' ι' S' a' w', K e F' → St N w0' ι' S' F'.ff a' w' → Ext w0 w0' → BOk r w0' → Same D0 a a' → Q e.toExit a' w') :
    ∃ (d : Deferred) (w1' : World) (f : FuncId) (args : Array Value) (w2 : World),
      (resolve a.eval (rangeCall g l) 0).run P w1 = .ok d w1' ∧
      (∀ f', Target.leads P w1' d.target d.args = some f' → (Fz r).fn f') ∧
      (invoke d.target d.args).run P w1' = .ok (.enter f args) w2 ∧
      ((Fz r).depth.isSome = true → 1 ≤ n) ∧
      CallsIn (Fz r) (n - 1) P f args w2 (rangePost (Fz r) n P l Q { a with defers := mark ++ a.defers }) := by
  have hclo : ∃ fs cs : List Value, a.eval g = .func (.func f) fs.toArray cs.toArray ∧ Ps S fi' fs ∧ Ps S ca' cs := by
    unfold cloOf at hu
    split at hu
    · simp at hu
      obtain ⟨rfl, rfl, rfl⟩ := hu
      have := hg.inv_p
      generalize a.eval g = y at this
      cases this with
      | clo _ _ _ fs cs hf hc g1 g2 => exact ⟨fs, cs, rfl, (Ps.toRs (ι := ι) ⟨hf, g1⟩).toPs h1, (Ps.toRs (ι := ι) ⟨hc, g2⟩).toPs h2⟩
    · simp at hu
      obtain ⟨rfl, rfl, rfl⟩ := hu
      generalize a.eval g = y at hg
      cases hg with
      | clo _ _ _ fs cs hf hc g1 g2 => exact ⟨fs, cs, rfl, Rs.toPs h1 ⟨hf, g1⟩, Rs.toPs h2 ⟨hc, g2⟩⟩
    · simp at hu
  obtain ⟨fs, cs, e1, r1, r2⟩ := hclo
  obtain ⟨⟨fnr, hf1, hf2, hf3⟩, hG⟩ := hG
  have cf : ∀ (args : Array Value) (w' : World), (callFunc f args).run P w' = .ok (.enter f args) w' := by
    intro args w'
    have h4 : fnr.body.isNone = false := by
      cases hb : fnr.body with
      | none => rw [hb] at hf2; simp at hf2
      | some _ => rfl
    simp only [callFunc, Sem.run_bind, run_program, Result.andThen_ok, hf1, hf3, h4, Bool.false_eq_true, if_false, Sem.run_pure]
  refine ⟨{ target := .fn (.func f) cs.toArray, args := fs.toArray ++ #[Value.func (.yield l) #[] #[]] }, w1, f, (fs ++ [Value.func (.yield l) #[] #[]] ++ cs).toArray, w1, ?_, fun _ _ => trivial, ?_, fun q => by simp [Fz, Fence.wide] at q, ?_⟩
  · have e3 : a.eval (.const (Value.func (.yield l) #[] #[])) = Value.func (.yield l) #[] #[] := rfl
    simp only [resolve, e1, Deferred.ofValue, Sem.run_bind, Sem.run_pure, Result.andThen_ok]
    simp [e3]
  · simp [invoke, cf]
  -- what the rounds keep
  have hnt : a.tmps.size = N := by have := hst.nt; rw [haM] at this; exact this
  let J : Nat → Snap → World → Prop := fun k S w => ∃ ι Fk, rounds A B ps.toList dd (xs.drop k) K Fk ∧ St N b1 ι S Fk.ff aM w
  let E : Snap → World → Prop := fun S w => ∃ ι e c Fk, AE.code e = some c ∧ K e Fk ∧ St N (b1.obj l (some (.loop (rec .done (some c))))) ι S Fk.ff aM w
  have sJ : ∀ k, Stab (J k) := fun k S w S' w' h g1 g2 g3 g4 => let ⟨ι, Fk, q1, q2⟩ := h; ⟨ι, Fk, q1, q2.step0 g3 g1 g2 g4⟩
  have sE : Stab E := fun S w S' w' h g1 g2 g3 g4 => let ⟨ι, e, c, Fk, q1, q2, q3⟩ := h; ⟨ι, e, c, Fk, q1, q2, q3.step0 g3 g1 g2 g4⟩
  refine callsIn_fz (Calls.mono (hG S w1 fs cs hst.snap r1 r2 l J E sJ sE ?_ ⟨ι, F, by simpa using hR, hst⟩) ?_)
  · -- a round
    rintro k x S1 w3 vs hx hS1 ⟨ι1, Fk, hrk, hk⟩ hvs
    have hdrop : xs.drop k = x :: xs.drop (k + 1) := by
      have hlt := (List.getElem?_eq_some_iff.1 hx).1
      rw [List.drop_eq_getElem_cons hlt, (List.getElem?_eq_some_iff.1 hx).2]
    rw [hdrop] at hrk
    obtain ⟨hxl, hrk⟩ := hrk
    have hloop : w3.heap[l]? = some (.loop (rec .ready none)) := (hk.ob l _ hl).2.1
    have hr0 := hrec .ready none
    have hy := run_yield (P := P) (args := vs.toArray) hloop (by rw [hr0]; simpa [hvs.1] using hxl)
    refine ⟨_, _, _, _, hy, ?_⟩
    rw [hr0]
    simp only
    rw [fold_zip]
    refine roundIn_of_wpIn (F := Fence.wide) trivial ?_
    have hb1 : BOk (some l) { b1 with S := S1, D := [] } := ⟨List.nodup_nil, by simp, fun l' e => by simp at e; subst e; exact ⟨_, hl⟩⟩
    have hst1 : St N { b1 with S := S1, D := [] } ι1 S1 (Fk.setPs ps.toList x).ff { tmps := (ps.toList.zip vs).foldl (fun (T : Array Value) p => T.setIfInBounds p.1 p.2) a.tmps, defers := [] } w3 := by
      refine hk.baseS.other (w0' := { b1 with S := S1, D := [] }) rfl rfl (fun _ _ q => q) (by simp only [fold_size]; exact hnt) rfl (fun t v e => ?_) (fun s k e => e)
      refine setPs_ok ps.toList x vs Fk.vars a.tmps (fun p hp => by rw [hnt]; exact (hps p hp).1) hvs hxl (fun t v e => ?_) t v e
      have := hk.vars t v e
      rw [haM] at this
      exact this
    refine hA (some l) 0 _ _ (Fk.setPs ps.toList x) ι1 S1 _ w3 _ hb1 hrk hst1 fun e F1 b2 ι2 S2 a2 w4 hke hst2 hext2 hbok2 hsame2 => ?_
    cases e with
    | exit id => exact hke.elim
    | ret => exact hke.elim
    | normal =>
      have hl2 : b2.O l = some (.loop (rec .ready none)) := hext2.O l _ hl
      have hloop2 : w4.heap[l]? = some (.loop (rec .ready none)) := (hst2.ob l _ hl2).2.1
      refine ⟨_, run_beginRound hloop2 (by rw [hr0]), ?_⟩
      have hst3 := hst2.putObj (.loop { rec .ready none with state := .busy }) hl2 (by simp)
      have hbok3 : BOk (some l) (b2.obj l (some (.loop { rec .ready none with state := .busy }))) := by
        refine ⟨hbok2.nd, fun m hm => ?_, fun l' e => ?_⟩
        · have := hbok2.dm m hm
          simp only [Base.obj]
          split
          · rename_i q; subst q; rw [hl2] at this; simp at this
          · exact this
        · simp at e; subst e; exact ⟨_, by simp only [Base.obj, if_true]; rfl⟩
      refine hB (some l) 0 _ _ F1 ι2 S2 a2 _ _ hbok3 hke hst3 fun e F2 b4 ι4 S4 a4 w5 hke4 hst4 hext4 hbok4 hsame4 => ?_
      have hl4 : b4.O l = some (.loop { rec .ready none with state := .busy }) := hext4.O l _ (by simp [Base.obj])
      have hloop4 : w5.heap[l]? = some (.loop { rec .ready none with state := .busy }) := (hst4.ob l _ hl4).2.1
      have hw4 : b4.w = b1.w := by rw [hext4.w]; exact hext2.w
      have hS4 : b4.S = S1 := by rw [hext4.S]; exact hext2.S
      have hSle : S1.le S4 := by rw [← hS4]; exact hst4.sle
      have fin : ∀ (rc : Loop), St N (b1.obj l (some (.loop rc))) ι4 S4 (F2.back dd).ff aM (w5.putObj l (.loop rc)) := by
        intro rc
        have h5 := hst4.putObj (.loop rc) hl4 (by simp)
        have h6 : St N { b1.obj l (some (.loop rc)) with S := S1 } ι4 S4 (F2.back dd).ff aM (w5.putObj l (.loop rc)) := by
          refine h5.other (by simpa [Base.obj] using hw4.symm) (by simp [Base.obj, hS4]) (fun k o e => ?_) (by rw [haM]; exact hnt) (by have := hst.df; simpa [Base.obj] using this) (fun t v e => ?_) (fun s k e => back_blk e)
          · simp only [Base.obj] at e ⊢
            split
            · rename_i q; rw [if_pos q] at e; exact e
            · rename_i q
              rw [if_neg q] at e
              refine hext4.O k o ?_
              simp only [Base.obj, if_neg q]
              exact hext2.O k o e
          · obtain ⟨g1, g2⟩ := look_back (back_var e)
            obtain ⟨y, g3, g4⟩ := h5.vars t v g1
            refine ⟨y, ?_, g4⟩
            have hnD : ¬ D t := fun q => g2 (hD t q)
            rw [← g3, hsame4 t hnD, hsame2 t hnD, haM]
            refine (fold_ne _ _ t fun p hp => ?_).symm
            intro q; subst q
            exact g2 (hps _ (List.of_mem_zip hp).1).2
        refine h6.unS (fun x v q => hk.sle x v q) (fun x v q => hk.snew x v q)
      have hrr : ∀ st pe, ({ ({ rec .ready none with state := .busy } : Loop) with state := st, pending := pe } : Loop) = rec st pe := by
        intro st pe; rw [hrec st pe, hr0]
      cases e with
      | normal =>
        refine ⟨_, _, run_endRound none hloop4, true, S4, rfl, hSle, ?_⟩
        have h7 := fin (rec .ready none)
        have h8 : St N b1 ι4 S4 (F2.back dd).ff aM (w5.putObj l (.loop (rec .ready none))) := by
          refine h7.other rfl rfl (fun k o e => ?_) h7.nt h7.df (fun t v e => h7.vars t v e) (fun _ _ q => q)
          simp only [Base.obj]
          split
          · rename_i q; subst q; rw [hl] at e; exact e
          · exact e
        have he : (w5.putObj l (.loop { ({ rec .ready none with state := .busy } : Loop) with state := if (none : Option Code).isNone then .ready else .done, pending := none })) = w5.putObj l (.loop (rec .ready none)) := by
          rw [← hrr .ready none]; rfl
        rw [he]
        exact ⟨h8.snap, ι4, F2.back dd, hke4, h8⟩
      | ret =>
        refine ⟨_, _, run_endRound (some .ret) hloop4, false, S4, rfl, hSle, ?_⟩
        have h7 := fin (rec .done (some .ret))
        have he : (w5.putObj l (.loop { ({ rec .ready none with state := .busy } : Loop) with state := if (some Code.ret : Option Code).isNone then .ready else .done, pending := some .ret })) = w5.putObj l (.loop (rec .done (some .ret))) := by
          rw [← hrr .done (some .ret)]; rfl
        rw [he]
        exact ⟨h7.snap, ι4, .ret, .ret, F2.back dd, rfl, hke4, h7⟩
      | exit id =>
        refine ⟨_, _, run_endRound (some (.exit id)) hloop4, false, S4, rfl, hSle, ?_⟩
        have h7 := fin (rec .done (some (.exit id)))
        have he : (w5.putObj l (.loop { ({ rec .ready none with state := .busy } : Loop) with state := if (some (Code.exit id) : Option Code).isNone then .ready else .done, pending := some (.exit id) })) = w5.putObj l (.loop (rec .done (some (.exit id)))) := by
          rw [← hrr .done (some (.exit id))]; rfl
        rw [he]
        exact ⟨h7.snap, ι4, .exit id, .exit id, F2.back dd, rfl, hke4, h7⟩
  · -- behind it
    rintro e w' ⟨⟨v, rfl⟩, S', hS', h | h⟩
    · obtain ⟨ι', Fk, hk, hst'⟩ := h
      have hd : xs.drop xs.length = [] := by simp
      rw [hd] at hk
      have hk : K .normal Fk := hk
      have hloop := (hst'.ob l _ hl).2.1
      have hp : (rec .ready none).pending = none := by rw [hrec]
      refine ⟨none, w'.putObj l (.loop { rec .ready none with state := .exhausted }), (run_endLoop hloop (by rw [hrec]; simp)).trans (congrArg (fun c => Result.ok c _) hp), ?_⟩
      have := hst'.putObj (.loop { rec .ready none with state := .exhausted }) hl (by simp)
      rw [← haM]
      exact hQ .normal Fk _ ι' S' aM _ hk this (hExt _) (hBOk _) (by rw [haM]; exact fun t _ => rfl)
    · obtain ⟨ι', e, c, Fk, hc, hk, hst'⟩ := h
      have hlo : (b1.obj l (some (.loop (rec .done (some c))))).O l = some (.loop (rec .done (some c))) := by simp [Base.obj]
      have hloop := (hst'.ob l _ hlo).2.1
      have hp : (rec .done (some c)).pending = some c := by rw [hrec]
      refine ⟨some c, w'.putObj l (.loop { rec .done (some c) with state := .exhausted }), (run_endLoop hloop (by rw [hrec]; simp)).trans (congrArg (fun c => Result.ok c _) hp), ?_⟩
      have h9 := hst'.putObj (.loop { rec .done (some c) with state := .exhausted }) hlo (by simp)
      have h10 : ((b1.obj l (some (.loop (rec .done (some c))))).obj l (some (.loop { rec .done (some c) with state := .exhausted }))) = b1.obj l (some (.loop { rec .done (some c) with state := .exhausted })) := by
        simp only [Base.obj]
        congr 1
        funext k
        by_cases hk : k = l <;> simp [hk]
      rw [h10] at h9
      rw [← haM]
      have := hQ e Fk _ ι' S' aM _ hk h9 (hExt _) (hBOk _) (by rw [haM]; exact fun t _ => rfl)
      cases e with
      | normal => simp [AE.code] at hc
      | ret => simp [AE.code] at hc; subst hc; exact wpIn_ret this
      | exit id => simp [AE.code] at hc; subst hc; exact wpIn_exit this

theorem dm_obj {r : Option Nat} {b : Base} (h : BOk r b) {l : Nat} {o : Option Obj} (hl : ∀ m ∈ b.D, m ≠ l) : ∀ m ∈ b.D, (b.obj l o).O m = some (.deferred (some [])) := fun m hm => by
  simp only [Base.obj, if_neg (hl m hm)]; exact h.dm m hm

/-- **'for .. := range g { .. }'.** -/
theorem rfun_ok {A B : APT} {assign body : Code} {ps : Array Nat} {dd : List Nat} {D D0 : Nat → Prop} (hA : Sound P N D A assign) (hB : Sound P N D B body) (hD : ∀ t, D t → t ∈ dd) (hps : ∀ p ∈ ps.toList, p < N ∧ p ∈ dd)
    {r : Option Nat} {n : Nat} {w0 : Base} {K : AE → Fr → Prop} {F : Fr} {a : Act} {w : World} {Q : Exit → Act → World → Prop} {g : Operand} {u : AV} {f : FuncId} {fi ca : List AV} {fi' ca' : List PV} {xs : List (List PV)}
    (hbok : BOk r w0) (hst : St N w0 ι S F.ff a w) (hg : AVRel ι S u (a.eval g)) (hu : cloOf u = some (f, fi, ca)) (h1 : allP fi = some fi') (h2 : allP ca = some ca') (hG : Gens P f fi' ca' xs) (hR : rounds A B ps.toList dd xs K F)
    (hQ : ∀ e F' w0' ι' S' a' w', K e F' → St N w0' ι' S' F'.ff a' w' → Ext w0 w0' → BOk r w0' → Same D0 a a' → Q e.toExit a' w') : (Code.rangeFunc g ps assign body).wpIn (Fz r) n P Q a w := by
  refine wpIn_rangeFunc fun fn _ => ?_
  have old : ∀ k o, w0.O k = some o → k < w.heap.size := fun k o e => (Array.getElem?_eq_some_iff.1 (hst.ob k o e).2.1).1
  have oldD : ∀ m ∈ w0.D, m < w.heap.size := fun m hm => old m _ (hbok.dm m hm)
  cases r with
  | none =>
    have e1 := run_enterLoop_outer (P := P) (w := w) fn a.tmps ps assign body
    let rc0 : LoopState → Option Code → Loop := fun st pe => { state := st, pending := pe, fn, tmps := a.tmps, params := ps, assign, body, defers := w.heap.size }
    have s1 := hst.newObj (.deferred (some [])) (by simp)
    have s2 := s1.newObj (.loop (rc0 .ready none)) (by simp)
    rw [World.size_alloc] at s2
    let b1 : Base := { ((w0.obj w.heap.size (some (.deferred (some [])))).obj (w.heap.size + 1) (some (.loop (rc0 .ready none)))) with D := w.heap.size :: w0.D }
    have s3 : St N b1 ι S F.ff { a with defers := [markOf w.heap.size] ++ a.defers } ((w.alloc (.deferred (some []))).alloc (.loop (rc0 .ready none))) :=
      s2.other (w0' := b1) rfl rfl (fun _ _ q => q) hst.nt (by simp [b1, hst.df]) (fun t v e => hst.vars t v e |>.imp fun x q => q) (fun _ _ q => q)
    have key := rfun_core (D0 := D0) hA hB hD hps (r := none) (n := n) (w0 := w0) (b1 := b1) hg hu h1 h2 hG hR e1 (rec := rc0) (fun _ _ => rfl) s3 rfl (by simp [b1, Base.obj])
      (fun o => ⟨rfl, rfl, ⟨[w.heap.size], rfl⟩, fun k o' e => by have := old k o' e; simp only [b1, Base.obj]; rw [if_neg (by omega), if_neg (by omega), if_neg (by omega)]; exact e⟩)
      (fun rc => ⟨by simp only [b1, Base.obj]; exact List.nodup_cons.2 ⟨fun q => by have := oldD _ q; omega, hbok.nd⟩, fun m hm => by
        simp only [b1, Base.obj, List.mem_cons] at hm ⊢
        rcases hm with rfl | hm
        · simp
        · have := oldD m hm
          rw [if_neg (by omega), if_neg (by omega), if_neg (by omega)]; exact hbok.dm m hm, fun l e => by simp at e⟩) hQ
    obtain ⟨d, w1', f', args, w2, k1, k2, k3, k4, k5⟩ := key
    exact ⟨_, _, _, d, w1', f', args, w2, e1, k1, k2, k3, k4, k5⟩
  | some l0 =>
    obtain ⟨rec0, hrec0⟩ := hbok.rd l0 rfl
    have e1 := run_enterLoop_inner (P := P) (hst.ob l0 _ hrec0).2.1 fn a.tmps ps assign body
    let rc0 : LoopState → Option Code → Loop := fun st pe => { state := st, pending := pe, fn, tmps := a.tmps, params := ps, assign, body, defers := rec0.defers }
    have s2 := hst.newObj (.loop (rc0 .ready none)) (by simp)
    let b1 : Base := w0.obj w.heap.size (some (.loop (rc0 .ready none)))
    have s3 : St N b1 ι S F.ff { a with defers := [] ++ a.defers } (w.alloc (.loop (rc0 .ready none))) := s2
    have key := rfun_core (D0 := D0) hA hB hD hps (r := some l0) (n := n) (w0 := w0) (b1 := b1) hg hu h1 h2 hG hR e1 (rec := rc0) (fun _ _ => rfl) s3 rfl (by simp [b1, Base.obj])
      (fun o => ⟨rfl, rfl, ⟨[], rfl⟩, fun k o' e => by have := old k o' e; simp only [b1, Base.obj]; rw [if_neg (by omega), if_neg (by omega)]; exact e⟩)
      (fun rc => ⟨hbok.nd, fun m hm => by
        have := oldD m hm
        simp only [b1, Base.obj] at hm ⊢
        rw [if_neg (by omega), if_neg (by omega)]; exact hbok.dm m hm, fun l e => by
          simp at e; subst e
          have := old _ _ hrec0
          exact ⟨rec0, by simp only [b1, Base.obj]; rw [if_neg (by omega), if_neg (by omega)]; exact hrec0⟩⟩) hQ
    obtain ⟨d, w1', f', args, w2, k1, k2, k3, k4, k5⟩ := key
    exact ⟨_, _, _, d, w1', f', args, w2, e1, k1, k2, k3, k4, k5⟩
end
end Go.Abs
namespace Go.Abs
open Go
set_option linter.unusedSimpArgs false
set_option linter.unusedVariables false

/-! ### regions that draw their order, read as if in the order of the text -/
def Opd.reads : Opd → List Nat
  | .v t => [t]
  | .c _ => []
def Opd.readsO : Option Opd → List Nat
  | some o => o.reads
  | none => []
def AOp.reads : AOp → List Nat
  | .mov x | .box x | .load _ _ x | .nilck x | .un _ x | .conv _ x | .faddr _ x | .field _ _ _ x | .ext x _ | .len _ x => x.reads
  | .pick c a b => c.reads ++ (a.reads ++ b.reads)
  | .alloc _ => []
  | .build _ parts => parts.flatMap fun p => p.2.2.reads
  | .bslice _ _ _ _ parts => parts.flatMap fun p => p.2.2.reads
  | .store _ x v => x.reads ++ v.reads
  | .bin _ x y | .eqb _ x y | .eqs _ _ _ x y | .iaddr _ x y | .iaddrA _ _ x y | .idxS x y | .idxA _ _ _ x y | .mm _ x y | .mksl _ _ _ _ x y | .app _ _ _ x y => x.reads ++ y.reads
  | .mkfn _ f c => f.flatMap Opd.reads ++ c.flatMap Opd.reads
  | .slcS x a b | .slcV _ x a b => x.reads ++ (Opd.readsO a ++ Opd.readsO b)
  | .call _ args => args.flatMap Opd.reads
  | .callv x args => x.reads ++ args.flatMap Opd.reads

/-- Operations that turn nothing and read no memory. -/
def AOp.plain : AOp → Bool
  | .alloc _ | .box _ | .bslice _ _ _ _ _ | .load _ _ _ | .store _ _ _ | .mksl _ _ _ _ _ _ | .call _ _ | .callv _ _ | .app _ _ _ _ _ => false
  | _ => true
def AOp.load? : AOp → Bool
  | .load _ _ _ => true
  | _ => false

/-- What the mark says of an instruction: 0: nothing; 1: what it reads is not forgotten; 2: and it turns nothing. -/
def AI.plOk (i : AI) : Bool :=
  match i.pl with
  | 0 => true
  | 1 => (i.b.op.reads ++ (i.b.guard.map (·.1)).toList).all (fun t => !i.drop.contains t) && i.dropS.isEmpty
  | _ => (i.b.op.reads ++ (i.b.guard.map (·.1)).toList).all (fun t => !i.drop.contains t) && (i.b.op.plain || (i.b.op.load? && i.dropS.isEmpty))

section
variable {F G : FF}
theorem val_ag {o : Opd} (h : ∀ t ∈ o.reads, F.var t = G.var t) : F.val o = G.val o := by
  cases o with
  | v t => exact h t (by simp [Opd.reads])
  | c p => rfl
theorem bound_ag {d : Nat} {o : Option Opd} (h : ∀ t ∈ Opd.readsO o, F.var t = G.var t) : boundO F d o = boundO G d o := by
  cases o with
  | none => rfl
  | some x => simp only [boundO]; rw [val_ag h]
theorem vals_ag : ∀ {l : List Opd}, (∀ t ∈ l.flatMap Opd.reads, F.var t = G.var t) → F.vals l = G.vals l
  | [], _ => rfl
  | x :: l, h => by
    simp only [FF.vals]
    rw [val_ag (fun t ht => h t (by simp [List.flatMap_cons, ht])), vals_ag (fun t ht => h t (by simp only [List.flatMap_cons, List.mem_append]; exact .inr ht))]
theorem parts_ag : ∀ {l : List (Nat × Nat × Opd)}, (∀ t ∈ l.flatMap (fun p => p.2.2.reads), F.var t = G.var t) → F.parts l = G.parts l
  | [], _ => rfl
  | (a, b, x) :: l, h => by
    simp only [FF.parts]
    rw [val_ag (fun t ht => h t (by simp [List.flatMap_cons, ht])), parts_ag (fun t ht => h t (by simp only [List.flatMap_cons, List.mem_append]; exact .inr ht))]
theorem evV_ag {op : AOp} (h : ∀ t ∈ op.reads, F.var t = G.var t) (hb : op.plain = true ∨ F.blk = G.blk) : evV F op = evV G op := by
  cases op <;> simp only [AOp.reads, List.mem_append] at h <;> simp only [evV]
  case load agg n x =>
    rw [val_ag h]
    have hb : F.blk = G.blk := by simpa [AOp.plain] using hb
    have : ∀ v, F.read v n = G.read v n := fun v => by unfold FF.read; rw [hb]
    simp only [this]
  case build => rw [parts_ag h]
  case mkfn => rw [vals_ag fun t ht => h t (.inl ht), vals_ag fun t ht => h t (.inr ht)]
  case pick => rw [val_ag fun t ht => h t (.inl ht), val_ag fun t ht => h t (.inr (.inl ht)), val_ag fun t ht => h t (.inr (.inr ht))]
  case slcS x a b =>
    rw [val_ag fun t ht => h t (.inl ht)]
    have ha : ∀ d, boundO F d a = boundO G d a := fun d => bound_ag fun t ht => h t (.inr (.inl ht))
    have hb' : ∀ d, boundO F d b = boundO G d b := fun d => bound_ag fun t ht => h t (.inr (.inr ht))
    simp only [ha, hb']
  case slcV n x a b =>
    rw [val_ag fun t ht => h t (.inl ht)]
    have ha : ∀ d, boundO F d a = boundO G d a := fun d => bound_ag fun t ht => h t (.inr (.inl ht))
    have hb' : ∀ d, boundO F d b = boundO G d b := fun d => bound_ag fun t ht => h t (.inr (.inr ht))
    simp only [ha, hb']
  all_goals first
    | rfl
    | rw [val_ag h]
    | rw [val_ag fun t ht => h t (.inl ht), val_ag fun t ht => h t (.inr ht)]
theorem rows_ag (hb : F.blk = G.blk) {n : Nat} {v : AV} : F.rows n v = G.rows n v := by unfold FF.rows; rw [hb]
theorem reify_ag (hb : F.blk = G.blk) : ∀ (n : Nat) (v : AV), F.reify n v = G.reify n v
  | 0, v => by cases v <;> simp [FF.reify, rows_ag hb]
  | n + 1, v => by
    have ih : F.reify n = G.reify n := funext (reify_ag hb n)
    cases v <;> simp [FF.reify, rows_ag hb, ih, hb]
theorem evDel_ag {op : AOp} {d : Nat} (h : ∀ t ∈ op.reads, F.var t = G.var t) (hb : op.plain = true ∨ F.blk = G.blk) : evDel F d op = evDel G d op := by
  cases op
  case alloc => rfl
  case box x => simp only [evDel, evN]; rw [val_ag h]
  case bslice => simp only [evDel, evN]; rw [parts_ag h]
  case mksl e n b z l c =>
    simp only [evDel, evN]
    simp only [AOp.reads, List.mem_append] at h
    rw [val_ag fun t ht => h t (.inl ht), val_ag fun t ht => h t (.inr ht)]
  case store n x v =>
    have hb : F.blk = G.blk := by simpa [AOp.plain] using hb
    simp only [evDel, evS]
    simp only [AOp.reads, List.mem_append] at h
    rw [val_ag fun t ht => h t (.inl ht), val_ag fun t ht => h t (.inr ht), hb]
  case app e n b s x =>
    have hb : F.blk = G.blk := by simpa [AOp.plain] using hb
    have hr : F.rows n = G.rows n := funext fun v => rows_ag hb
    simp only [evDel, evA]
    simp only [AOp.reads, List.mem_append] at h
    rw [val_ag fun t ht => h t (.inl ht), val_ag fun t ht => h t (.inr ht), hb, hr]
  all_goals (simp only [evDel]; rw [evV_ag h hb])
theorem exCall_ag {P : Program} {d : Nat} {f : FuncId} {vs : List AV} {δ : Del} (hb : F.blk = G.blk) (h : exCall P F d f vs δ) : exCall P G d f vs δ := by
  rcases h with h | ⟨ps, v, h1, h2⟩
  · exact .inl h
  · refine .inr ⟨ps, v, ?_, h2⟩
    rw [← h1]
    unfold FF.reifyL
    rw [show F.reify 4 = G.reify 4 from funext (reify_ag hb 4)]
theorem awpStep_ag {P : Program} {i : AB} {ok : Del → Bool} {K : Del → Prop} (h : ∀ t ∈ i.op.reads, F.var t = G.var t) (hb : i.op.plain = true ∨ F.blk = G.blk) (e : awpStep P F i ok K) : awpStep P G i ok K := by
  unfold awpStep at e ⊢
  generalize i.op = op at *
  cases op
  case call f args =>
    dsimp only at e ⊢
    have hb : F.blk = G.blk := by simpa [AOp.plain] using hb
    rw [← vals_ag h]
    cases h1 : F.vals args with
    | none => rw [h1] at e; exact e.elim
    | some vs =>
      rw [h1] at e
      obtain ⟨δ, h2, h3⟩ := e
      exact ⟨δ, exCall_ag hb h2, h3⟩
  case callv x args =>
    dsimp only at e ⊢
    have hb : F.blk = G.blk := by simpa [AOp.plain] using hb
    simp only [AOp.reads, List.mem_append] at h
    rw [← val_ag fun t ht => h t (.inl ht), ← vals_ag fun t ht => h t (.inr ht)]
    cases h1 : F.val x with
    | none => simp only [h1] at e
    | some u =>
      cases h2 : F.vals args with
      | none => simp only [h1, h2] at e
      | some vs =>
        simp only [h1, h2] at e ⊢
        split at e
        · rename_i f fi ca h3
          obtain ⟨δ, h4, h5⟩ := e
          exact ⟨δ, exCall_ag hb h4, h5⟩
        · exact e.elim
  all_goals (dsimp only at e ⊢; rw [← evDel_ag h hb]; exact e)
theorem awpI_ag {P : Program} {i : AB} {ok : Del → Bool} {K : Del → Prop} (h : ∀ t ∈ i.op.reads ++ (i.guard.map (·.1)).toList, F.var t = G.var t) (hb : i.op.plain = true ∨ F.blk = G.blk) (e : awpI P F i ok K) : awpI P G i ok K := by
  have h1 : ∀ t ∈ i.op.reads, F.var t = G.var t := fun t ht => h t (List.mem_append.2 (.inl ht))
  unfold awpI at e ⊢
  split at e
  · exact awpStep_ag h1 hb e
  · rename_i t want hg
    rw [← h t (by simp [hg])]
    split at e
    · exact ⟨fun q => awpStep_ag h1 hb (e.1 q), e.2⟩
    · exact e
    · exact e.elim
end

theorem awpStep_mono' {P : Program} {G : FF} {i : AB} {ok ok' : Del → Bool} {K K' : Del → Prop} (ho : ∀ δ, exOp P G (i.dst.getD 0) i.op δ → ok δ = true → ok' δ = true) (h : ∀ δ, exOp P G (i.dst.getD 0) i.op δ → K δ → K' δ) (e : awpStep P G i ok K) : awpStep P G i ok' K' := by
  unfold awpStep at *
  split at e
  · rename_i f args hop
    split at e
    · rename_i vs h1
      obtain ⟨δ, h2, h3, h4⟩ := e
      have hx : exOp P G (i.dst.getD 0) i.op δ := by rw [hop]; exact ⟨vs, h1, h2⟩
      exact ⟨δ, h2, ho δ hx h3, h δ hx h4⟩
    · exact e
  · rename_i x args hop
    split at e
    · rename_i u vs h1 h2
      split at e
      · rename_i f fi ca h3
        obtain ⟨δ, h4, h5, h6⟩ := e
        have hx : exOp P G (i.dst.getD 0) i.op δ := by rw [hop]; exact ⟨u, vs, f, fi, ca, h1, h2, h3, h4⟩
        exact ⟨δ, h4, ho δ hx h5, h δ hx h6⟩
      · exact e
    · exact e
  · rename_i h1 h2
    split at e
    · rename_i δ hδ
      have hx : exOp P G (i.dst.getD 0) i.op δ := by
        generalize i.op = op at *
        cases op <;> first | exact hδ | exact absurd rfl (h1 _ _) | exact absurd rfl (h2 _ _)
      exact ⟨ho δ hx e.1, h δ hx e.2⟩
    · exact e
theorem awpI_mono' {P : Program} {G : FF} {i : AB} {ok ok' : Del → Bool} {K K' : Del → Prop} (ho : ∀ δ, exOp P G (i.dst.getD 0) i.op δ → ok δ = true → ok' δ = true) (h : ∀ δ, (exOp P G (i.dst.getD 0) i.op δ ∨ δ = ⟨.p (.tup []), [], []⟩) → K δ → K' δ) (e : awpI P G i ok K) : awpI P G i ok' K' := by
  unfold awpI at *
  split at e
  · exact awpStep_mono' ho (fun δ hx => h δ (.inl hx)) e
  · split at e
    · exact ⟨fun q => awpStep_mono' ho (fun δ hx => h δ (.inl hx)) (e.1 q), fun q => h _ (.inr rfl) (e.2 q)⟩
    · exact h _ (.inr rfl) e
    · exact e

/-! #### the reading -/
def addN (k : Nat) (l : List Slot) (hn : List (Nat × List Slot)) : List (Nat × List Slot) := match l with
  | [] => hn
  | l => (k, l) :: hn
def okP (hn : List (Nat × List Slot)) (na : List Nat) (δ : Del) : Bool := hn.all fun h => !(na.contains h.1) || h.2.all fun s => δ.noSlot s
def okX (F0 : Fr) (hist : List Del) (hn : List (Nat × List Slot)) (i : AI) (δ : Del) : Bool :=
  ((newS i.b.op δ).all fun s => F0.noSlot s && hist.all fun h => h.noSlot s) && okP hn i.na δ && δ.owners.all fun o => i.keys.contains o

def awpX (P : Program) (F0 : Fr) : Nat → List Del → List (Nat × List Slot) → List AI → (Fr → Prop) → Fr → Prop
  | _, _, _, [], K, F => K F
  | k, hist, hn, i :: l, K, F => match i.pl with
    | 0 => awpI P (F.erase i.drop i.dropS).ff i.b (okX F0 hist hn i) fun δ => awpX P F0 (k + 1) (δ :: hist) (addN k (newS i.b.op δ) hn) l K (F.app i.b.dst δ)
    | 1 => awpI P F.ff i.b (okX F0 hist hn i) fun δ => awpX P F0 (k + 1) (δ :: hist) (addN k (newS i.b.op δ) hn) l K (F.app i.b.dst δ)
    | _ => awpI P F.ff i.b (okP hn i.na) fun δ => awpX P F0 (k + 1) (δ :: hist) hn l K (F.app i.b.dst δ)

def okPl (l : List AI) : Bool := l.all AI.plOk

theorem newS_plain {P : Program} {F : FF} {d : Nat} {op : AOp} {δ : Del} (hp : op.plain = true ∨ op.load? = true) (h : exOp P F d op δ ∨ δ = ⟨.p (.tup []), [], []⟩) : δ.blks = [] ∧ δ.del = [] := by
  rcases h with h | rfl
  · cases op <;> simp [AOp.plain, AOp.load?] at hp
    all_goals (simp only [exOp, evDel, Option.map_eq_some_iff] at h; obtain ⟨v, -, rfl⟩ := h; exact ⟨rfl, rfl⟩)
  · exact ⟨rfl, rfl⟩

theorem okP_all {hist : List (Nat × Del × List Slot)} {hn : List (Nat × List Slot)} (hh : ∀ x ∈ hist, x.2.2 = [] ∨ (x.1, x.2.2) ∈ hn) {na : List Nat} {δ : Del} (h : okP hn na δ = true) : (hist.all fun h => !(na.contains h.1) || h.2.2.all fun s => δ.noSlot s) = true := by
  rw [List.all_eq_true]
  intro x hx
  rcases hh x hx with h1 | h1
  · simp [h1]
  · exact List.all_eq_true.1 h _ h1

theorem awpX_ok {P : Program} {F0 : Fr} {K : Fr → Prop} : ∀ {l : List AI} {k : Nat} {hist : List (Nat × Del × List Slot)} {hn : List (Nat × List Slot)} {F : Fr}, okPl l = true → (∀ x ∈ hist, x.2.2 = [] ∨ (x.1, x.2.2) ∈ hn) →
    awpX P F0 k (hist.map (·.2.1)) hn l K F → awpD P F0 k hist l K F
  | [], _, _, _, _, _, _, h => h
  | i :: l, k, hist, hn, F, hp, hh, h => by
    simp only [okPl, List.all_cons, Bool.and_eq_true] at hp
    have hpl : okPl l = true := hp.2
    have hadd : ∀ δ : Del, ∀ x ∈ (k, δ, newS i.b.op δ) :: hist, x.2.2 = [] ∨ (x.1, x.2.2) ∈ addN k (newS i.b.op δ) hn := by
      intro δ x hx
      simp only [List.mem_cons] at hx
      unfold addN
      rcases hx with rfl | hx
      · split
        · rename_i e; exact .inl e
        · exact .inr (List.mem_cons_self ..)
      · rcases hh x hx with h1 | h1
        · exact .inl h1
        · split
          · exact .inr h1
          · exact .inr (List.mem_cons_of_mem _ h1)
    have hok : ∀ δ : Del, okX F0 (hist.map (·.2.1)) hn i δ = true → okD F0 hist i δ = true := by
      intro δ h
      simp only [okX, Bool.and_eq_true] at h
      simp only [okD, Bool.and_eq_true]
      refine ⟨⟨?_, okP_all hh h.1.2⟩, h.2⟩
      rw [List.all_eq_true]
      intro s hs
      have := List.all_eq_true.1 h.1.1 s hs
      simpa [List.all_map, Function.comp_def] using this
    have hvar : ∀ {dropS : List Nat}, ((i.b.op.reads ++ (i.b.guard.map (·.1)).toList).all fun t => !i.drop.contains t) = true → ∀ t ∈ i.b.op.reads ++ (i.b.guard.map (·.1)).toList, F.ff.var t = (F.erase i.drop dropS).ff.var t := by
      intro dropS h t ht
      have := List.all_eq_true.1 h t ht
      simp only [Fr.ff, Fr.var, Fr.erase]
      rw [look_filter (fun x => !i.drop.contains x), if_pos this]
    have hblk : i.dropS.isEmpty = true → F.ff.blk = (F.erase i.drop i.dropS).ff.blk := by
      intro h
      have : i.dropS = [] := by simpa using h
      funext s
      simp only [Fr.ff, Fr.blk, Fr.erase, this]
      rw [look_filter (fun x : Slot => !([] : List Nat).contains x.1)]; rfl
    have hpl' := hp.1
    unfold AI.plOk at hpl'
    simp only [awpD]
    simp only [awpX] at h
    split at h
    · exact awpI_mono' (fun δ _ => hok δ) (fun δ _ q => awpX_ok hpl (hadd δ) q) h
    · rename_i h1
      simp only [h1, Bool.and_eq_true] at hpl'
      exact awpI_ag (hvar hpl'.1) (.inr (hblk hpl'.2)) (awpI_mono' (fun δ _ => hok δ) (fun δ _ q => awpX_ok hpl (hadd δ) q) h)
    · rename_i h1 h2
      have hpl'' : ((i.b.op.reads ++ (i.b.guard.map (·.1)).toList).all (fun t => !i.drop.contains t) && (i.b.op.plain || (i.b.op.load? && i.dropS.isEmpty))) = true := by
        split at hpl'
        · rename_i e; exact absurd e h1
        · rename_i e; exact absurd e h2
        · exact hpl'
      simp only [Bool.and_eq_true, Bool.or_eq_true] at hpl''
      have hpn : i.b.op.plain = true ∨ i.b.op.load? = true := hpl''.2.imp id (·.1)
      refine awpI_ag (hvar hpl''.1) (hpl''.2.imp id fun q => hblk q.2) (awpI_mono' (fun δ hx q => ?_) (fun δ hx q => ?_) h)
      · obtain ⟨e1, e2⟩ := newS_plain hpn (.inl hx)
        simp only [okD, Bool.and_eq_true]
        refine ⟨⟨?_, okP_all hh q⟩, by simp [Del.owners, e1, e2]⟩
        have : newS i.b.op δ = [] := by unfold newS; split <;> simp [e1]
        rw [this]; rfl
      · obtain ⟨e1, e2⟩ := newS_plain hpn hx
        have hn0 : newS i.b.op δ = [] := by unfold newS; split <;> simp [e1]
        refine awpX_ok hpl (fun x hx => ?_) q
        simp only [List.mem_cons] at hx
        rcases hx with rfl | hx
        · exact .inl hn0
        · exact hh x hx
theorem awpX_D {P : Program} {F : Fr} {l : List AI} {K : Fr → Prop} (hp : okPl l = true) (h : awpX P F 0 [] [] l K F) : awpD P F 0 [] l K F := awpX_ok hp (by simp) h
theorem okP_nil {na : List Nat} {δ : Del} : okP [] na δ = true := rfl
theorem okX_p {F0 : Fr} {hist : List Del} {hn : List (Nat × List Slot)} {i : AI} {v : PV} : okX F0 hist hn i ⟨.p v, [], []⟩ = true := by
  have : newS i.b.op ⟨.p v, [], []⟩ = [] := by unfold newS; split <;> rfl
  simp [okX, this, okP, Del.owners, Del.noSlot, AV.noSlot]
end Go.Abs
namespace Go.Abs
open Go
set_option linter.unusedSimpArgs false
set_option linter.unusedVariables false

inductive AC where
  | skip
  | seq (x y : AC)
  | cond (c : Opd) (x y : AC)
  | block (id : Nat) (x : AC)
  | loop (x : AC)
  | exit (id : Nat)
  | ret
  | reg (l : List AB)
  | draw (l : List AI)
  | ghost (g : Ghost) (x : AC)
  | rfun (g : Opd) (ps dd : List Nat) (x y : AC)
  deriving Inhabited

def AC.strip : AC → AC
  | .seq x y => .seq x.strip y.strip
  | .cond c x y => .cond c x.strip y.strip
  | .block id x => .block id x.strip
  | .loop x => .loop x.strip
  | .draw l => .draw (l.map fun i => ⟨i.b, [], [], [], [], 0⟩)
  | .ghost _ x => x.strip
  | .rfun g ps _ x y => .rfun g ps [] x.strip y.strip
  | c => c

/-- The temporaries that it writes (the rounds of a loop over a function have their own). -/
def AC.dsts : AC → List Nat
  | .seq x y => x.dsts ++ y.dsts
  | .cond _ x y => x.dsts ++ y.dsts
  | .block _ x => x.dsts
  | .loop x => x.dsts
  | .ghost _ x => x.dsts
  | .reg l => l.filterMap (·.dst)
  | .draw l => l.filterMap (·.b.dst)
  | _ => []

def AC.okAll : AC → Bool
  | .seq x y => x.okAll && y.okAll
  | .cond _ x y => x.okAll && y.okAll
  | .block _ x => x.okAll
  | .loop x => x.okAll
  | .draw l => okMarks l && okPl l
  | .ghost _ x => x.okAll
  | .rfun _ ps dd x y => x.okAll && y.okAll && (ps ++ (x.dsts ++ y.dsts)).all fun t => dd.contains t
  | _ => true

def resolveIs (P : Program) (N : Nat) (ops : Array Oper) : List Oper → Option (List AB)
  | [] => some []
  | o :: l => match resolveI P N ops o, resolveIs P N ops l with
    | some i, some r => some (i :: r)
    | _, _ => none

def resolveC (P : Program) (N : Nat) : Code → Option AC
  | .skip => some .skip
  | .region _ ops d => match resolveIs P N ops ops.toList with
    | some l => some (if d then .draw (l.map fun i => ⟨i, [], [], [], [], 0⟩) else .reg l)
    | none => none
  | .seq a b => match resolveC P N a, resolveC P N b with
    | some x, some y => some (.seq x y)
    | _, _ => none
  | .cond c a b => match rO c, resolveC P N a, resolveC P N b with
    | some c, some x, some y => some (.cond c x y)
    | _, _, _ => none
  | .block id a => (resolveC P N a).map (.block id)
  | .loop a => (resolveC P N a).map .loop
  | .exit id => some (.exit id)
  | .ret => some .ret
  | .rangeFunc g ps a b => match rO g, resolveC P N a, resolveC P N b with
    | some g, some x, some y => if ps.toList.all (fun t => decide (t < N)) then some (.rfun g ps.toList [] x y) else none
    | _, _, _ => none
  | _ => none

def lp (b : APT) : Nat → APT
  | 0 => fun _ _ => False
  | n + 1 => fun K F => b (fun e F' => match e with | .normal => lp b n K F' | e => K e F') F

def awp (P : Program) : AC → APT
  | .skip => fun K F => K .normal F
  | .seq x y => fun K F => awp P x (fun e F' => match e with | .normal => awp P y K F' | e => K e F') F
  | .cond c x y => fun K F => match F.ff.val c with
    | some (.p (.bool b)) => (b = true → awp P x K F) ∧ (b = false → awp P y K F)
    | _ => False
  | .block id x => fun K F => awp P x (fun e F' => match e with | .exit i => if i = id then K .normal F' else K (.exit i) F' | e => K e F') F
  | .loop x => fun K F => ∃ n, lp (awp P x) n K F
  | .exit id => fun K F => K (.exit id) F
  | .ret => fun K F => K .ret F
  | .reg l => fun K F => awpR P l (K .normal) F
  | .draw l => fun K F => awpX P F 0 [] [] l (K .normal) F
  | .ghost g x => fun K F => match g.app F with
    | some F' => awp P x K F'
    | none => False
  | .rfun g ps dd x y => fun K F => match F.ff.val g with
    | some u => match cloOf u with
      | some (f, fi, ca) => ∃ fi' ca' xs, allP fi = some fi' ∧ allP ca = some ca' ∧ Gens P f fi' ca' xs ∧ rounds (awp P x) (awp P y) ps dd xs K F
      | none => False
    | none => False

section
variable {P : Program} {N : Nat} {w0 : Base}

theorem resolveIs_get {ops : Array Oper} : ∀ {l : List Oper} {r : List AB}, resolveIs P N ops l = some r → r.length = l.length ∧ ∀ (j : Nat) (i : AB), r[j]? = some i → ∃ o, l[j]? = some o ∧ resolveI P N ops o = some i
  | [], r, h => by simp [resolveIs] at h; subst h; simp
  | o :: l, r, h => by
    simp only [resolveIs] at h
    split at h
    · rename_i i r' e1 e2
      simp at h; subst h
      obtain ⟨h1, h2⟩ := resolveIs_get e2
      refine ⟨by simp [h1], fun j i' e => ?_⟩
      cases j with
      | zero => simp at e; subst e; exact ⟨o, rfl, e1⟩
      | succ j => simp at e ⊢; exact h2 j i' e
    · simp at h

theorem least {p : Nat → Prop} (h : ∃ n, p n) : ∃ n, p n ∧ ∀ m, m < n → ¬ p m := by
  obtain ⟨n, hn⟩ := h
  induction n using Nat.strongRecOn with
  | _ n ih =>
    by_cases hq : ∃ m, m < n ∧ p m
    · obtain ⟨m, h1, h2⟩ := hq; exact ih m h1 h2
    · exact ⟨n, hn, fun m hm hp => hq ⟨m, hm, hp⟩⟩

open Classical in
noncomputable def leastOf (p : Nat → Prop) : Nat := if h : ∃ n, p n then (least h).choose else 0
theorem leastOf_spec {p : Nat → Prop} (h : ∃ n, p n) : p (leastOf p) ∧ ∀ m, p m → leastOf p ≤ m := by
  unfold leastOf
  rw [dif_pos h]
  have := (least h).choose_spec
  exact ⟨this.1, fun m hm => Nat.le_of_not_lt fun hlt => this.2 m hlt hm⟩

theorem resolveIs_ops {ops : Array Oper} {r : List AB} (h : resolveIs P N ops ops.toList = some r) : NoDefer ops ∧ ∀ (k : Nat) (o : Oper), ops[k]? = some o → ∃ i, r[k]? = some i ∧ i.dst = o.dst := by
  obtain ⟨q1, q2⟩ := resolveIs_get h
  have key : ∀ (k : Nat) (o : Oper), ops[k]? = some o → ∃ i, r[k]? = some i ∧ resolveI P N ops o = some i := by
    intro k o ho
    have hlt : k < r.length := by rw [q1]; have := (Array.getElem?_eq_some_iff.1 ho).1; simpa using this
    obtain ⟨o', h1, h2⟩ := q2 k r[k] (by simp [hlt])
    rw [Array.getElem?_toList, ho] at h1
    simp at h1; subst h1
    exact ⟨_, by simp [hlt], h2⟩
  refine ⟨fun k o ho c hc => ?_, fun k o ho => ?_⟩
  · obtain ⟨i, _, h2⟩ := key k o ho
    unfold resolveI at h2
    rw [hc] at h2
    simp [resolveOp] at h2
  · obtain ⟨i, h1, h2⟩ := key k o ho
    refine ⟨i, h1, ?_⟩
    unfold resolveI at h2
    split at h2
    · simp at h2
    · split at h2
      · split at h2
        · simp at h2; subst h2; rfl
        · split at h2
          · simp at h2; subst h2; rfl
          · simp at h2
      · simp at h2

theorem awp_ok (hm : P.follows .mixedOrders = true) : ∀ (ac : AC) (c : Code) (D : Nat → Prop), resolveC P N c = some ac.strip → ac.okAll = true → (∀ t ∈ ac.dsts, D t) → Sound P N D (awp P ac) c := by
  intro ac
  induction ac with
  | ghost g x ih =>
    intro c D hr ho hD r n w0 K F ι S a w Q hb h hst hQ
    simp only [awp] at h
    split at h
    · rename_i F' hF
      obtain ⟨ι', S', hst'⟩ := ghost_ok hst hF
      exact ih c D hr ho hD r n w0 K F' ι' S' a w Q hb h hst' hQ
    · exact h.elim
  | skip =>
    intro c D hr ho hD r n w0 K F ι S a w Q hb h hst hQ
    cases c <;> simp only [resolveC, AC.strip] at hr
    · exact wpIn_skip (hQ .normal F w0 ι S a w h hst (.refl _) hb (.refl _ _))
    all_goals (try simp only [Option.map_eq_some_iff] at hr)
    all_goals (repeat' split at hr)
    all_goals (simp at hr)
  | seq x y ihx ihy =>
    intro c D hr ho hD r n w0 K F ι S a w Q hb h hst hQ
    simp only [AC.okAll, Bool.and_eq_true] at ho
    simp only [AC.dsts, List.mem_append] at hD
    cases c <;> simp only [resolveC, AC.strip] at hr
    case seq a' b' =>
      split at hr
      · rename_i x' y' h1 h2
        simp at hr
        obtain ⟨rfl, rfl⟩ := hr
        refine wpIn_seq (ihx _ D h1 ho.1 (fun t ht => hD t (.inl ht)) r n w0 _ F ι S a w _ hb h hst fun e F' w0' ι' S' a' w' hk hst' hx hb' hs => ?_)
        cases e with
        | normal => exact ihy _ D h2 ho.2 (fun t ht => hD t (.inr ht)) r n w0' K F' ι' S' a' w' Q hb' hk hst' fun e F'' w0'' ι'' S'' a'' w'' hk'' hst'' hx'' hb'' hs'' => hQ e F'' w0'' ι'' S'' a'' w'' hk'' hst'' (hx.trans hx'') hb'' (hs.trans hs'')
        | exit id => exact hQ (.exit id) F' w0' ι' S' a' w' hk hst' hx hb' hs
        | ret => exact hQ .ret F' w0' ι' S' a' w' hk hst' hx hb' hs
      · simp at hr
    all_goals (try simp only [Option.map_eq_some_iff] at hr)
    all_goals (repeat' split at hr)
    all_goals (simp at hr)
  | cond c' x y ihx ihy =>
    intro c D hr ho hD r n w0 K F ι S a w Q hb h hst hQ
    simp only [AC.okAll, Bool.and_eq_true] at ho
    simp only [AC.dsts, List.mem_append] at hD
    cases c <;> simp only [resolveC, AC.strip] at hr
    case cond c'' a' b' =>
      split at hr
      · rename_i q x' y' h1 h2 h3
        simp at hr
        obtain ⟨rfl, rfl, rfl⟩ := hr
        simp only [awp] at h
        split at h
        · rename_i b hbv
          have := inv_bool (hst.val h1 hbv)
          refine wpIn_cond_split this (fun ht => ?_) (fun hf => ?_)
          · exact ihx _ D h2 ho.1 (fun t ht => hD t (.inl ht)) r n w0 K F ι S a w Q hb (h.1 ht) hst hQ
          · exact ihy _ D h3 ho.2 (fun t ht => hD t (.inr ht)) r n w0 K F ι S a w Q hb (h.2 hf) hst hQ
        · exact h.elim
      · simp at hr
    all_goals (try simp only [Option.map_eq_some_iff] at hr)
    all_goals (repeat' split at hr)
    all_goals (simp at hr)
  | block id x ih =>
    intro c D hr ho hD r n w0 K F ι S a w Q hb h hst hQ
    cases c <;> simp only [resolveC, AC.strip] at hr
    case block id' a' =>
      simp only [Option.map_eq_some_iff, AC.block.injEq] at hr
      obtain ⟨x', h1, rfl, rfl⟩ := hr
      refine wpIn_block (ih _ D h1 ho hD r n w0 _ F ι S a w _ hb h hst fun e F' w0' ι' S' a' w' hk hst' hx hb' hs => ?_)
      cases e with
      | normal => exact hQ .normal F' w0' ι' S' a' w' hk hst' hx hb' hs
      | exit i =>
        simp only [AE.toExit, Exit.inBlock]
        dsimp only at hk
        split
        · rename_i hi; rw [if_pos hi] at hk; exact hQ .normal F' w0' ι' S' a' w' hk hst' hx hb' hs
        · rename_i hi; rw [if_neg hi] at hk; exact hQ (.exit i) F' w0' ι' S' a' w' hk hst' hx hb' hs
      | ret => exact hQ .ret F' w0' ι' S' a' w' hk hst' hx hb' hs
    all_goals (try simp only [Option.map_eq_some_iff] at hr)
    all_goals (repeat' split at hr)
    all_goals (simp at hr)
  | loop x ih =>
    intro c D hr ho hD r n w0 K F ι S a w Q hb h hst hQ
    cases c <;> simp only [resolveC, AC.strip] at hr
    case loop a0 =>
      simp only [Option.map_eq_some_iff, AC.loop.injEq] at hr
      obtain ⟨x', h1, rfl⟩ := hr
      let J : Act → World → Nat → Prop := fun a' w' n => ∃ F ι S w0', lp (awp P x) n K F ∧ St N w0' ι S F.ff a' w' ∧ Ext w0 w0' ∧ BOk r w0' ∧ Same D a a'
      refine wpIn_loop (fun a w => ∃ n, J a w n) (fun a w => leastOf (J a w)) ?_ ?_
      · obtain ⟨n, hn⟩ := h; exact ⟨n, F, ι, S, w0, hn, hst, .refl _, hb, .refl _ _⟩
      · intro a1 w1 hI
        obtain ⟨⟨F1, ι1, S1, b1, hlp, hst1, hx1, hb1, hs1⟩, hmin⟩ := leastOf_spec hI
        generalize hn : leastOf (J a1 w1) = n at *
        cases n with
        | zero => exact hlp.elim
        | succ m =>
          refine ih _ D h1 ho hD r _ b1 _ F1 ι1 S1 a1 w1 _ hb1 hlp hst1 fun e F' w0' ι' S' a' w' hk hst' hx hb' hs => ?_
          cases e with
          | normal =>
            have hJ : J a' w' m := ⟨F', ι', S', w0', hk, hst', hx1.trans hx, hb', hs1.trans hs⟩
            refine ⟨⟨m, hJ⟩, ?_⟩
            have := (leastOf_spec ⟨m, hJ⟩).2 m hJ
            omega
          | exit id => exact hQ (.exit id) F' w0' ι' S' a' w' hk hst' (hx1.trans hx) hb' (hs1.trans hs)
          | ret => exact hQ .ret F' w0' ι' S' a' w' hk hst' (hx1.trans hx) hb' (hs1.trans hs)
    all_goals (try simp only [Option.map_eq_some_iff] at hr)
    all_goals (repeat' split at hr)
    all_goals (simp at hr)
  | exit id =>
    intro c D hr ho hD r n w0 K F ι S a w Q hb h hst hQ
    cases c <;> simp only [resolveC, AC.strip] at hr
    case exit id' =>
      simp at hr; subst hr
      exact wpIn_exit (hQ (.exit id') F w0 ι S a w h hst (.refl _) hb (.refl _ _))
    all_goals (try simp only [Option.map_eq_some_iff] at hr)
    all_goals (repeat' split at hr)
    all_goals (simp at hr)
  | ret =>
    intro c D hr ho hD r n w0 K F ι S a w Q hb h hst hQ
    cases c <;> simp only [resolveC, AC.strip] at hr
    case ret => exact wpIn_ret (hQ .ret F w0 ι S a w h hst (.refl _) hb (.refl _ _))
    all_goals (try simp only [Option.map_eq_some_iff] at hr)
    all_goals (repeat' split at hr)
    all_goals (simp at hr)
  | reg l =>
    intro c D hr ho hD r n w0 K F ι S a w Q hb h hst hQ
    cases c <;> simp only [resolveC, AC.strip] at hr
    case region id ops d =>
      split at hr
      · rename_i l' h1
        cases d with
        | true => simp at hr
        | false =>
          simp at hr; subst hr
          obtain ⟨q1, q2⟩ := resolveIs_get h1
          obtain ⟨q3, q4⟩ := resolveIs_ops h1
          refine wpIn_region ?_
          have : List.range ops.size = List.range' 0 l'.length := by rw [q1, List.range_eq_range']; simp
          rw [this]
          refine toIn (D := D) (a0 := a) (X := fun a' w' => ∃ F' ι' S', K .normal F' ∧ St N w0 ι' S' F'.ff a' w') (fun k o ho d hd => ?_) q3 ?_ _ a w ?_ (.refl _ _)
          · obtain ⟨i, g1, g2⟩ := q4 k o ho
            exact hD d (List.mem_filterMap.2 ⟨i, List.mem_of_getElem? g1, by rw [g2, hd]⟩)
          · rintro a' w' ⟨F', ι', S', g1, g2⟩ g3
            exact hQ .normal F' w0 ι' S' a' w' g1 g2 (.refl _) hb g3
          · exact awpR_ok (Q := Qn _) l' 0 F ι S a w (fun j i hj => by simpa using q2 j i hj) h hst (fun F' ι' S' a' w' hk hst' => ⟨F', ι', S', hk, hst'⟩)
      · simp at hr
    all_goals (try simp only [Option.map_eq_some_iff] at hr)
    all_goals (repeat' split at hr)
    all_goals (simp at hr)
  | draw l =>
    intro c D hr ho hD r n w0 K F ι S a w Q hb h hst hQ
    cases c <;> simp only [resolveC, AC.strip] at hr
    case region id ops d =>
      split at hr
      · rename_i l' h1
        cases d with
        | false => simp at hr
        | true =>
          simp only [if_true, Option.some.injEq, AC.draw.injEq] at hr
          obtain ⟨q1, q2⟩ := resolveIs_get h1
          obtain ⟨q3, q4⟩ := resolveIs_ops h1
          have hb' : l' = l.map (·.b) := by
            have := congrArg (List.map (·.b)) hr
            simpa [List.map_map, Function.comp_def] using this
          refine wpIn_region_any hm ?_
          refine toAny (D := D) (a0 := a) (X := fun a' w' => ∃ F' ι' S', K .normal F' ∧ St N w0 ι' S' F'.ff a' w') (fun k o ho d hd => ?_) q3 ?_ _ _ a _ ?_ (.refl _ _)
          · obtain ⟨i, g1, g2⟩ := q4 k o ho
            rw [hb', List.getElem?_map, Option.map_eq_some_iff] at g1
            obtain ⟨i', g1, g5⟩ := g1
            exact hD d (List.mem_filterMap.2 ⟨i', List.mem_of_getElem? g1, by rw [g5, g2, hd]⟩)
          · rintro a' w' ⟨F', ι', S', g1, g2⟩ g3
            exact hQ .normal F' w0 ι' S' a' w' g1 g2 (.refl _) hb g3
          refine awpD_ok (Q := Qn _) (K := K .normal) (F0 := F) (l := l) ?_ (fun k i hk => ?_) (Bool.and_eq_true _ _ ▸ ho).1 (awpX_D (Bool.and_eq_true _ _ ▸ ho).2 h) (hst.step0 (S' := S) (Keep.drew w) (fun _ _ q => q) (fun x v q => hst.snap x v q) (fun x v q => .inl q)) (fun F' ι' S' a' w' hk hst' => ⟨F', ι', S', hk, hst'⟩)
          · rw [hb'] at q1; simpa using q1
          · obtain ⟨o, h2, h3⟩ := q2 k i.b (by rw [hb']; simp [hk])
            exact ⟨o, by simpa using h2, h3⟩
      · simp at hr
    all_goals (try simp only [Option.map_eq_some_iff] at hr)
    all_goals (repeat' split at hr)
    all_goals (simp at hr)
  | rfun g ps dd x y ihx ihy =>
    intro c D hr ho hD r n w0 K F ι S a w Q hb h hst hQ
    simp only [AC.okAll, Bool.and_eq_true, List.all_eq_true, List.contains_iff_mem, List.mem_append] at ho
    cases c <;> simp only [resolveC, AC.strip] at hr
    case rangeFunc g' ps' a' b' =>
      split at hr
      · rename_i q x' y' h1 h2 h3
        split at hr
        · rename_i hps
          simp at hr
          obtain ⟨rfl, rfl, rfl, rfl⟩ := hr
          simp only [awp] at h
          split at h
          · rename_i u hu
            split at h
            · rename_i f fi ca hc
              obtain ⟨fi', ca', xs, e1, e2, hG, hR⟩ := h
              simp only [List.all_eq_true, decide_eq_true_eq] at hps
              exact rfun_ok (D := fun t => t ∈ x.dsts ∨ t ∈ y.dsts) (ihx _ _ h2 ho.1.1 fun t ht => .inl ht) (ihy _ _ h3 ho.1.2 fun t ht => .inr ht) (fun t ht => ho.2 t (.inr ht)) (fun p hp => ⟨hps p hp, ho.2 p (.inl hp)⟩) hb hst (hst.val h1 hu) hc e1 e2 hG hR hQ
            · exact h.elim
          · exact h.elim
        · simp at hr
      · simp at hr
    all_goals (try simp only [Option.map_eq_some_iff] at hr)
    all_goals (repeat' split at hr)
    all_goals (simp at hr)
end

/-! ### functions -/
inductive RO where
  | tmp (t : Nat)
  | cell (a : Nat) (agg : Bool) (n : Nat)

def resolveRs (P : Program) : List ResultVar → Option (List RO)
  | [] => some []
  | .tmp t :: l => (resolveRs P l).map (.tmp t :: ·)
  | .cell a t :: l => match aggB P t, sizeO P t, resolveRs P l with
    | some b, some n, some r => some (.cell a b (if b then n else 1) :: r)
    | _, _, _ => none

def evR (F : FF) : RO → Option AV
  | .tmp t => F.var t
  | .cell a agg n => (F.var a).bind fun v => (F.read v n).bind (headO agg)
def evRl (F : FF) : List RO → Option (List AV)
  | [] => some []
  | r :: l => match evR F r, evRl F l with
    | some v, some vs => some (v :: vs)
    | _, _ => none
def evRs (F : FF) (l : List RO) : Option AV := match evRl F l with
  | some [v] => some v
  | some vs => some (mkTup vs)
  | none => none

/-- The value's one slot may be another. -/
def OkV (v : Slot → AV) : Prop := ∀ (ι ι' : Inj) (S : Snap) (s s' : Slot) (x : Value), ι' s' = ι s → AVRel ι S (v s) x → AVRel ι' S (v s') x

def resOf (F : FF) (u : AV) : Res → Prop
  | .p v => F.reify 4 u = some v
  | .own v k => OkV v ∧ ∃ s e size rows, k = .sl e size rows ∧ u = v s ∧ F.blk s = some k

def retK (rs : List RO) (r : Res) : AE → Fr → Prop := fun e F => (match e with | .exit _ => False | _ => True) ∧ ∃ u, evRs F.ff rs = some u ∧ resOf F.ff u r

def initFr (args : List PV) : Fr := ⟨args.zipIdx.map fun x => (x.2, .p x.1), []⟩

section
variable {P : Program} {N : Nat} {w0 : Base} {ι : Inj} {S : Snap} {F : FF} {a : Act} {w : World}

def resVar (tmps : Array Value) : ResultVar → Sem Value
  | .tmp t => pure (tmps.getD t undef)
  | .cell a t => do loadVar t (← asAddr (tmps.getD a undef))
theorem results_eq (fn : Func) (tmps : Array Value) : results fn tmps = (do
    let vs ← fn.results.mapM (resVar tmps)
    pure (if h : vs.size = 1 then vs[0] else .tuple vs)) := by
  unfold results
  rfl

theorem evRl_ok (h : St N w0 ι S F a w) {g : ResultVar → Sem Value} (hg1 : ∀ t, g (.tmp t) = pure (a.tmps.getD t undef)) (hg2 : ∀ c t, g (.cell c t) = do loadVar t (← asAddr (a.tmps.getD c undef))) :
    ∀ {rv : List ResultVar} {rs : List RO} {vs : List AV}, resolveRs P rv = some rs → evRl F rs = some vs → ∃ xs : List Value, (rv.mapM g).run P w = .ok xs w ∧ Rs ι S vs xs
  | [], rs, vs, h1, h2 => by
    simp [resolveRs] at h1; subst h1
    simp [evRl] at h2; subst h2
    exact ⟨[], by simp, .nil⟩
  | .tmp t :: l, rs, vs, h1, h2 => by
    simp only [resolveRs, Option.map_eq_some_iff] at h1
    obtain ⟨r, h1, rfl⟩ := h1
    simp only [evRl] at h2
    split at h2
    · rename_i v vs' e1 e2
      simp at h2; subst h2
      obtain ⟨xs, g1, g2⟩ := evRl_ok h hg1 hg2 h1 e2
      obtain ⟨x, g3, g4⟩ := h.vars t v e1
      refine ⟨x :: xs, ?_, .cons g4 g2⟩
      have : a.tmps.getD t undef = x := by simp [Array.getD_eq_getD_getElem?, g3]
      simp only [List.mapM_cons, Sem.run_bind, hg1, Sem.run_pure, Result.andThen_ok, this, g1]
    · simp at h2
  | .cell c t :: l, rs, vs, h1, h2 => by
    simp only [resolveRs] at h1
    split at h1
    · rename_i b n r hb hn h1'
      simp at h1; subst h1
      simp only [evRl] at h2
      split at h2
      · rename_i v vs' e1 e2
        simp at h2; subst h2
        obtain ⟨xs, g1, g2⟩ := evRl_ok h hg1 hg2 h1' e2
        simp only [evR, Option.bind_eq_some_iff] at e1
        obtain ⟨u, e3, cs, e4, e5⟩ := e1
        obtain ⟨y, g3, g4⟩ := h.vars c u e3
        obtain ⟨x, g5, g6⟩ := load_ok (P := P) h hb hn g4 e4 e5
        refine ⟨x :: xs, ?_, .cons g6 g2⟩
        obtain ⟨p, hp, _⟩ := h.read g4 e4
        subst hp
        have hy : (asAddr (a.tmps.getD c undef)).run P w = .ok p w := by
          have : a.tmps.getD c undef = .pointer (some p) := by simp [Array.getD_eq_getD_getElem?, g3]
          rw [this]; rfl
        simp only [Instr.loadAt, Instr.sureAddr, Sem.run_bind, Sem.run_pure, Result.andThen_ok] at g5
        simp only [List.mapM_cons, Sem.run_bind, hg2, Result.andThen_ok, hy, g5, g1, Sem.run_pure]
      · simp at h2
    · simp at h1

theorem results_ok (h : St N w0 ι S F a w) {fn : Func} {rs : List RO} {u : AV} (h1 : resolveRs P fn.results.toList = some rs) (h2 : evRs F rs = some u) : ∃ x, (results fn a.tmps).run P w = .ok x w ∧ AVRel ι S u x := by
  unfold evRs at h2
  have hgen : ∀ vs, evRl F rs = some vs → ∃ xs : List Value, (results fn a.tmps).run P w = .ok (if h : xs.toArray.size = 1 then xs.toArray[0] else .tuple xs.toArray) w ∧ Rs ι S vs xs := by
    intro vs hvs
    rw [results_eq]
    simp only [Sem.run_bind]
    obtain ⟨xs, g1, g2⟩ := evRl_ok (P := P) h (g := resVar a.tmps) (fun _ => rfl) (fun _ _ => rfl) h1 hvs
    refine ⟨xs, ?_, g2⟩
    rw [← Array.toArray_toList (xs := fn.results), List.mapM_toArray]
    simp only [Sem.run_map]
    exact (congrArg (fun r => ((r.andThen fun a w' => Result.ok a.toArray w').andThen fun a w' => Sem.run P (pure (if h : a.size = 1 then a[0] else Value.tuple a)) w')) g1)
  split at h2
  · rename_i v e
    simp at h2; subst h2
    obtain ⟨xs, g1, g2⟩ := hgen _ e
    obtain ⟨x, xs', rfl, g3, g4⟩ := g2.uncons
    have : xs' = [] := List.eq_nil_of_length_eq_zero (by simpa using g4.1)
    subst this
    exact ⟨x, g1, g3⟩
  · rename_i vs hne e
    simp at h2; subst h2
    obtain ⟨xs, g1, g2⟩ := hgen _ e
    refine ⟨.tuple xs.toArray, ?_, mkTup_rel g2⟩
    have hl : ¬ (xs.toArray.size = 1) := by
      intro hl
      have : vs.length = 1 := by rw [← g2.1]; simpa using hl
      obtain ⟨v, rfl⟩ := List.length_eq_one_iff.1 this
      exact hne v rfl
    rw [g1, dif_neg hl]
  · simp at h2

theorem look_zipIdx : ∀ (args : List PV) (k t : Nat) (v : AV), look t ((args.zipIdx k).map fun x => (x.2, AV.p x.1)) = some v → ∃ p, v = .p p ∧ k ≤ t ∧ args[t - k]? = some p
  | [], k, t, v, h => by simp [look] at h
  | p :: l, k, t, v, h => by
    simp only [List.zipIdx_cons, List.map_cons, look] at h
    split at h
    · rename_i e; subst e; simp at h; exact ⟨p, h.symm, Nat.le_refl _, by simp⟩
    · rename_i hne
      obtain ⟨q, h1, h2, h3⟩ := look_zipIdx l (k + 1) t v h
      refine ⟨q, h1, by omega, ?_⟩
      have : t - k = (t - (k + 1)) + 1 := by omega
      rw [this]; simpa using h3

/-- The marks are taken, one by one. -/
theorem leavesM_ok {fn : Func} {R : Ending → World → Prop} : ∀ (D : List Nat) (b : Base) (F : FF) (a : Act) (w : World), b.D = D → D.Nodup → (∀ m ∈ D, b.O m = some (.deferred (some []))) → St N b ι S F a w →
    (∀ b' w', b'.w = b.w → b'.S = b.S → St N b' ι S F { a with defers := [] } w' → ∃ v, (results fn a.tmps).run P w' = .ok v w' ∧ R (.returned v) w') → LeavesInM Fence.wide 0 P fn a.tmps R (D.map markOf) .returning w
  | [], b, F, a, w, hb, hn, hm, h, hf => by
    have hd : a.defers = [] := by rw [h.df, hb]; rfl
    exact hf b w rfl rfl (by rw [← hd]; exact h)
  | m :: D, b, F, a, w, hb, hn, hm, h, hf => by
    have ho := hm m (by simp)
    have hh := (h.ob m _ ho).2.1
    refine ⟨by simp, .inl ⟨m, _, rfl, run_takeDeferred hh, ?_⟩⟩
    have h1 := h.putObj (.deferred none) ho (by simp)
    have hn' := List.nodup_cons.1 hn
    have h2 : St N { (b.obj m (some (.deferred none))) with D := D } ι S F { a with defers := D.map markOf } (w.putObj m (.deferred none)) :=
      h1.other (w0' := { (b.obj m (some (.deferred none))) with D := D }) rfl rfl (fun _ _ q => q) h.nt rfl (fun t v e => h1.vars t v e) (fun _ _ q => q)
    exact leavesM_ok D _ F { a with defers := D.map markOf } _ rfl hn'.2 (fun m' hm' => by
      have : m' ≠ m := fun q => hn'.1 (q ▸ hm')
      simp only [Base.obj, if_neg this]
      exact hm m' (by simp [hm'])) h2 (fun b' w' e1 e2 h3 => hf b' w' e1 e2 h3)

/-- From the abstract run to the call. -/
theorem best_of_awp (hm : P.follows .mixedOrders = true) {f : FuncId} {fn : Func} {c : Code} {ac : AC} {rs : List RO} (hf : P.funcs[f]? = some fn) (hn : (fn.name == "runtime.NumGoroutine") = false) (hb : fn.body = some c) (hc : resolveC P fn.ntmps c = some ac.strip) (ho : ac.okAll = true)
    (hr : resolveRs P fn.results.toList = some rs) {args : List PV} (hl : args.length ≤ fn.ntmps) {r : Res} (h : awp P ac (retK rs r) (initFr args)) : Best P f args r := by
  refine ⟨⟨fn, hf, by simp [hb], hn⟩, fun S w xs hS hxs => ?_⟩
  refine callsIn_fz' (r := none) (n := 0) (callsIn_of_wp_marks (F := Fence.wide) (n := 0) hf hb trivial ?_)
  have hlen : xs.length = args.length := hxs.1
  have hst : St fn.ntmps { w := w, S := S } (fun _ => none) S (initFr args).ff { tmps := xs.toArray ++ Array.replicate (fn.ntmps - xs.toArray.size) undef, defers := [] } w := by
    refine ⟨by simp; omega, rfl, fun r o e => by simp at e, Keep.refl w, fun _ _ q => q, fun _ _ q => .inl q, hS, fun t v e => ?_, fun s k e => by simp [initFr, Fr.ff, Fr.blk, look] at e, fun s k e => by simp [initFr, Fr.ff, Fr.blk, look] at e, fun s s' k k' e => by simp [initFr, Fr.ff, Fr.blk, look] at e⟩
    obtain ⟨p, rfl, _, h2⟩ := look_zipIdx args 0 t v e
    simp only [Nat.sub_zero] at h2
    have hlt : t < xs.length := by have := (List.getElem?_eq_some_iff.1 h2).1; omega
    refine ⟨xs[t], by simp [Array.getElem?_append, hlt], .p _ _ (hxs.2 t p _ h2 (by simp))⟩
  have hbok : BOk none { w := w, S := S } := ⟨List.nodup_nil, by simp, fun l e => by simp at e⟩
  refine awp_ok (N := fn.ntmps) hm ac c (fun t => t ∈ ac.dsts) hc ho (fun _ q => q) none 0 { w := w, S := S } (retK rs r) (initFr args) _ S _ w _ hbok h hst fun e F' b' ι' S' a' w' hk hst' hx hb' _ => ?_
  obtain ⟨he, u, h1, h2⟩ := hk
  have fin : LeavesInM Fence.wide 0 P fn a'.tmps (fun e w' => ∃ (x : Value) (S' : Snap), e = .returned x ∧ Keep w w' ∧ S.le S' ∧ S'.holds w' ∧ (∀ a v, S' a = some v → S a = some v ∨ w.heap.size ≤ a.block) ∧ ResAt w S' w' x r) a'.defers .returning w' := by
    rw [hst'.df]
    refine leavesM_ok _ b' F'.ff a' w' rfl hb'.nd hb'.dm hst' fun b2 w2 ew eS hst2 => ?_
    obtain ⟨x, h3, h4⟩ := results_ok (P := P) hst2 hr h1
    have ew' : b2.w = w := by rw [ew, hx.w]
    have eS' : b2.S = S := by rw [eS, hx.S]
    have k1 := hst2.keep
    have k2 := hst2.sle
    have k3 := hst2.snew
    rw [ew'] at k1 k3
    rw [eS'] at k2 k3
    cases r with
    | p v =>
      simp only [resOf] at h2
      have ⟨T, hT⟩ : ∃ T : Snap, T = fun a => match S' a with | some v => some v | none => if w.heap.size ≤ a.block then w2.cell? a else none := ⟨_, rfl⟩
      have hST : S'.le T := fun a v q => by rw [hT]; simp only [q]
      refine ⟨x, h3, x, T, rfl, k1, fun a v q => hST a v (k2 a v q), fun a v q => ?_, fun a v q => ?_, ?_⟩
      · rw [hT] at q
        dsimp only at q
        split at q
        · rename_i u hu; simp at q; subst q; exact hst2.snap a u hu
        · split at q
          · exact q
          · simp at q
      · rw [hT] at q
        dsimp only at q
        split at q
        · rename_i u hu; simp at q; subst q; exact k3 a u hu
        · split at q
          · rename_i hlt; exact .inr hlt
          · simp at q
      · refine reify_T hst2 hST (fun s k b t hk hi a ha u hu => ?_) 4 h2 h4
        have := hst2.own s k hk b t hi
        rw [ew'] at this
        rw [hT]
        dsimp only
        rw [this.2 a ha]
        simp only
        rw [if_pos (by rw [ha]; exact this.1)]
        exact hu
    | own v k =>
      refine ⟨x, h3, x, S', rfl, k1, k2, hst2.snap, k3, ?_⟩
      obtain ⟨hv, s, e', size, rows, rfl, rfl, hblk⟩ := h2
      refine ⟨ι' s, fun b t hi => by have := hst2.own s _ hblk b t hi; rw [ew'] at this; exact this, fun ι s' hs => ⟨hv ι' ι S' s s' x hs h4, ?_⟩⟩
      obtain ⟨hwf, hmm⟩ := hst2.mem s _ hblk
      refine ⟨hwf, ?_⟩
      rw [hs]
      refine hmm.imp id fun ⟨b, total, t', c, e1, e2, e3, e4, e5, e6, e7⟩ => ⟨b, total, t', c, e1, e2, e3, e4, e5, e6, fun i j av q => ?_⟩
      obtain ⟨v, v1, v2⟩ := e7 i j av q
      refine ⟨v, v1, ?_⟩
      simp only [Blk.cell, Option.map_eq_some_iff] at q
      obtain ⟨p, _, rfl⟩ := q
      exact .p _ _ v2.inv_p
  cases e with
  | normal => exact fin
  | exit id => exact he.elim
  | ret => exact fin

/-- All that is asked of a function's text, at once. -/
def factOf (P : Program) (f : FuncId) : Option (AC × List RO × Nat) := match P.funcs[f]? with
  | some fn => if (fn.name == "runtime.NumGoroutine") = false then
      match fn.body.bind (resolveC P fn.ntmps), resolveRs P fn.results.toList with
      | some ac, some rs => some (ac, rs, fn.ntmps)
      | _, _ => none
    else none
  | none => none

theorem best (hm : P.follows .mixedOrders = true) {f : FuncId} {ac : AC} {rs : List RO} {n : Nat} (hf : factOf P f = some (ac.strip, rs, n)) (ho : ac.okAll = true) {args : List PV} (hl : args.length ≤ n) {r : Res} (h : awp P ac (retK rs r) (initFr args)) : Best P f args r := by
  unfold factOf at hf
  split at hf
  · rename_i fn h1
    split at hf
    · rename_i h2
      split at hf
      · rename_i ac' rs' h3 h4
        simp only [Option.some.injEq, Prod.mk.injEq] at hf
        obtain ⟨rfl, rfl, rfl⟩ := hf
        simp only [Option.bind_eq_some_iff] at h3
        obtain ⟨c, h5, h6⟩ := h3
        exact best_of_awp hm h1 h2 h5 h6 ho h4 hl h
      · simp at hf
    · simp at hf
  · simp at hf

/-! #### shapes of results -/
theorem okV_ref (size off len : Nat) : OkV fun s => .ref s size off len := by
  intro ι ι' S s s' x hi h
  cases h with
  | ref _ _ _ _ b total cap p h1 h2 h3 h4 => exact .ref s' size off len b total cap p (hi.trans h1) h2 h3 h4
  | refnil _ _ h1 => exact .refnil s' size (hi.trans h1)
theorem okV_agg (pre : List PV) (size off len : Nat) (post : List PV) : OkV fun s => .agg (pre.map .p ++ .ref s size off len :: post.map .p) := by
  intro ι ι' S s s' x hi h
  cases h with
  | agg _ vs hl hh =>
    refine .agg _ vs (by simpa using hl) fun j p v e1 e2 => ?_
    rcases Nat.lt_trichotomy j pre.length with h1 | h1 | h1
    · have := hh j p v (by simpa [List.getElem?_append, h1] using e1) e2
      simp [List.getElem?_append, h1] at e1
      obtain ⟨q, _, rfl⟩ := e1
      exact .p _ _ this.inv_p
    · subst h1
      simp at e1; subst e1
      exact okV_ref size off len ι ι' S s s' v hi (hh pre.length _ v (by simp) e2)
    · obtain ⟨m, rfl⟩ : ∃ m, j = pre.length + 1 + m := ⟨j - pre.length - 1, by omega⟩
      have hne : ¬ (pre.length + 1 + m < pre.length) := by omega
      have hsub : pre.length + 1 + m - pre.length = m + 1 := by omega
      have := hh _ p v (by simpa [List.getElem?_append, hne, hsub] using e1) e2
      simp [List.getElem?_append, hne, hsub] at e1
      obtain ⟨q, _, rfl⟩ := e1
      exact .p _ _ this.inv_p
end
end Go.Abs
