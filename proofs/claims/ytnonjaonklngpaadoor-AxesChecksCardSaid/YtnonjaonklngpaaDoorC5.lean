/- A part of the proof: an abstract reading of the model, contracts of functions. -/
import Derived.Test.YtnonjaonklngpaaDoorC4
import Derived.Test.YtnonjaonklngpaaDoorChecked
import Derived.Lib.Strings
import Derived.Lib.Slices
import Derived.Lib.Walk
import Derived.Lib.Bytealg
import Derived.Test.YtnonjaonklngpaaDoorProg
namespace Go.Abs.A09
open Go Go.Abs Go.Proofs
set_option maxRecDepth 100000
set_option linter.unusedVariables false
set_option linter.unusedSimpArgs false
attribute [local simp ↓] awp_skip awp_seq awp_cond awp_block awp_exit awp_ret awp_reg awp_draw awp_ghost awp_loop awp_rfun awpR_nil awpR_cons awpX_nil awpX_0 awpX_1 awpX_2 awpI_eq awpI_t awpI_f awpStep_eq
attribute [local simp] condL_true condL_false condL_dec evDel evV evN evS evA initFr Ghost.app Fr.var Fr.blk Fr.ff FF.val Abs.look Fr.app Fr.erase Fr.noSlot AV.noSlot AV.noSlotL Blk.noSlot Fr.spoken AV.fz AV.fzL Blk.fz binV binI shI binS unV fillA FF.parts FF.vals headO intO boundO lenV scalarEq leavesEq AV.aggc AV.cells FF.read FF.rows AV.one PV.one chunk freshB newS pickV retK evRs evRl evR resOf mkTup mkAgg allP cloOf okP_nil okX_p okX okP addN Del.noSlot Del.owners Rnd reify_p normM insM Fr.back Fr.backV Fr.setPs normV insV
def idxS {α : Type} (q : α → Bool) (l : List α) : Int := match l.findIdx? q with
  | some i => (i : Int)
  | none => -1
theorem idxS_hit {α : Type} {q : α → Bool} {l : List α} {k : Nat} {x : α} (hk : l[k]? = some x) (h1 : ∀ y ∈ l.take k, q y = false) (h2 : q x = true) : idxS q l = k := by
  have hlt : k < l.length := (List.getElem?_eq_some_iff.1 hk).1
  have : l.findIdx? q = some k := by
    rw [List.findIdx?_eq_some_iff_getElem]
    refine ⟨hlt, ?_, ?_⟩
    · rw [(List.getElem?_eq_some_iff.1 hk).2, h2]
    · intro j hj
      have := h1 l[j] (List.mem_take_iff_getElem.2 ⟨j, by omega, rfl⟩)
      simp [this]
  simp [idxS, this]
theorem idxS_none {α : Type} {q : α → Bool} {l : List α} (h : ∀ y ∈ l, q y = false) : idxS q l = -1 := by
  have : l.findIdx? q = none := by
    rw [List.findIdx?_eq_none_iff]; intro x hx; simp [h x hx]
  simp [idxS, this]
theorem idxS_ge {α : Type} {q : α → Bool} {l : List α} : decide (0 ≤ idxS q l) = l.any q := by
  unfold idxS
  cases h : l.findIdx? q with
  | none =>
    rw [List.findIdx?_eq_none_iff] at h
    have : l.any q = false := by rw [List.any_eq_false]; intro x hx; simp [h x hx]
    simp [this]
  | some k =>
    rw [List.findIdx?_eq_some_iff_getElem] at h
    obtain ⟨hlt, hk, -⟩ := h
    have : l.any q = true := by rw [List.any_eq_true]; exact ⟨l[k], by simp, hk⟩
    simp [this]
theorem take_succ_all {α : Type} {p : α → Prop} {l : List α} {k : Nat} {x : α} (hk : l[k]? = some x) (h1 : ∀ y ∈ l.take k, p y) (h2 : p x) : ∀ y ∈ l.take (k + 1), p y := by
  intro y hy
  rw [List.take_add_one, hk] at hy
  simp at hy
  rcases hy with hy | rfl
  · exact h1 y hy
  · exact h2
def pRow (x : Int × Int) : List PV := [.int .i64 x.1, .int .i64 x.2]

theorem b82 {f : FuncId} {q : T3 → Bool} (hf : ∀ x : T3, Best Tryd.prog f [.agg (tRow x)] (.p (.bool (q x)))) (r : List (T3)) (hl : r.length ≤ 9223372036854775807) : Best Tryd.prog 82 [.sl 3 (r.map tRow), .clo (.func f) [] []] (.p (.int .i64 (idxS q r))) := by
  refine best mixed fn82 ok82 (by simp) ?_
  simp -dsimp [ac82]
  refine loopC r.length (fun k => ⟨[(0, .p (.sl 3 (r.map tRow))), (1, .p (.clo (.func f) [] [])), (7, .p (.int .i64 r.length)), (8, .p (.int .i64 k))], []⟩) (fun k => ∀ y ∈ r.take k, q y = false) (fun k hk hall => ?_) (by simp) (by simp)
  by_cases h : k < r.length
  · obtain ⟨x, ex⟩ : ∃ x, r[k] = x := ⟨_, rfl⟩
    have hx : r[k]? = some x := by simp [h, ex]
    have w : R ((k : Int) + 1) := ⟨by omega, by omega⟩
    have hfx := hf x
    have hit : q x = true → idxS q r = k := fun h2 => idxS_hit hx hall h2
    have go : q x = false → ∀ y ∈ r.take (k + 1), q y = false := fun h2 => take_succ_all (p := fun y => q y = false) hx hall h2
    generalize q x = b at *
    obtain ⟨f, p, t⟩ := x
    simp -dsimp [h, ex, tRow] at hfx ⊢
    refine call_p hfx rfl (by simp) ?_
    cases b with
    | true => simp -dsimp [hit]
    | false => simp -dsimp [wr w]; exact ⟨h, go rfl⟩
  · have : k = r.length := by omega
    subst this
    rw [List.take_length] at hall
    simp -dsimp [idxS_none hall]
theorem b58 {f : FuncId} {q : T3 → Bool} (hf : ∀ x : T3, Best Tryd.prog f [.agg (tRow x)] (.p (.bool (q x)))) (r : List (T3)) (hl : r.length ≤ 9223372036854775807) : Best Tryd.prog 58 [.sl 3 (r.map tRow), .clo (.func f) [] []] (.p (.bool (r.any q))) := by
  refine best mixed fn58 ok58 (by simp) ?_
  simp -dsimp [ac58]
  refine call_p (b82 hf r hl) rfl (by simp) ?_
  have := idxS_ge (q := q) (l := r)
  by_cases h : 0 ≤ idxS q r <;> simp only [h, decide_true, decide_false] at this <;> simp -dsimp [h, ← this]

theorem b102 {f : FuncId} {q : Int → Bool} (hf : ∀ x : Int, Best Tryd.prog f [.int .i64 x] (.p (.bool (q x)))) (r : List (Int)) (hl : r.length ≤ 9223372036854775807) : Best Tryd.prog 102 [.sl 1 (r.map intRow), .clo (.func f) [] []] (.p (.int .i64 (idxS q r))) := by
  refine best mixed fn102 ok102 (by simp) ?_
  simp -dsimp [ac102]
  refine loopC r.length (fun k => ⟨[(0, .p (.sl 1 (r.map intRow))), (1, .p (.clo (.func f) [] [])), (7, .p (.int .i64 r.length)), (8, .p (.int .i64 k))], []⟩) (fun k => ∀ y ∈ r.take k, q y = false) (fun k hk hall => ?_) (by simp) (by simp)
  by_cases h : k < r.length
  · obtain ⟨x, ex⟩ : ∃ x, r[k] = x := ⟨_, rfl⟩
    have hx : r[k]? = some x := by simp [h, ex]
    have w : R ((k : Int) + 1) := ⟨by omega, by omega⟩
    have hfx := hf x
    have hit : q x = true → idxS q r = k := fun h2 => idxS_hit hx hall h2
    have go : q x = false → ∀ y ∈ r.take (k + 1), q y = false := fun h2 => take_succ_all (p := fun y => q y = false) hx hall h2
    generalize q x = b at *
    
    simp -dsimp [h, ex, intRow] at hfx ⊢
    refine call_p hfx rfl (by simp) ?_
    cases b with
    | true => simp -dsimp [hit]
    | false => simp -dsimp [wr w]; exact ⟨h, go rfl⟩
  · have : k = r.length := by omega
    subst this
    rw [List.take_length] at hall
    simp -dsimp [idxS_none hall]
theorem b83 {f : FuncId} {q : Int → Bool} (hf : ∀ x : Int, Best Tryd.prog f [.int .i64 x] (.p (.bool (q x)))) (r : List (Int)) (hl : r.length ≤ 9223372036854775807) : Best Tryd.prog 83 [.sl 1 (r.map intRow), .clo (.func f) [] []] (.p (.bool (r.any q))) := by
  refine best mixed fn83 ok83 (by simp) ?_
  simp -dsimp [ac83]
  refine call_p (b102 hf r hl) rfl (by simp) ?_
  have := idxS_ge (q := q) (l := r)
  by_cases h : 0 ≤ idxS q r <;> simp only [h, decide_true, decide_false] at this <;> simp -dsimp [h, ← this]

theorem b89 {f : FuncId} {q : Int × Int → Bool} (hf : ∀ x : Int × Int, Best Tryd.prog f [.agg (pRow x)] (.p (.bool (q x)))) (r : List (Int × Int)) (hl : r.length ≤ 9223372036854775807) : Best Tryd.prog 89 [.sl 2 (r.map pRow), .clo (.func f) [] []] (.p (.int .i64 (idxS q r))) := by
  refine best mixed fn89 ok89 (by simp) ?_
  simp -dsimp [ac89]
  refine loopC r.length (fun k => ⟨[(0, .p (.sl 2 (r.map pRow))), (1, .p (.clo (.func f) [] [])), (7, .p (.int .i64 r.length)), (8, .p (.int .i64 k))], []⟩) (fun k => ∀ y ∈ r.take k, q y = false) (fun k hk hall => ?_) (by simp) (by simp)
  by_cases h : k < r.length
  · obtain ⟨x, ex⟩ : ∃ x, r[k] = x := ⟨_, rfl⟩
    have hx : r[k]? = some x := by simp [h, ex]
    have w : R ((k : Int) + 1) := ⟨by omega, by omega⟩
    have hfx := hf x
    have hit : q x = true → idxS q r = k := fun h2 => idxS_hit hx hall h2
    have go : q x = false → ∀ y ∈ r.take (k + 1), q y = false := fun h2 => take_succ_all (p := fun y => q y = false) hx hall h2
    generalize q x = b at *
    obtain ⟨f, p⟩ := x
    simp -dsimp [h, ex, pRow] at hfx ⊢
    refine call_p hfx rfl (by simp) ?_
    cases b with
    | true => simp -dsimp [hit]
    | false => simp -dsimp [wr w]; exact ⟨h, fun a b hab => go rfl (a, b) hab⟩
  · have : k = r.length := by omega
    subst this
    rw [List.take_length] at hall
    simp -dsimp [idxS_none hall]
theorem b70 {f : FuncId} {q : Int × Int → Bool} (hf : ∀ x : Int × Int, Best Tryd.prog f [.agg (pRow x)] (.p (.bool (q x)))) (r : List (Int × Int)) (hl : r.length ≤ 9223372036854775807) : Best Tryd.prog 70 [.sl 2 (r.map pRow), .clo (.func f) [] []] (.p (.bool (r.any q))) := by
  refine best mixed fn70 ok70 (by simp) ?_
  simp -dsimp [ac70]
  refine call_p (b89 hf r hl) rfl (by simp) ?_
  have := idxS_ge (q := q) (l := r)
  by_cases h : 0 ≤ idxS q r <;> simp only [h, decide_true, decide_false] at this <;> simp -dsimp [h, ← this]
end Go.Abs.A09
namespace Go.Abs.A09
open Go Go.Abs Go.Proofs
set_option maxRecDepth 100000
set_option linter.unusedVariables false
set_option linter.unusedSimpArgs false
attribute [local simp ↓] awp_skip awp_seq awp_cond awp_block awp_exit awp_ret awp_reg awp_draw awp_ghost awp_loop awp_rfun awpR_nil awpR_cons awpX_nil awpX_0 awpX_1 awpX_2 awpI_eq awpI_t awpI_f awpStep_eq
attribute [local simp] condL_true condL_false condL_dec evDel evV evN evS evA initFr Ghost.app Fr.var Fr.blk Fr.ff FF.val Abs.look Fr.app Fr.erase Fr.noSlot AV.noSlot AV.noSlotL Blk.noSlot Fr.spoken AV.fz AV.fzL Blk.fz binV binI shI binS unV fillA FF.parts FF.vals headO intO boundO lenV scalarEq leavesEq AV.aggc AV.cells FF.read FF.rows AV.one PV.one chunk freshB newS pickV retK evRs evRl evR resOf mkTup mkAgg allP cloOf okP_nil okX_p okX okP addN Del.noSlot Del.owners Rnd reify_p normM insM Fr.back Fr.backV Fr.setPs normV insV
/-! ### regions, ranges, coordinates -/
def RI (r : List T3) (n : Int) : Prop := 0 ≤ n ∧ n ≤ 3 ∧ r.length = n ∧ ∀ t ∈ r, TE t
instance {r : List T3} {n : Int} : Decidable (RI r n) := inferInstanceAs (Decidable (_ ∧ _ ∧ _ ∧ _))
theorem anyTE (r : List T3) : (r.any fun x => !decide (TE x)) = !decide (∀ t ∈ r, TE t) := by
  by_cases h : ∀ t ∈ r, TE t
  · rw [decide_eq_true h, List.any_eq_false.2 (fun x hx => by simp [h x hx])]; rfl
  · rw [decide_eq_false h, List.any_eq_true.2 ?_]
    · rfl
    · simpa using h
theorem b23 (r : List T3) (n : Int) (hl : r.length ≤ 9223372036854775807) : Best Tryd.prog 23 [.agg [.sl 3 (r.map tRow)], .int .i64 n] (.p (.bool (decide (RI r n)))) := by
  refine best mixed fn23 ok23 (by simp) ?_
  by_cases h1 : 0 ≤ n
  rotate_left
  · have : ¬ RI r n := fun h => h1 h.1
    simp -dsimp [ac23, h1, this]
  by_cases h2 : n ≤ 3
  rotate_left
  · have : ¬ RI r n := fun h => h2 h.2.1
    simp -dsimp [ac23, h1, h2, this]
  by_cases h3 : (r.length : Int) = n
  rotate_left
  · have : ¬ RI r n := fun h => h3 h.2.2.1
    simp -dsimp [ac23, h1, h2, h3, this]
  have hc := b58 b56 r hl
  rw [anyTE] at hc
  have e : decide (RI r n) = decide (∀ t ∈ r, TE t) := decide_eq_decide.2 ⟨fun h => h.2.2.2, fun h => ⟨h1, h2, h3, h⟩⟩
  rw [e]
  generalize decide (∀ t ∈ r, TE t) = b at *
  simp -dsimp [ac23, h1, h2, h3]
  refine call_p hc rfl (by simp) ?_
  simp -dsimp
theorem b24 (r : List T3) (n : Int) : Best Tryd.prog 24 [.agg [.sl 3 (r.map tRow)], .int .i64 n] (.p (.bool (decide (RI r n)))) := by
  refine best mixed fn24 ok24 (by simp) ?_
  by_cases h1 : n < 0
  · have : ¬ RI r n := fun h => by have := h.1; omega
    simp -dsimp [ac24, h1, this]
  by_cases h2 : 3 < n
  · have : ¬ RI r n := fun h => by have := h.2.1; omega
    simp -dsimp [ac24, h1, h2, this]
  by_cases h3 : (r.length : Int) = n
  rotate_left
  · have : ¬ RI r n := fun h => h3 h.2.2.1
    simp -dsimp [ac24, h1, h2, h3, this]
  subst h3
  have h1' : ¬ ((r.length : Int) < 0) := by omega
  simp -dsimp [ac24, h1', h2]
  refine loopC r.length (fun k => ⟨[(1, .p (.int .i64 r.length)), (2, .ptr (2, 0) 1 0 0), (5, .p (.int .i64 k))], [((2, 0), .box [.p (.sl 3 (r.map tRow))])]⟩) (fun k => ∀ y ∈ r.take k, TE y) (fun k hk hall => ?_) (by simp) (by simp)
  by_cases h : k < r.length
  · obtain ⟨x, ex⟩ : ∃ x, r[k] = x := ⟨_, rfl⟩
    have hx : r[k]? = some x := by simp [h, ex]
    have w : R ((k : Int) + 1) := ⟨by omega, by omega⟩
    have hfx := b59 x
    have no : ¬ TE x → ¬ RI r r.length := fun h2 h4 => h2 (h4.2.2.2 x (List.mem_of_getElem? hx))
    have go : TE x → ∀ y ∈ r.take (k + 1), TE y := fun h2 => take_succ_all (p := TE) hx hall h2
    by_cases hT : TE x
    · rw [decide_eq_true hT] at hfx
      have go' := go hT
      obtain ⟨f, p, t⟩ := x
      simp -dsimp [h, ex, tRow] at hfx ⊢
      refine call_p hfx rfl (by simp) ?_
      simp -dsimp [wr w]
      exact ⟨h, go'⟩
    · rw [decide_eq_false hT] at hfx
      have no' := no hT
      obtain ⟨f, p, t⟩ := x
      simp -dsimp [h, ex, tRow] at hfx ⊢
      refine call_p hfx rfl (by simp) ?_
      simp -dsimp [no']
  · have : k = r.length := by omega
    subst this
    rw [List.take_length] at hall
    have : RI r r.length := ⟨by omega, by omega, rfl, hall⟩
    simp -dsimp [this]
def CL (at' : List Int) : Prop := at'.length ≤ 3 ∧ ∀ n ∈ at', CO n
instance {l : List Int} : Decidable (CL l) := inferInstanceAs (Decidable (_ ∧ _))
theorem anyCO (r : List Int) : (r.any fun x => !decide (CO x)) = !decide (∀ t ∈ r, CO t) := by
  by_cases h : ∀ t ∈ r, CO t
  · rw [decide_eq_true h, List.any_eq_false.2 (fun x hx => by simp [h x hx])]; rfl
  · rw [decide_eq_false h, List.any_eq_true.2 ?_]
    · rfl
    · simpa using h
theorem b60 (l : List Int) : Best Tryd.prog 60 [.sl 1 (l.map intRow)] (.p (.bool (decide (CL l)))) := by
  refine best mixed fn60 ok60 (by simp) ?_
  by_cases h1 : l.length ≤ 3
  rotate_left
  · have : ¬ CL l := fun h => h1 h.1
    have h1' : ¬ ((l.length : Int) ≤ 3) := by omega
    simp -dsimp [ac60, h1', this]
  have hc := b83 b84 l (by omega)
  rw [anyCO] at hc
  have e : decide (CL l) = decide (∀ t ∈ l, CO t) := decide_eq_decide.2 ⟨fun h => h.2, fun h => ⟨h1, h⟩⟩
  rw [e]
  generalize decide (∀ t ∈ l, CO t) = b at *
  have h1' : (l.length : Int) ≤ 3 := by omega
  simp -dsimp [ac60, h1']
  refine call_p hc rfl (by simp) ?_
  simp -dsimp
theorem b63 (l : List Int) (hl : l.length ≤ 9223372036854775807) : Best Tryd.prog 63 [.sl 1 (l.map intRow)] (.p (.bool (decide (CL l)))) := by
  refine best mixed fn63 ok63 (by simp) ?_
  simp -dsimp [ac63]
  refine loopC l.length (fun k => ⟨[(0, .p (.sl 1 (l.map intRow))), (3, .p (.int .i64 k))], []⟩) (fun k => ∀ y ∈ l.take k, CO y) (fun k hk hall => ?_) (by simp) (by simp)
  by_cases h : k < l.length
  · obtain ⟨x, ex⟩ : ∃ x, l[k] = x := ⟨_, rfl⟩
    have hx : l[k]? = some x := by simp [h, ex]
    have w : R ((k : Int) + 1) := ⟨by omega, by omega⟩
    have hfx := b19' x
    have no : ¬ CO x → ¬ CL l := fun h2 h4 => h2 (h4.2 x (List.mem_of_getElem? hx))
    have go : CO x → ∀ y ∈ l.take (k + 1), CO y := fun h2 => take_succ_all (p := CO) hx hall h2
    by_cases hT : CO x
    · rw [decide_eq_true hT] at hfx
      have go' := go hT
      simp -dsimp [h, ex, intRow]
      refine call_p hfx rfl (by simp) ?_
      simp -dsimp [wr w]
      exact ⟨h, go'⟩
    · rw [decide_eq_false hT] at hfx
      have no' := no hT
      simp -dsimp [h, ex, intRow]
      refine call_p hfx rfl (by simp) ?_
      simp -dsimp [no']
  · have : k = l.length := by omega
    subst this
    rw [List.take_length] at hall
    have e : CL l ↔ (l.length : Int) ≤ 3 := ⟨fun h => by have := h.1; omega, fun h => ⟨by omega, hall⟩⟩
    by_cases h3 : (l.length : Int) ≤ 3 <;> simp -dsimp [e, h3]
end Go.Abs.A09
namespace Go.Abs
open Go
set_option linter.unusedSimpArgs false
set_option linter.unusedVariables false

/-! ### rules for generators' runs -/
section
variable {P : Program} {l : Nat} {xs : List (List PV)}
theorem coreY_mono {x : Opd} {args : List Opd} {dst : Option Nat} {post : List AB} {K K' : Fr → Option Nat → Prop} {F : Fr} {p : Option Nat} (h : ∀ F p, K F p → K' F p) (e : coreY P l xs x args dst post K F p) : coreY P l xs x args dst post K' F p := by
  unfold coreY at *
  refine ⟨e.1, ?_⟩
  have e := e.2
  split at e
  · split at e
    · exact ⟨e.1, fun b => awpR_mono (fun F q => h _ _ q) (e.2 b)⟩
    · exact e
  · exact e
theorem stepY_mono {y : AB} {post : List AB} {K K' : Fr → Option Nat → Prop} {F : Fr} {p : Option Nat} (h : ∀ F p, K F p → K' F p) (e : stepY P l xs y post K F p) : stepY P l xs y post K' F p := by
  unfold stepY at *
  split at e
  · split at e
    · exact coreY_mono h e
    · split at e
      · exact ⟨fun q => coreY_mono h (e.1 q), fun q => awpR_mono (fun F q => h _ _ q) (e.2 q)⟩
      · exact e
  · exact e
def MonoY (b : YPT) : Prop := ∀ (K K' : AE → Fr → Option Nat → Prop) (F : Fr) (p : Option Nat), (∀ e F p, K e F p → K' e F p) → b K F p → b K' F p
theorem lpY_mono {b : YPT} (hb : MonoY b) {K K' : AE → Fr → Option Nat → Prop} (h : ∀ e F p, K e F p → K' e F p) : ∀ {n : Nat} {F : Fr} {p : Option Nat}, lpY b n K F p → lpY b n K' F p
  | 0, _, _, e => e
  | n + 1, F, p, e => hb _ _ F p (fun e F p q => by
    cases e with
    | normal => exact lpY_mono hb h (n := n) q
    | exit i => exact h _ _ _ q
    | ret => exact h _ _ _ q) e
theorem lpY_le {b : YPT} (hb : MonoY b) {K : AE → Fr → Option Nat → Prop} : ∀ {n m : Nat} {F : Fr} {p : Option Nat}, n ≤ m → lpY b n K F p → lpY b m K F p
  | 0, m, F, p, h, e => e.elim
  | n + 1, 0, F, p, h, e => by omega
  | n + 1, m + 1, F, p, h, e => hb _ _ F p (fun e F p q => by
    cases e with
    | normal => exact lpY_le hb (n := n) (m := m) (by omega) q
    | exit i => exact q
    | ret => exact q) e
theorem awpY_mono : ∀ {ay : AY} {K K' : AE → Fr → Option Nat → Prop} {F : Fr} {p : Option Nat}, (∀ e F p, K e F p → K' e F p) → awpY P l xs ay K F p → awpY P l xs ay K' F p := by
  intro ay
  induction ay with
  | skip => intro K K' F p h e; exact h _ _ _ e
  | seq x y ihx ihy =>
    intro K K' F p h e
    refine ihx (fun e F p q => ?_) e
    cases e with
    | normal => exact ihy h q
    | exit i => exact h _ _ _ q
    | ret => exact h _ _ _ q
  | cond c x y ihx ihy =>
    intro K K' F p h e
    simp only [awpY] at e ⊢
    split at e
    · exact ⟨fun q => ihx h (e.1 q), fun q => ihy h (e.2 q)⟩
    · exact e
  | block id x ih =>
    intro K K' F p h e
    refine ih (fun e F p q => ?_) e
    cases e with
    | exit i => dsimp only at q ⊢; split <;> (rename_i hi; simp only [hi] at q; exact h _ _ _ (by simpa using q))
    | normal => exact h _ _ _ q
    | ret => exact h _ _ _ q
  | loop x ih => intro K K' F p h e; obtain ⟨n, hn⟩ := e; exact ⟨n, lpY_mono (b := awpY P l xs x) (fun K K' F p h e => ih h e) h hn⟩
  | exit id => intro K K' F p h e; exact h _ _ _ e
  | ret => intro K K' F p h e; exact h _ _ _ e
  | reg ops => intro K K' F p h e; exact awpR_mono (fun F q => h _ _ _ q) e
  | draw ops => intro K K' F p h e; exact awpX_mono (fun F q => h _ _ _ q) e
  | ghost g x ih =>
    intro K K' F p h e
    simp only [awpY] at e ⊢
    split at e
    · exact ih h e
    · exact e
  | yield d pre y post =>
    intro K K' F p h e
    simp only [awpY] at e ⊢
    split at e
    · rename_i hd; simp only [hd, if_true] at e ⊢; exact awpX_mono (fun F q => stepY_mono (fun F p q => h _ _ _ q) q) e
    · rename_i hd; simp only [hd] at e ⊢; exact awpR_mono (fun F q => stepY_mono (fun F p q => h _ _ _ q) q) e

def loopY (P : Program) (l : Nat) (xs : List (List PV)) (x : AY) (K : AE → Fr → Option Nat → Prop) (t : Tag x K) (F : Fr) (p : Option Nat) : Prop := awpY P l xs (.loop x) K F p
variable {K : AE → Fr → Option Nat → Prop} {F : Fr} {p : Option Nat}
theorem awpY_skip : awpY P l xs .skip K F p = K .normal F p := Eq.trans rfl rfl
theorem awpY_seq {x y : AY} : awpY P l xs (.seq x y) K F p = awpY P l xs x (fun e F' p' => match e with | .normal => awpY P l xs y K F' p' | e => K e F' p') F p := Eq.trans rfl rfl
theorem awpY_cond {c : Opd} {x y : AY} : awpY P l xs (.cond c x y) K F p = (match F.ff.val c with
    | some (.p (.bool b)) => condL (awpY P l xs x K F p) (awpY P l xs y K F p) {} b
    | _ => False) := Eq.trans rfl rfl
theorem awpY_block {id : Nat} {x : AY} : awpY P l xs (.block id x) K F p = awpY P l xs x (fun e F' p' => match e with | .exit i => if i = id then K .normal F' p' else K (.exit i) F' p' | e => K e F' p') F p := Eq.trans rfl rfl
theorem awpY_loop {x : AY} : awpY P l xs (.loop x) K F p = loopY P l xs x K {} F p := Eq.trans rfl rfl
theorem awpY_exit {id : Nat} : awpY P l xs (.exit id) K F p = K (.exit id) F p := Eq.trans rfl rfl
theorem awpY_ret : awpY P l xs .ret K F p = K .ret F p := Eq.trans rfl rfl
theorem awpY_reg {ops : List AB} : awpY P l xs (.reg ops) K F p = awpR P ops (fun F' => K .normal F' p) F := Eq.trans rfl rfl
theorem awpY_draw {ops : List AI} : awpY P l xs (.draw ops) K F p = awpX P F 0 [] [] ops (fun F' => K .normal F' p) F := Eq.trans rfl rfl
theorem awpY_ghost {g : Ghost} {x : AY} : awpY P l xs (.ghost g x) K F p = (match g.app F with
    | some F' => awpY P l xs x K F' p
    | none => False) := Eq.trans rfl rfl
theorem awpY_yt {pre : List AI} {y : AB} {post : List AB} : awpY P l xs (.yield true pre y post) K F p = awpX P F 0 [] [] pre (fun F1 => stepY P l xs y post (K .normal) F1 p) F := Eq.trans rfl rfl
theorem awpY_yf {pre : List AI} {y : AB} {post : List AB} : awpY P l xs (.yield false pre y post) K F p = awpR P (pre.map (·.b)) (fun F1 => stepY P l xs y post (K .normal) F1 p) F := Eq.trans rfl rfl
theorem stepY_eq {d : Option Nat} {x : Opd} {args : List Opd} {a : List Nat} {post : List AB} {K : Fr → Option Nat → Prop} : stepY P l xs ⟨d, .callv x args, none, a⟩ post K F p = coreY P l xs x args d post K F p := Eq.trans rfl rfl
/-- A counting loop of a generator that hands out one item a round. -/
theorem loopYC {g : Ghost} {x : AY} {t : Tag (AY.ghost g x) K} (n : Nat) (fr : Nat → Fr) (step : ∀ k, k ≤ n → awpY P l xs x (fun e F' p' => match e with
    | .normal => k < n ∧ g.app F' = some (fr (k + 1)) ∧ p' = some (k + 1)
    | e => K e F' p') (fr k) (some k)) {F : Fr} (hF : g.app F = some (fr 0)) : loopY P l xs (.ghost g x) K t F (some 0) := by
  have key : ∀ m k F, k + m = n → g.app F = some (fr k) → lpY (awpY P l xs (.ghost g x)) (m + 1) K F (some k) := by
    intro m
    induction m with
    | zero =>
      intro k F hk hF
      show awpY P l xs (.ghost g x) _ F (some k)
      rw [awpY_ghost, hF]
      refine awpY_mono (fun e F' p' q => ?_) (step k (by omega))
      cases e with
      | normal => exact absurd q.1 (by omega)
      | exit i => exact q
      | ret => exact q
    | succ m ih =>
      intro k F hk hF
      show awpY P l xs (.ghost g x) _ F (some k)
      rw [awpY_ghost, hF]
      refine awpY_mono (fun e F' p' q => ?_) (step k (by omega))
      cases e with
      | normal =>
        obtain ⟨h1, h2, rfl⟩ := q
        exact ih (k + 1) F' (by omega) h2
      | exit i => exact q
      | ret => exact q
  exact ⟨n + 1, key n 0 F (by omega) hF⟩
end
end Go.Abs
namespace Go.Abs.A09
open Go Go.Abs Go.Proofs
set_option maxRecDepth 100000
set_option linter.unusedVariables false
set_option linter.unusedSimpArgs false
attribute [local simp ↓] awp_skip awp_seq awp_cond awp_block awp_exit awp_ret awp_reg awp_draw awp_ghost awp_loop awp_rfun awpR_nil awpR_cons awpX_nil awpX_0 awpX_1 awpX_2 awpI_eq awpI_t awpI_f awpStep_eq
attribute [local simp] condL_true condL_false condL_dec evDel evV evN evS evA initFr Ghost.app Fr.var Fr.blk Fr.ff FF.val Abs.look Fr.app Fr.erase Fr.noSlot AV.noSlot AV.noSlotL Blk.noSlot Fr.spoken AV.fz AV.fzL Blk.fz binV binI shI binS unV fillA FF.parts FF.vals headO intO boundO lenV scalarEq leavesEq AV.aggc AV.cells FF.read FF.rows AV.one PV.one chunk freshB newS pickV retK evRs evRl evR resOf mkTup mkAgg allP cloOf okP_nil okX_p okX okP addN Del.noSlot Del.owners Rnd reify_p normM insM Fr.back Fr.backV Fr.setPs normV insV
attribute [local simp ↓] awpY_skip awpY_seq awpY_cond awpY_block awpY_loop awpY_exit awpY_ret awpY_reg awpY_draw awpY_ghost awpY_yt awpY_yf stepY_eq
attribute [local simp] FF.reify coreY Fr.pure AV.pur
/-- The items of two lists, together. -/
def zipS {α β : Type} (f : α → PV) (g : β → PV) (a : List α) (b : List β) : List (List PV) := (a.zip b).map fun x => [f x.1, g x.2]
theorem zipS_get {α β : Type} {f : α → PV} {g : β → PV} {a : List α} {b : List β} {k : Nat} {x : α} {y : β} (h1 : a[k]? = some x) (h2 : b[k]? = some y) : (zipS f g a b)[k]? = some [f x, g y] := by
  simp [zipS, List.zip, List.getElem?_zipWith, h1, h2]
theorem zipS_len {α β : Type} {f : α → PV} {g : β → PV} {a : List α} {b : List β} : (zipS f g a b).length = min a.length b.length := by simp [zipS]
def vI (x : Int) : PV := .int .i64 x
def vP (x : Int × Int) : PV := .agg (pRow x)
def vT (x : T3) : PV := .agg (tRow x)

theorem b46 (a b : List (List PV)) : Best Tryd.prog 46 [.sl 2 a, .sl 2 b] (.p (.clo (.func 78) [] [.ro [.sl 2 a], .ro [.sl 2 b]])) := by
  refine best mixed fn46 ok46 (by simp) ?_
  simp -dsimp [ac46]
theorem g78 (a : List (Int × Int)) (b : List (Int × Int)) (hl : a.length ≤ 9223372036854775807) : Gens Tryd.prog 78 [] [.ro [.sl 2 (a.map pRow)], .ro [.sl 2 (b.map pRow)]] (zipS vP vP a b) := by
  refine gens mixed fn78 ok78 (by simp) fun l => ?_
  simp -dsimp [ac78]
  have e : min (a.length : Int) b.length = ((min a.length b.length : Nat) : Int) := by omega
  refine loopYC (min a.length b.length) (fun k => ⟨[(0, .p (.clo (.yield l) [] [])), (1, .p (.ro [.sl 2 (a.map pRow)])), (2, .p (.ro [.sl 2 (b.map pRow)])), (9, .p (.int .i64 ((min a.length b.length : Nat) : Int))), (10, .p (.int .i64 k))], []⟩) (fun k hk => ?_) (by simp [e])
  by_cases h : k < min a.length b.length
  · have h1 : k < a.length := by omega
    have h2 : k < b.length := by omega
    obtain ⟨⟨x1, x2⟩, ex⟩ : ∃ x, a[k] = x := ⟨_, rfl⟩
    obtain ⟨⟨y1, y2⟩, ey⟩ : ∃ y, b[k] = y := ⟨_, rfl⟩
    have w : R ((k : Int) + 1) := ⟨by omega, by omega⟩
    have hz := zipS_get (f := vP) (g := vP) (show a[k]? = some _ by rw [List.getElem?_eq_getElem h1, ex]) (show b[k]? = some _ by rw [List.getElem?_eq_getElem h2, ey])
    simp -dsimp [h, h1, h2, ex, ey, pRow, wr w]
    exact hz
  · have : k = min a.length b.length := by omega
    subst this
    simp -dsimp [zipS_len]

theorem b61 (a b : List (List PV)) : Best Tryd.prog 61 [.sl 3 a, .sl 1 b] (.p (.clo (.func 85) [] [.ro [.sl 3 a], .ro [.sl 1 b]])) := by
  refine best mixed fn61 ok61 (by simp) ?_
  simp -dsimp [ac61]
theorem g85 (a : List (T3)) (b : List (Int)) (hl : a.length ≤ 9223372036854775807) : Gens Tryd.prog 85 [] [.ro [.sl 3 (a.map tRow)], .ro [.sl 1 (b.map intRow)]] (zipS vT vI a b) := by
  refine gens mixed fn85 ok85 (by simp) fun l => ?_
  simp -dsimp [ac85]
  have e : min (a.length : Int) b.length = ((min a.length b.length : Nat) : Int) := by omega
  refine loopYC (min a.length b.length) (fun k => ⟨[(0, .p (.clo (.yield l) [] [])), (1, .p (.ro [.sl 3 (a.map tRow)])), (2, .p (.ro [.sl 1 (b.map intRow)])), (9, .p (.int .i64 ((min a.length b.length : Nat) : Int))), (10, .p (.int .i64 k))], []⟩) (fun k hk => ?_) (by simp [e])
  by_cases h : k < min a.length b.length
  · have h1 : k < a.length := by omega
    have h2 : k < b.length := by omega
    obtain ⟨⟨x1, x2, x3⟩, ex⟩ : ∃ x, a[k] = x := ⟨_, rfl⟩
    obtain ⟨y1, ey⟩ : ∃ y, b[k] = y := ⟨_, rfl⟩
    have w : R ((k : Int) + 1) := ⟨by omega, by omega⟩
    have hz := zipS_get (f := vT) (g := vI) (show a[k]? = some _ by rw [List.getElem?_eq_getElem h1, ex]) (show b[k]? = some _ by rw [List.getElem?_eq_getElem h2, ey])
    simp -dsimp [h, h1, h2, ex, ey, intRow, tRow, wr w]
    exact hz
  · have : k = min a.length b.length := by omega
    subst this
    simp -dsimp [zipS_len]

theorem b71 (a b : List (List PV)) : Best Tryd.prog 71 [.sl 1 a, .sl 2 b] (.p (.clo (.func 90) [] [.ro [.sl 1 a], .ro [.sl 2 b]])) := by
  refine best mixed fn71 ok71 (by simp) ?_
  simp -dsimp [ac71]
theorem g90 (a : List (Int)) (b : List (Int × Int)) (hl : a.length ≤ 9223372036854775807) : Gens Tryd.prog 90 [] [.ro [.sl 1 (a.map intRow)], .ro [.sl 2 (b.map pRow)]] (zipS vI vP a b) := by
  refine gens mixed fn90 ok90 (by simp) fun l => ?_
  simp -dsimp [ac90]
  have e : min (a.length : Int) b.length = ((min a.length b.length : Nat) : Int) := by omega
  refine loopYC (min a.length b.length) (fun k => ⟨[(0, .p (.clo (.yield l) [] [])), (1, .p (.ro [.sl 1 (a.map intRow)])), (2, .p (.ro [.sl 2 (b.map pRow)])), (9, .p (.int .i64 ((min a.length b.length : Nat) : Int))), (10, .p (.int .i64 k))], []⟩) (fun k hk => ?_) (by simp [e])
  by_cases h : k < min a.length b.length
  · have h1 : k < a.length := by omega
    have h2 : k < b.length := by omega
    obtain ⟨x1, ex⟩ : ∃ x, a[k] = x := ⟨_, rfl⟩
    obtain ⟨⟨y1, y2⟩, ey⟩ : ∃ y, b[k] = y := ⟨_, rfl⟩
    have w : R ((k : Int) + 1) := ⟨by omega, by omega⟩
    have hz := zipS_get (f := vI) (g := vP) (show a[k]? = some _ by rw [List.getElem?_eq_getElem h1, ex]) (show b[k]? = some _ by rw [List.getElem?_eq_getElem h2, ey])
    simp -dsimp [h, h1, h2, ex, ey, intRow, pRow, wr w]
    exact hz
  · have : k = min a.length b.length := by omega
    subst this
    simp -dsimp [zipS_len]

theorem b72 (a b : List (List PV)) : Best Tryd.prog 72 [.sl 3 a, .sl 2 b] (.p (.clo (.func 91) [] [.ro [.sl 3 a], .ro [.sl 2 b]])) := by
  refine best mixed fn72 ok72 (by simp) ?_
  simp -dsimp [ac72]
theorem g91 (a : List (T3)) (b : List (Int × Int)) (hl : a.length ≤ 9223372036854775807) : Gens Tryd.prog 91 [] [.ro [.sl 3 (a.map tRow)], .ro [.sl 2 (b.map pRow)]] (zipS vT vP a b) := by
  refine gens mixed fn91 ok91 (by simp) fun l => ?_
  simp -dsimp [ac91]
  have e : min (a.length : Int) b.length = ((min a.length b.length : Nat) : Int) := by omega
  refine loopYC (min a.length b.length) (fun k => ⟨[(0, .p (.clo (.yield l) [] [])), (1, .p (.ro [.sl 3 (a.map tRow)])), (2, .p (.ro [.sl 2 (b.map pRow)])), (9, .p (.int .i64 ((min a.length b.length : Nat) : Int))), (10, .p (.int .i64 k))], []⟩) (fun k hk => ?_) (by simp [e])
  by_cases h : k < min a.length b.length
  · have h1 : k < a.length := by omega
    have h2 : k < b.length := by omega
    obtain ⟨⟨x1, x2, x3⟩, ex⟩ : ∃ x, a[k] = x := ⟨_, rfl⟩
    obtain ⟨⟨y1, y2⟩, ey⟩ : ∃ y, b[k] = y := ⟨_, rfl⟩
    have w : R ((k : Int) + 1) := ⟨by omega, by omega⟩
    have hz := zipS_get (f := vT) (g := vP) (show a[k]? = some _ by rw [List.getElem?_eq_getElem h1, ex]) (show b[k]? = some _ by rw [List.getElem?_eq_getElem h2, ey])
    simp -dsimp [h, h1, h2, ex, ey, pRow, tRow, wr w]
    exact hz
  · have : k = min a.length b.length := by omega
    subst this
    simp -dsimp [zipS_len]
end Go.Abs.A09
/-
  DERIVED: LAID BY THE SHELF's contract.sh OFF ITS TEMPLATE 'internal/stringslite.IndexByte' FOR THE PROGRAM 'Tryd' (the function's number there: 111). THE LIBRARY's OWN TEXT IS WALKED: nothing is assumed of it; where it calls a function without a Go body (internal/bytealg), THE MODEL's OWN ENTRY stands in, by its law (Derived/Lib/Bytealg.lean). Behind the contract: ONE FALSE NEIGHBOUR, a contract that says a little too much, REFUTED. (The template: the authors, an AI agent; Sun.)
-/
namespace Go.Proofs

set_option maxHeartbeats 1000000 in
set_option maxRecDepth 100000 in
/-- internal/stringslite.IndexByte (what strings.IndexByte calls): IT RETURNS 'Lib.indexByte s c'; the world is as it was. -/
theorem Tryd.stringslite_IndexByte (s : ByteArray) (c : Int) (w : World) :
    Calls Tryd.prog 111 #[.string s, .int .u8 c] w fun e w' => e = .returned (.int .i64 (Lib.indexByte s.data.toList c.toNat.toUInt8)) ∧ w' = w := by
  go_enter Tryd.func111, Tryd.ntmps111
  go_wp2
  rw [run_callFunc_extern Tryd.func117 (by kernel_rfl) (by kernel_rfl) (by kernel_rfl) (e := Extern.BytealgIndexByte.indexByte) (by kernel_rfl), Lib.run_indexByteString]
  simp only [Result.andThen]
  rw [Oper.upon_value]
  go_wp2
  go_ret
  exact ⟨rfl, rfl⟩

end Go.Proofs
/-
  DERIVED: LAID BY THE SHELF's contract.sh OFF ITS TEMPLATE 'internal/stringslite.Index' FOR THE PROGRAM 'Tryd' (the function's number there: 107). THE LIBRARY's OWN TEXT IS WALKED: nothing is assumed of it. ✋ AT A substr OF ONE BYTE ALONE (the everyday 'strings.Contains(s, ",")'): of a longer one this contract says nothing. Behind the contract: ONE FALSE NEIGHBOUR, a contract that says a little too much, REFUTED. (The template: an AI agent of the authors' house; Sun.)
-/
namespace Go.Proofs

set_option maxHeartbeats 2000000 in
set_option maxRecDepth 100000 in
/-- internal/stringslite.Index (what strings.Index calls) AT A substr OF ONE BYTE c: IT RETURNS 'Lib.indexByte s c'; the world is as it was. -/
theorem Tryd.stringslite_Index_one (s : ByteArray) (c : UInt8) (w : World) :
    Calls Tryd.prog 107 #[.string s, .string ⟨#[c]⟩] w fun e w' => e = .returned (.int .i64 (Lib.indexByte s.data.toList c)) ∧ w' = w := by
  go_enter Tryd.func107, Tryd.ntmps107
  go_wp2_with (go_at_call 111; refine (Tryd.stringslite_IndexByte _ _ _).mono ?_; rintro e w' ⟨rfl, rfl⟩)
  · have h : ([c] == s.toList) = true := by assumption
    go_ret
    refine ⟨?_, rfl⟩
    have e : s.data.toList = [c] := by rw [← Lib.toList_data]; exact (beq_iff_eq.1 h).symm
    rw [e]
    simp [Lib.indexByte]
  · go_ret
    exact ⟨rfl, rfl⟩

/-- A LITTLE TOO MUCH: 'the index of the LAST instance': falls at "aa", "a". -/
theorem Tryd.stringslite_Index_one_not : ¬ ∀ (s : ByteArray) (c : UInt8) (w : World),
    Calls Tryd.prog 107 #[.string s, .string ⟨#[c]⟩] w fun e w' => e = .returned (.int .i64 ((s.size : Int) - 1 - Lib.indexByte s.data.toList.reverse c)) ∧ w' = w := by
  intro h
  have e := Lib.agree (by kernel_rfl) (Tryd.stringslite_Index_one ⟨#[97, 97]⟩ 97 default) (h ⟨#[97, 97]⟩ 97 default)
  injection e with _ e
  revert e
  decide

end Go.Proofs
/-
  DERIVED: LAID BY THE SHELF's contract.sh OFF ITS TEMPLATE 'strings.Index' FOR THE PROGRAM 'Tryd' (the function's number there: 100). THE LIBRARY's OWN TEXT IS WALKED: nothing is assumed of it. ✋ AT A substr OF ONE BYTE ALONE (the everyday 'strings.Index(s, ",")'): of a longer one this contract says nothing. Behind the contract: ONE FALSE NEIGHBOUR, a contract that says a little too much, REFUTED. (The template: an AI agent of the authors' house; Sun.)
-/
namespace Go.Proofs

set_option maxHeartbeats 1000000 in
/-- strings.Index: "Index returns the index of the first instance of substr in s, or -1 if substr is not present in s.": AT A substr OF ONE BYTE c: IT RETURNS 'Lib.indexByte s c'; the world is as it was. -/
theorem Tryd.strings_Index_one (s : ByteArray) (c : UInt8) (w : World) :
    Calls Tryd.prog 100 #[.string s, .string ⟨#[c]⟩] w fun e w' => e = .returned (.int .i64 (Lib.indexByte s.data.toList c)) ∧ w' = w := by
  go_enter Tryd.func100, Tryd.ntmps100
  go_wp2_with (go_at_call 107; refine (Tryd.stringslite_Index_one _ _ _).mono ?_; rintro e w' ⟨rfl, rfl⟩)
  go_ret
  exact ⟨rfl, rfl⟩

/-- A LITTLE TOO MUCH: 'the index of the LAST instance': falls at "aa", "a". -/
theorem Tryd.strings_Index_one_not : ¬ ∀ (s : ByteArray) (c : UInt8) (w : World),
    Calls Tryd.prog 100 #[.string s, .string ⟨#[c]⟩] w fun e w' => e = .returned (.int .i64 ((s.size : Int) - 1 - Lib.indexByte s.data.toList.reverse c)) ∧ w' = w := by
  intro h
  have e := Lib.agree (by kernel_rfl) (Tryd.strings_Index_one ⟨#[97, 97]⟩ 97 default) (h ⟨#[97, 97]⟩ 97 default)
  injection e with _ e
  revert e
  decide

end Go.Proofs
/-
  DERIVED: LAID BY THE SHELF's contract.sh OFF ITS TEMPLATE 'strings.Contains' FOR THE PROGRAM 'Tryd' (the function's number there: 76). THE LIBRARY's OWN TEXT IS WALKED: nothing is assumed of it. ✋ AT A substr OF ONE BYTE ALONE (the everyday 'strings.Contains(s, ",")'): of a longer one this contract says nothing. Behind the contract: ONE FALSE NEIGHBOUR, a contract that says a little too much, REFUTED. (The template: an AI agent of the authors' house; Sun.)
-/
namespace Go.Proofs

set_option maxHeartbeats 1000000 in
/-- strings.Contains: "Contains reports whether substr is within s.": AT A substr OF ONE BYTE c: IT RETURNS 'decide (0 ≤ Lib.indexByte s c)'; the world is as it was. -/
theorem Tryd.strings_Contains_one (s : ByteArray) (c : UInt8) (w : World) :
    Calls Tryd.prog 76 #[.string s, .string ⟨#[c]⟩] w fun e w' => e = .returned (.bool (decide (0 ≤ Lib.indexByte s.data.toList c))) ∧ w' = w := by
  go_enter Tryd.func76, Tryd.ntmps76
  go_wp2_with (go_at_call 100; refine (Tryd.strings_Index_one _ _ _).mono ?_; rintro e w' ⟨rfl, rfl⟩)
  go_ret
  exact ⟨rfl, rfl⟩

/-- A LITTLE TOO MUCH: 'true of every string that is not empty': falls at "a", "b". -/
theorem Tryd.strings_Contains_one_not : ¬ ∀ (s : ByteArray) (c : UInt8) (w : World),
    Calls Tryd.prog 76 #[.string s, .string ⟨#[c]⟩] w fun e w' => e = .returned (.bool (decide (0 < s.size))) ∧ w' = w := by
  intro h
  have e := Lib.agree (by kernel_rfl) (Tryd.strings_Contains_one ⟨#[97]⟩ 98 default) (h ⟨#[97]⟩ 98 default)
  injection e with e
  revert e
  decide

end Go.Proofs
namespace Go.Abs.A09
open Go Go.Abs Go.Proofs
set_option maxRecDepth 100000
set_option linter.unusedVariables false
set_option linter.unusedSimpArgs false
attribute [local simp ↓] awp_skip awp_seq awp_cond awp_block awp_exit awp_ret awp_reg awp_draw awp_ghost awp_loop awp_rfun awpR_nil awpR_cons awpX_nil awpX_0 awpX_1 awpX_2 awpI_eq awpI_t awpI_f awpStep_eq
attribute [local simp] condL_true condL_false condL_dec evDel evV evN evS evA initFr Ghost.app Fr.var Fr.blk Fr.ff FF.val Abs.look Fr.app Fr.erase Fr.noSlot AV.noSlot AV.noSlotL Blk.noSlot Fr.spoken AV.fz AV.fzL Blk.fz binV binI shI binS unV fillA FF.parts FF.vals headO intO boundO lenV scalarEq leavesEq AV.aggc AV.cells FF.read FF.rows AV.one PV.one chunk freshB newS pickV retK evRs evRl evR resOf mkTup mkAgg allP cloOf okP_nil okX_p okX okP addN Del.noSlot Del.owners Rnd reify_p normM insM Fr.back Fr.backV Fr.setPs normV insV
/-! ### strings as lists of bytes -/
def ba (l : List UInt8) : ByteArray := ⟨l.toArray⟩
theorem ba_eta (s : ByteArray) : s = ba s.data.toList := by cases s; simp [ba]
theorem ba_size (l : List UInt8) : (ba l).size = l.length := by simp [ba, ByteArray.size]
theorem ba_get (l : List UInt8) (i : Nat) : (ba l)[i]? = l[i]? := by
  by_cases h : i < l.length
  · rw [List.getElem?_eq_getElem h, getElem?_pos (ba l) i (by rw [ba_size]; exact h)]
    simp [ba, ByteArray.getElem_eq_getElem_data]
  · rw [List.getElem?_eq_none (by omega), getElem?_neg (ba l) i (by rw [ba_size]; omega)]
theorem ba_list (l : List UInt8) : (ba l).toList = l := by rw [ByteArray.toList_eq]; simp [ba]
theorem ba_extract (l : List UInt8) (i j : Nat) : (ba l).extract i j = ba ((l.take j).drop i) := by
  have : ((ba l).extract i j).data.toList = (l.take j).drop i := by
    rw [ByteArray.data_extract, List.drop_take]
    simp [ba]
  rw [ba_eta ((ba l).extract i j), this]
theorem nil_list : (⟨#[]⟩ : ByteArray).toList = [] := by rw [ByteArray.toList_eq]
/-- A table of 256 marks. -/
def tabB (p : Nat → Bool) : List PV := (List.range 256).map fun i => .bool (p i)
def tabA (p : Nat → Bool) : List AV := (List.range 256).map fun i => .p (.bool (p i))
theorem tabB_len (p : Nat → Bool) : (tabB p).length = 256 := by simp [tabB]
theorem tabA_len (p : Nat → Bool) : (tabA p).length = 256 := by simp [tabA]
theorem tabB_map (p : Nat → Bool) : (tabB p).map AV.p = tabA p := by simp [tabB, tabA]
theorem tabA_rep : (List.replicate 256 (PV.bool false)).map AV.p = tabA fun _ => false := by
  simp only [tabA, List.map_const', List.length_range, List.map_replicate]
theorem tabA_rep' : List.replicate 256 (AV.p (PV.bool false)) = tabA fun _ => false := by
  simp only [tabA, List.map_const', List.length_range]
theorem allP_map : ∀ l : List PV, allP (l.map AV.p) = some l
  | [] => rfl
  | p :: l => by simp [allP, allP_map l]
theorem tabA_allP (p : Nat → Bool) : allP (tabA p) = some (tabB p) := by rw [← tabB_map]; exact allP_map _
theorem tabA_one (p : Nat → Bool) : (tabA p).all AV.one = true := by simp [tabA, AV.one, PV.one]
theorem tabA_get (p : Nat → Bool) {i : Nat} (h : i < 256) : (tabA p)[i]? = some (.p (.bool (p i))) := by simp [tabA, h]
theorem tabB_drop (p : Nat → Bool) {i : Nat} (h : i < 256) : (tabB p).drop i = .bool (p i) :: (tabB p).drop (i + 1) := by
  rw [List.drop_eq_getElem_cons (by rw [tabB_len]; exact h)]
  simp [tabB]
theorem tabA_drop (p : Nat → Bool) {i : Nat} (h : 256 ≤ i) : (tabA p).drop i = [] := by rw [List.drop_eq_nil_iff, tabA_len]; exact h
theorem tabA_take (p : Nat → Bool) {i : Nat} (h : 256 ≤ i) : (tabA p).take i = tabA p := List.take_of_length_le (by rw [tabA_len]; exact h)
theorem tabA_set (p : Nat → Bool) {i : Nat} (h : i < 256) : (tabA p).take i ++ AV.p (.bool true) :: (tabA p).drop (i + 1) = tabA fun j => p j || j == i := by
  apply List.ext_getElem?
  intro j
  have h1 : ((tabA p).take i).length = i := by simp [tabA_len]; omega
  rcases Nat.lt_trichotomy j i with hj | hj | hj
  · rw [List.getElem?_append_left (by omega), List.getElem?_take, if_pos hj, tabA_get p (by omega), tabA_get _ (by omega)]
    have : (j == i) = false := by simp; omega
    simp [this]
  · subst hj
    rw [List.getElem?_append_right (by omega), h1]
    simp [tabA_get _ h]
  · rw [List.getElem?_append_right (by omega), h1]
    obtain ⟨m, rfl⟩ : ∃ m, j = i + 1 + m := ⟨j - i - 1, by omega⟩
    have e : i + 1 + m - i = m + 1 := by omega
    rw [e, List.getElem?_cons_succ, List.getElem?_drop]
    by_cases hl : i + 1 + m < 256
    · rw [tabA_get p hl, tabA_get _ hl]
      have : (i + 1 + m == i) = false := by simp; omega
      simp [this]
    · rw [List.getElem?_eq_none (by rw [tabA_len]; omega), List.getElem?_eq_none (by rw [tabA_len]; omega)]
theorem tabA_reify (F : FF) (n : Nat) (p : Nat → Bool) : (tabA p).mapM (F.reify n) = some (tabB p) := by
  rw [← tabB_map]
  induction tabB p with
  | nil => rfl
  | cons x l ih => simp [List.mapM_cons, reify_p, ih]
attribute [local simp high] ba_get
attribute [local simp] ba_size ba_list ba_extract nil_list tabB_len tabA_len tabB_map tabA_rep tabA_rep' tabA_allP tabA_one tabA_reify
theorem b103 (p : Nat → Bool) {c : UInt8} : Best Tryd.prog 103 [.ro (tabB p), .int .u8 c.toNat] (.p (.bool (p c.toNat))) := by
  refine best mixed fn103 ok103 (by simp) ?_
  have h : c.toNat < 256 := c.toNat_lt
  have e := tabB_drop p h
  have h' : (c.toNat : Int) < 256 := by omega
  simp -dsimp [ac103, h, h', e]
/-- How many of the first bytes are marked. -/
def tw (p : Nat → Bool) (l : List UInt8) : Nat := (l.takeWhile fun b => p b.toNat).length
theorem tw_hit {p : Nat → Bool} : ∀ {l : List UInt8} {k : Nat} {y : UInt8}, (∀ b ∈ l.take k, p b.toNat = true) → l[k]? = some y → p y.toNat = false → tw p l = k
  | [], k, y, _, h, _ => by simp at h
  | b :: l, 0, y, h1, h2, h3 => by
    simp at h2; subst h2
    simp [tw, List.takeWhile_cons, h3]
  | b :: l, k + 1, y, h1, h2, h3 => by
    have hb : p b.toNat = true := h1 b (by simp)
    have := tw_hit (l := l) (k := k) (fun b hb => h1 b (by simp [hb])) (by simpa using h2) h3
    simp only [tw] at this ⊢
    simp [List.takeWhile_cons, hb, this]
theorem tw_all {p : Nat → Bool} : ∀ {l : List UInt8}, (∀ b ∈ l, p b.toNat = true) → tw p l = l.length
  | [], _ => rfl
  | b :: l, h => by
    have := tw_all (l := l) fun b hb => h b (by simp [hb])
    simp only [tw] at this ⊢
    simp [List.takeWhile_cons, h b (by simp), this]
theorem b96 (p : Nat → Bool) (l : List UInt8) (hl : l.length ≤ 9223372036854775807) : Best Tryd.prog 96 [.str (ba l), .ro (tabB p)] (.p (.str (ba (l.drop (tw p l))))) := by
  refine best mixed fn96 ok96 (by simp) ?_
  simp -dsimp [ac96]
  refine loopC l.length (fun k => ⟨[(0, .p (.str (ba (l.drop k)))), (1, .p (.ro (tabB p)))], []⟩) (fun k => ∀ b ∈ l.take k, p b.toNat = true) (fun k hk hall => ?_) (by simp) (by simp)
  by_cases h : k < l.length
  · obtain ⟨x, ex⟩ : ∃ x, l[k] = x := ⟨_, rfl⟩
    have hx : l[k]? = some x := by rw [List.getElem?_eq_getElem h, ex]
    have hd : (0 : Int) < ((l.length - k : Nat) : Int) := by omega
    have hd' : 0 < l.length - k := by omega
    have hx0 : (l.drop k)[0]? = some x := by rw [List.getElem?_drop]; simpa using hx
    have hle : (1 : Int) ≤ ((l.length - k : Nat) : Int) := by omega
    have hle' : 1 ≤ l.length - k := by omega
    simp -dsimp [hd', hx0, hx, h, ex]
    refine call_p (b103 p (c := x)) rfl (by simp) ?_
    cases hp : p x.toNat with
    | true =>
      have := take_succ_all (p := fun b : UInt8 => p b.toNat = true) hx hall hp
      have e : List.drop 1 (List.take (l.length - k) (l.drop k)) = l.drop (k + 1) := by
        rw [List.take_of_length_le (by simp), List.drop_drop]
      simp -dsimp [hle, h, e]
      exact this
    | false =>
      simp -dsimp [tw_hit hall hx hp]
  · have : k = l.length := by omega
    subst this
    rw [List.take_length] at hall
    simp -dsimp [tw_all hall]
theorem b97 (p : Nat → Bool) (l : List UInt8) (hl : l.length ≤ 9223372036854775807) : Best Tryd.prog 97 [.str (ba l), .ro (tabB p)] (.p (.str (ba (l.take (l.length - tw p l.reverse))))) := by
  refine best mixed fn97 ok97 (by simp) ?_
  simp -dsimp [ac97]
  refine loopC l.length (fun k => ⟨[(0, .p (.str (ba (l.take (l.length - k))))), (1, .p (.ro (tabB p)))], []⟩) (fun k => ∀ b ∈ l.reverse.take k, p b.toNat = true) (fun k hk hall => ?_) (by simp) (by simp)
  by_cases h : k < l.length
  · obtain ⟨x, ex⟩ : ∃ x, l[l.length - k - 1] = x := ⟨_, rfl⟩
    have hx' : l[l.length - k - 1]? = some x := by rw [List.getElem?_eq_getElem (by omega), ex]
    have hx : l.reverse[k]? = some x := by
      rw [List.getElem?_reverse h, ← hx']; congr 1; omega
    have hd' : 0 < l.length - k := by omega
    have hm : min (l.length - k) l.length = l.length - k := by omega
    have w1 : R (((l.length - k : Nat) : Int) - 1) := ⟨by omega, by omega⟩
    have c1 : (0 : Int) ≤ ((l.length - k : Nat) : Int) - 1 := by omega
    have c2 : (((l.length - k : Nat) : Int) - 1).toNat = l.length - k - 1 := by omega
    have c3 : (1 : Int) ≤ ((l.length - k : Nat) : Int) := by omega
    have hx0 : (l.take (l.length - k))[l.length - k - 1]? = some x := by rw [List.getElem?_take, if_pos (by omega)]; exact hx'
    simp -dsimp [hd', hm, wr w1, c1, c2, c3, hx0, hx', h]
    refine call_p (b103 p (c := x)) rfl (by simp) ?_
    cases hp : p x.toNat with
    | true =>
      have := take_succ_all (p := fun b : UInt8 => p b.toNat = true) hx hall hp
      have e : min (l.length - k - 1) (l.length - k) = l.length - (k + 1) := by omega
      have e2 : l.length - k - 1 = l.length - (k + 1) := by omega
      have c4 : ((l.length - k : Nat) : Int) - 1 ≤ ((l.length - k : Nat) : Int) := by omega
      have e3 : min (l.length - (k + 1)) (l.length - k) = l.length - (k + 1) := by omega
      simp -dsimp [hm, wr w1, c1, c2, c3, c4, h, e, e2, e3, List.take_take]
      exact this
    | false =>
      simp -dsimp [tw_hit hall hx hp]
  · have : k = l.length := by omega
    subst this
    rw [← List.length_reverse, List.take_length] at hall
    have := tw_all hall
    rw [List.length_reverse] at this
    simp -dsimp [this]
end Go.Abs.A09
namespace Go.Abs.A09
open Go Go.Abs Go.Proofs
set_option maxRecDepth 100000
set_option linter.unusedVariables false
set_option linter.unusedSimpArgs false
attribute [local simp ↓] awp_skip awp_seq awp_cond awp_block awp_exit awp_ret awp_reg awp_draw awp_ghost awp_loop awp_rfun awpR_nil awpR_cons awpX_nil awpX_0 awpX_1 awpX_2 awpI_eq awpI_t awpI_f awpStep_eq
attribute [local simp] condL_true condL_false condL_dec evDel evV evN evS evA initFr Ghost.app Fr.var Fr.blk Fr.ff FF.val Abs.look Fr.app Fr.erase Fr.noSlot AV.noSlot AV.noSlotL Blk.noSlot Fr.spoken AV.fz AV.fzL Blk.fz binV binI shI binS unV fillA FF.parts FF.vals headO intO boundO lenV scalarEq leavesEq AV.aggc AV.cells FF.read FF.rows AV.one PV.one chunk freshB newS pickV retK evRs evRl evR resOf mkTup mkAgg allP cloOf okP_nil okX_p okX okP addN Del.noSlot Del.owners Rnd reify_p normM insM Fr.back Fr.backV Fr.setPs normV insV
attribute [local simp high] ba_get
attribute [local simp] ba_size ba_list ba_extract nil_list tabB_len tabA_len tabB_map tabA_rep tabA_rep' tabA_allP tabA_one tabA_reify
/-- The marks of a text's bytes. -/
def inT (cs : List UInt8) (i : Nat) : Bool := cs.any fun c => c.toNat == i
theorem inT_succ {cs : List UInt8} {k : Nat} {x : UInt8} (h : cs[k]? = some x) : inT (cs.take (k + 1)) = fun j => inT (cs.take k) j || j == x.toNat := by
  funext j
  rw [List.take_add_one, h]
  simp [inT, Bool.beq_comm, eq_comm]
theorem b95 (cs : List UInt8) (hl : cs.length ≤ 9223372036854775807) (hc : ∀ c ∈ cs, c.toNat < 128) : Best Tryd.prog 95 [.str (ba cs)] (.p (.tup [.agg (tabB (inT cs)), .bool true])) := by
  refine best mixed fn95 ok95 (by simp) ?_
  simp -dsimp [ac95, -List.reduceReplicate]
  refine loopC cs.length (fun k => ⟨[(0, .p (.str (ba cs))), (2, .ptr (2, 0) 256 0 0), (4, .p (.int .i64 k))], [((2, 0), .box (tabA (inT (cs.take k))))]⟩) (fun _ => True) (fun k hk _ => ?_) trivial ?_
  · by_cases h : k < cs.length
    · obtain ⟨x, ex⟩ : ∃ x, cs[k] = x := ⟨_, rfl⟩
      have hx : cs[k]? = some x := by rw [List.getElem?_eq_getElem h, ex]
      have w : R ((k : Int) + 1) := ⟨by omega, by omega⟩
      have h128 := hc x (List.mem_of_getElem? hx)
      have c1 : ¬ ((128 : Int) ≤ (x.toNat : Int)) := by omega
      have c2 : (x.toNat : Int) < 256 := by omega
      have c3 : x.toNat + 1 ≤ 256 := by omega
      have ht := tabA_set (inT (cs.take k)) (i := x.toNat) (by omega)
      rw [← inT_succ hx] at ht
      simp -dsimp [h, hx, ex, wr w, c1, c2, c3, ht]
    · have : k = cs.length := by omega
      subst this
      have d1 := tabA_drop (inT cs) (i := 256) (by omega)
      have d2 := tabA_take (inT cs) (i := 256) (by omega)
      simp -dsimp [d1, d2]
  · simp -dsimp
    rfl
end Go.Abs.A09
namespace Go.Abs.A09
open Go Go.Abs Go.Proofs
set_option maxRecDepth 100000
set_option linter.unusedVariables false
set_option linter.unusedSimpArgs false
attribute [local simp ↓] awp_skip awp_seq awp_cond awp_block awp_exit awp_ret awp_reg awp_draw awp_ghost awp_loop awp_rfun awpR_nil awpR_cons awpX_nil awpX_0 awpX_1 awpX_2 awpI_eq awpI_t awpI_f awpStep_eq
attribute [local simp] condL_true condL_false condL_dec evDel evV evN evS evA initFr Ghost.app Fr.var Fr.blk Fr.ff FF.val Abs.look Fr.app Fr.erase Fr.noSlot AV.noSlot AV.noSlotL Blk.noSlot Fr.spoken AV.fz AV.fzL Blk.fz binV binI shI binS unV fillA FF.parts FF.vals headO intO boundO lenV scalarEq leavesEq AV.aggc AV.cells FF.read FF.rows AV.one PV.one chunk freshB newS pickV retK evRs evRl evR resOf mkTup mkAgg allP cloOf okP_nil okX_p okX okP addN Del.noSlot Del.owners Rnd reify_p normM insM Fr.back Fr.backV Fr.setPs normV insV
attribute [local simp high] ba_get
attribute [local simp] ba_size ba_list ba_extract nil_list tabB_len tabA_len tabB_map tabA_rep tabA_rep' tabA_allP tabA_one tabA_reify FF.reify FF.reifyL PV.flat
def trimL (cs l : List UInt8) : List UInt8 := let r := l.take (l.length - tw (inT cs) l.reverse); r.drop (tw (inT cs) r)
theorem b75 (l cs : List UInt8) (hl : l.length ≤ 9223372036854775807) (hcl : cs.length ≤ 9223372036854775807) (hc : ∀ c ∈ cs, c.toNat < 128) (h1 : 1 < cs.length) (h0 : l ≠ []) : Best Tryd.prog 75 [.str (ba l), .str (ba cs)] (.p (.str (ba (trimL cs l)))) := by
  refine best mixed fn75 ok75 (by simp) ?_
  have e1 : (l == []) = false := by cases l <;> simp_all
  have e2 : (cs == []) = false := by cases cs <;> simp_all
  have e3 : ¬ (cs.length = 1) := by omega
  have e3' : ¬ ((cs.length : Int) = 1) := by omega
  simp -dsimp [ac75, -List.reduceReplicate, e1, e2, e3, e3', h0]
  refine call_p (b95 cs hcl hc) rfl (by simp) ?_
  have d1 := tabA_drop (fun _ => false) (i := 256) (by omega)
  simp -dsimp [-List.reduceReplicate, d1]
  refine call_f (b97 (inT cs) l hl) (by simp) rfl (by simp) ?_
  simp -dsimp
  refine call_f (b96 (inT cs) (l.take (l.length - tw (inT cs) l.reverse)) (by rw [List.length_take]; omega)) (by simp) rfl (by simp) ?_
  simp -dsimp [trimL]

theorem tw_lt {p : Nat → Bool} : ∀ {l : List UInt8}, (∃ b ∈ l, p b.toNat = false) → tw p l < l.length
  | [], h => by simp at h
  | b :: l, h => by
    cases hp : p b.toNat with
    | false => simp [tw, List.takeWhile_cons, hp]
    | true =>
      have := tw_lt (p := p) (l := l) (by
        obtain ⟨x, h1, h2⟩ := h
        simp at h1
        rcases h1 with rfl | h1
        · rw [hp] at h2; simp at h2
        · exact ⟨x, h1, h2⟩)
      simp only [tw] at this ⊢
      simp [List.takeWhile_cons, hp]; omega
theorem tw_le {p : Nat → Bool} : ∀ {l : List UInt8}, tw p l ≤ l.length
  | [] => Nat.le_refl _
  | b :: l => by
    have := tw_le (p := p) (l := l)
    cases hp : p b.toNat <;> simp [tw, List.takeWhile_cons, hp] at this ⊢; omega
theorem tw_get {p : Nat → Bool} : ∀ {l : List UInt8} {x : UInt8}, l[tw p l]? = some x → p x.toNat = false
  | [], x, h => by simp at h
  | b :: l, x, h => by
    cases hp : p b.toNat with
    | false => simp [tw, List.takeWhile_cons, hp] at h; subst h; exact hp
    | true =>
      refine tw_get (l := l) ?_
      simp only [tw] at h ⊢
      simpa [List.takeWhile_cons, hp] using h
theorem trim_nil {cs l : List UInt8} : trimL cs l = [] ↔ ∀ b ∈ l, inT cs b.toNat = true := by
  constructor
  · intro h b hb
    cases hp : inT cs b.toNat with
    | true => rfl
    | false =>
      exfalso
      have h1 := tw_lt (p := inT cs) (l := l.reverse) ⟨b, by simpa using hb, hp⟩
      have h1' : tw (inT cs) l.reverse < l.length := by simpa using h1
      obtain ⟨x, hx⟩ : ∃ x, l.reverse[tw (inT cs) l.reverse]? = some x := ⟨_, List.getElem?_eq_getElem h1⟩
      have hpx := tw_get hx
      have hmem : x ∈ l.take (l.length - tw (inT cs) l.reverse) := by
        rw [List.getElem?_reverse h1'] at hx
        refine List.mem_of_getElem? (i := l.length - 1 - tw (inT cs) l.reverse) ?_
        rw [List.getElem?_take, if_pos (by omega)]
        exact hx
      have h2 := tw_lt (p := inT cs) (l := l.take (l.length - tw (inT cs) l.reverse)) ⟨x, hmem, hpx⟩
      have : (trimL cs l).length = 0 := by rw [h]; rfl
      simp only [trimL, List.length_drop] at this
      omega
  · intro h
    have e : tw (inT cs) l.reverse = l.length := by rw [tw_all (by simpa using h)]; simp
    simp [trimL, e]
end Go.Abs.A09
namespace Go.Abs.A09
open Go Go.Abs Go.Proofs
set_option maxRecDepth 100000
set_option linter.unusedVariables false
set_option linter.unusedSimpArgs false
attribute [local simp ↓] awp_skip awp_seq awp_cond awp_block awp_exit awp_ret awp_reg awp_draw awp_ghost awp_loop awp_rfun awpR_nil awpR_cons awpX_nil awpX_0 awpX_1 awpX_2 awpI_eq awpI_t awpI_f awpStep_eq
attribute [local simp] condL_true condL_false condL_dec evDel evV evN evS evA initFr Ghost.app Fr.var Fr.blk Fr.ff FF.val Abs.look Fr.app Fr.erase Fr.noSlot AV.noSlot AV.noSlotL Blk.noSlot Fr.spoken AV.fz AV.fzL Blk.fz binV binI shI binS unV fillA FF.parts FF.vals headO intO boundO lenV scalarEq leavesEq AV.aggc AV.cells FF.read FF.rows AV.one PV.one chunk freshB newS pickV retK evRs evRl evR resOf mkTup mkAgg allP cloOf okP_nil okX_p okX okP addN Del.noSlot Del.owners Rnd reify_p normM insM Fr.back Fr.backV Fr.setPs normV insV
attribute [local simp high] ba_get
attribute [local simp] ba_size ba_list ba_extract nil_list
theorem factOf_fn {P : Program} {f : FuncId} {x : AC × List RO × Nat} (h : factOf P f = some x) : ∃ fn, P.funcs[f]? = some fn ∧ fn.body.isSome = true ∧ (fn.name == "runtime.NumGoroutine") = false := by
  unfold factOf at h
  split at h
  · rename_i fn h1
    split at h
    · rename_i h2
      split at h
      · rename_i ac rs h3 h4
        simp only [Option.bind_eq_some_iff] at h3
        obtain ⟨c, h5, _⟩ := h3
        exact ⟨fn, h1, by rw [h5]; rfl, h2⟩
      · simp at h
    · simp at h
  · simp at h
/-- A contract of the kit, for strings, that turns nothing. -/
theorem best_str2 {P : Program} {f : FuncId} {a b : ByteArray} {v : PV} {x : Value} (hf : ∃ fn, P.funcs[f]? = some fn ∧ fn.body.isSome = true ∧ (fn.name == "runtime.NumGoroutine") = false) (hv : ∀ S, PRel S v x) (h : ∀ w, Calls P f #[.string a, .string b] w fun e w' => e = .returned x ∧ w' = w) : Best P f [.str a, .str b] (.p v) := by
  refine ⟨hf, fun S w xs hS hx => ?_⟩
  obtain ⟨hl, hh⟩ := hx
  match xs, hl with
  | [x1, x2], _ =>
    have h1 := hh 0 _ x1 rfl rfl
    have h2 := hh 1 _ x2 rfl rfl
    cases h1
    cases h2
    refine (h w).mono ?_
    rintro e w' ⟨rfl, rfl⟩
    exact ⟨x, S, rfl, Keep.refl _, fun _ _ q => q, hS, fun _ _ q => .inl q, hv S⟩
def ltB (b : UInt8) : Bool := decide (97 ≤ b.toNat) && decide (b.toNat ≤ 122)
def dgB (b : UInt8) : Bool := decide (48 ≤ b.toNat) && decide (b.toNat ≤ 57)
def lettersL : List UInt8 := [97, 98, 99, 100, 101, 102, 103, 104, 105, 106, 107, 108, 109, 110, 111, 112, 113, 114, 115, 116, 117, 118, 119, 120, 121, 122]
def nameL : List UInt8 := [97, 98, 99, 100, 101, 102, 103, 104, 105, 106, 107, 108, 109, 110, 111, 112, 113, 114, 115, 116, 117, 118, 119, 120, 121, 122, 48, 49, 50, 51, 52, 53, 54, 55, 56, 57]
theorem inT_name (b : UInt8) : inT nameL b.toNat = (ltB b || dgB b) := by
  have h : ∀ n : Fin 256, inT nameL (UInt8.ofNat n.val).toNat = (ltB (UInt8.ofNat n.val) || dgB (UInt8.ofNat n.val)) := by decide +kernel
  have := h ⟨b.toNat, b.toNat_lt⟩
  simpa using this
theorem idx_letters (b : UInt8) : decide (0 ≤ Lib.indexByte lettersL b) = ltB b := by
  have h : ∀ n : Fin 256, decide (0 ≤ Lib.indexByte lettersL (UInt8.ofNat n.val)) = ltB (UInt8.ofNat n.val) := by decide +kernel
  have := h ⟨b.toNat, b.toNat_lt⟩
  simpa using this
theorem b76 (b : UInt8) : Best Tryd.prog 76 [.str (ba lettersL), .str (ba [b])] (.p (.bool (ltB b))) :=
  best_str2 (x := .bool (ltB b)) (factOf_fn fn76) (fun S => .bool _) fun w => by
    have := Tryd.strings_Contains_one (ba lettersL) b w
    have e : (ba lettersL).data.toList = lettersL := by simp [ba]
    rw [e, idx_letters] at this
    exact this
/-- Is it a name? -/
def nmB (l : List UInt8) : Bool := match l with
  | [] => false
  | b :: t => decide ((b :: t).length ≤ 12) && (ltB b && (b :: t).all fun c => ltB c || dgB c)
theorem b44 (l : List UInt8) : Best Tryd.prog 44 [.str (ba l)] (.p (.bool (nmB l))) := by
  refine best mixed fn44 ok44 (by simp) ?_
  match l with
  | [] => simp -dsimp [ac44, nmB]
  | b :: t =>
    by_cases h1 : t.length + 1 ≤ 12
    rotate_left
    · have h1' : ¬ ((t.length : Int) + 1 ≤ 12) := by omega
      have : nmB (b :: t) = false := by simp [nmB, h1]
      simp -dsimp [ac44, h1', this]
    have h0 : (0 : Int) < (t.length : Int) + 1 := by omega
    have h1' : (t.length : Int) + 1 ≤ 12 := by omega
    have hT := b75 (b :: t) nameL (by simp; omega) (by simp [nameL]) (by decide) (by decide) (by simp)
    have e : (trimL nameL (b :: t) == []) = (b :: t).all fun c => ltB c || dgB c := by
      have := trim_nil (cs := nameL) (l := b :: t)
      cases hA : (b :: t).all fun c => ltB c || dgB c with
      | true =>
        rw [List.all_eq_true] at hA
        rw [this.2 fun c hc => by rw [inT_name]; exact hA c hc]; rfl
      | false =>
        cases hB : trimL nameL (b :: t) == [] with
        | false => rfl
        | true =>
          have hB := this.1 (by simpa using hB)
          rw [List.all_eq_false] at hA
          obtain ⟨x, hx, hx2⟩ := hA
          have := hB x hx
          rw [inT_name] at this
          exact absurd this hx2
    simp -dsimp [ac44, h0, h1']
    refine call_p hT rfl (by simp) ?_
    cases hA : (b :: t).all fun c => ltB c || dgB c with
    | false =>
      rw [hA] at e
      have : nmB (b :: t) = false := by simp only [nmB, hA, Bool.and_false]
      have e' : ¬ trimL nameL (b :: t) = [] := by simpa using e
      simp -dsimp [e, e', this]
    | true =>
      rw [hA] at e
      have : nmB (b :: t) = ltB b := by
        simp only [nmB, hA, Bool.and_true]
        rw [decide_eq_true (by simpa using h1)]; simp
      have e' : trimL nameL (b :: t) = [] := by simpa using e
      have h1'' : (1 : Int) ≤ (t.length : Int) + 1 := by omega
      simp -dsimp [e, e', h1'']
      refine call_p (b76 b) rfl (by simp) ?_
      simp -dsimp [this]
theorem allnm {l : List UInt8} {k : Nat} {x : UInt8} (hx : l[k]? = some x) (h : (ltB x || dgB x) = false) : nmB l = false := by
  match l with
  | [] => rfl
  | b :: t =>
    have : ((b :: t).all fun c => ltB c || dgB c) = false := by
      rw [List.all_eq_false]
      exact ⟨x, List.mem_of_getElem? hx, by simp [h]⟩
    simp only [nmB, this, Bool.and_false]
theorem b48 (l : List UInt8) (hl : l.length ≤ 9223372036854775807) : Best Tryd.prog 48 [.str (ba l)] (.p (.bool (nmB l))) := by
  refine best mixed fn48 ok48 (by simp) ?_
  by_cases h1 : (l.length : Int) < 1
  · have : l = [] := by cases l <;> simp_all; omega
    subst this
    simp -dsimp [ac48, nmB]
  by_cases h2 : (12 : Int) < l.length
  · have : nmB l = false := by
      match l with
      | [] => rfl
      | b :: t => simp only [nmB]; rw [decide_eq_false (by simp at h2 ⊢; omega)]; rfl
    simp -dsimp [ac48, h1, h2, this]
  obtain ⟨x, t, rfl⟩ : ∃ x t, l = x :: t := by
    match l with
    | [] => simp at h1
    | b :: t => exact ⟨b, t, rfl⟩
  by_cases h3 : (x.toNat : Int) < 97
  · have : nmB (x :: t) = false := by
      have : ltB x = false := by unfold ltB; rw [decide_eq_false (by omega)]; rfl
      simp [nmB, this]
    simp only [List.length_cons, Int.natCast_add, Int.natCast_one] at h1 h2
    simp -dsimp [ac48, h1, h2, h3, this]
  by_cases h4 : (122 : Int) < x.toNat
  · have : nmB (x :: t) = false := by
      have : ltB x = false := by unfold ltB; rw [Bool.and_eq_false_iff]; right; exact decide_eq_false (by omega)
      simp [nmB, this]
    simp only [List.length_cons, Int.natCast_add, Int.natCast_one] at h1 h2
    simp -dsimp [ac48, h1, h2, h3, h4, this]
  have hlt : ltB x = true := by unfold ltB; rw [decide_eq_true (by omega), decide_eq_true (by omega)]; rfl
  have h1' : ¬ ((t.length : Int) + 1 < 1) := by omega
  have h2' : ¬ ((12 : Int) < (t.length : Int) + 1) := by simp only [List.length_cons, Int.natCast_add, Int.natCast_one] at h2; exact h2
  have h12 : t.length + 1 ≤ 12 := by omega
  simp -dsimp [ac48, h1', h2', h3, h4]
  refine loopC (t.length + 1) (fun k => ⟨[(0, .p (.str (ba (x :: t)))), (3, .p (.int .i64 k))], []⟩) (fun k => ∀ b ∈ (x :: t).take k, (ltB b || dgB b) = true) (fun k hk hall => ?_) (by simp) (by simp)
  by_cases h : k < t.length + 1
  · obtain ⟨y, ey⟩ : ∃ y, (x :: t)[k] = y := ⟨_, rfl⟩
    have hy : (x :: t)[k]? = some y := by rw [List.getElem?_eq_getElem (by simpa using h), ey]
    have w : R ((k : Int) + 1) := ⟨by omega, by omega⟩
    have c0 : (k : Int) < (t.length : Int) + 1 := by omega
    have no := fun h => allnm hy h
    have go : (ltB y || dgB y) = true → _ := fun h => take_succ_all (p := fun b : UInt8 => (ltB b || dgB b) = true) hy hall h
    have hk0 : ¬ ((k : Int) < 0) := by omega
    by_cases q1 : (97 : Int) ≤ y.toNat
    · by_cases q2 : (y.toNat : Int) ≤ 122
      · have : ltB y = true := by unfold ltB; rw [decide_eq_true (by omega), decide_eq_true (by omega)]; rfl
        have q3 : ¬ (y.toNat : Int) ≤ 57 := by omega
        have q4 : (48 : Int) ≤ y.toNat := by omega
        have go := go (by rw [this]; rfl)
        simp -dsimp [c0, hy, ey, q1, q2, q3, q4, wr w, h]
        simpa using go
      · have q3 : ¬ (y.toNat : Int) ≤ 57 := by omega
        have q4 : (48 : Int) ≤ y.toNat := by omega
        have no := no (by unfold ltB dgB; rw [decide_eq_false (by omega : ¬ y.toNat ≤ 122), decide_eq_false (by omega : ¬ y.toNat ≤ 57)]; simp)
        simp -dsimp [c0, hy, ey, q1, q2, q3, q4, no]
    · by_cases q2 : (48 : Int) ≤ y.toNat
      · by_cases q3 : (y.toNat : Int) ≤ 57
        · have : dgB y = true := by unfold dgB; rw [decide_eq_true (by omega), decide_eq_true (by omega)]; rfl
          have go := go (by rw [this]; simp)
          simp -dsimp [c0, hy, ey, q1, q2, q3, wr w, h]
          simpa using go
        · have no := no (by unfold ltB dgB; rw [decide_eq_false (by omega : ¬ 97 ≤ y.toNat), decide_eq_false (by omega : ¬ y.toNat ≤ 57)]; simp)
          simp -dsimp [c0, hy, ey, q1, q2, q3, no]
      · have no := no (by unfold ltB dgB; rw [decide_eq_false (by omega : ¬ 97 ≤ y.toNat), decide_eq_false (by omega : ¬ 48 ≤ y.toNat)]; simp)
        simp -dsimp [c0, hy, ey, q1, q2, no]
  · have : k = t.length + 1 := by omega
    subst this
    have hall : ∀ b ∈ x :: t, (ltB b || dgB b) = true := by
      have e : (x :: t).take (t.length + 1) = x :: t := by simp
      rwa [e] at hall
    have : nmB (x :: t) = true := by
      simp only [nmB]
      rw [decide_eq_true (by simpa using h12), hlt, List.all_eq_true.2 hall]; rfl
    simp -dsimp [this]
end Go.Abs.A09
namespace Go.Abs.A09
open Go Go.Abs Go.Proofs
set_option maxRecDepth 100000
set_option linter.unusedVariables false
set_option linter.unusedSimpArgs false
attribute [local simp ↓] awp_skip awp_seq awp_cond awp_block awp_exit awp_ret awp_reg awp_draw awp_ghost awp_loop awp_rfun awpR_nil awpR_cons awpX_nil awpX_0 awpX_1 awpX_2 awpI_eq awpI_t awpI_f awpStep_eq
attribute [local simp] condL_true condL_false condL_dec evDel evV evN evS evA initFr Ghost.app Fr.var Fr.blk Fr.ff FF.val Abs.look Fr.app Fr.erase Fr.noSlot AV.noSlot AV.noSlotL Blk.noSlot Fr.spoken AV.fz AV.fzL Blk.fz binV binI shI binS unV fillA FF.parts FF.vals headO intO boundO lenV scalarEq leavesEq AV.aggc AV.cells FF.read FF.rows AV.one PV.one chunk freshB newS pickV retK evRs evRl evR resOf mkTup mkAgg allP cloOf okP_nil okX_p okX okP addN Del.noSlot Del.owners Rnd reify_p normM insM Fr.back Fr.backV Fr.setPs normV insV
theorem b77 (m : List (Int × Int)) (v : Int × Int) (hl : m.length ≤ 9223372036854775807) : Best Tryd.prog 77 [.sl 2 (m.map pRow), .agg (pRow v)] (.p (.int .i64 (idxS (fun p => decide (v.1 = p.1) && decide (v.2 = p.2)) m))) := by
  refine best mixed fn77 ok77 (by simp) ?_
  obtain ⟨v1, v2⟩ := v
  simp -dsimp [ac77, pRow]
  refine loopC m.length (fun k => ⟨[(0, .p (.sl 2 (m.map pRow))), (3, .ptr (3, 0) 2 0 0), (7, .p (.int .i64 m.length)), (8, .p (.int .i64 k))], [((3, 0), .box [.p (.int .i64 v1), .p (.int .i64 v2)])]⟩) (fun k => ∀ y ∈ m.take k, (decide (v1 = y.1) && decide (v2 = y.2)) = false) (fun k hk hall => ?_) (by simp) (by simp)
  by_cases h : k < m.length
  · obtain ⟨⟨x1, x2⟩, ex⟩ : ∃ x, m[k] = x := ⟨_, rfl⟩
    have hx : m[k]? = some (x1, x2) := by rw [List.getElem?_eq_getElem h, ex]
    have w : R ((k : Int) + 1) := ⟨by omega, by omega⟩
    have hit := fun h2 => idxS_hit (q := fun p : Int × Int => decide (v1 = p.1) && decide (v2 = p.2)) hx hall h2
    have go := fun h2 => take_succ_all (p := fun y : Int × Int => (decide (v1 = y.1) && decide (v2 = y.2)) = false) hx hall h2
    by_cases q1 : v1 = x1
    · by_cases q2 : v2 = x2
      · have := hit (by simp [q1, q2])
        subst q1 q2
        simp -dsimp [h, ex, pRow, this]
      · have := go (by simp [q2])
        subst q1
        simp -dsimp [h, ex, pRow, q2, wr w]
        simpa using this
    · have := go (by simp [q1])
      simp -dsimp [h, ex, pRow, q1, wr w]
      simpa using this
  · have : k = m.length := by omega
    subst this
    rw [List.take_length] at hall
    simp -dsimp [idxS_none hall]
theorem b45 (m : List (Int × Int)) (v : Int × Int) (hl : m.length ≤ 9223372036854775807) : Best Tryd.prog 45 [.sl 2 (m.map pRow), .agg (pRow v)] (.p (.bool (decide (v ∈ m)))) := by
  refine best mixed fn45 ok45 (by simp) ?_
  have h7 := b77 m v hl
  have := idxS_ge (q := fun p : Int × Int => decide (v.1 = p.1) && decide (v.2 = p.2)) (l := m)
  have e : (m.any fun p => decide (v.1 = p.1) && decide (v.2 = p.2)) = decide (v ∈ m) := by
    rw [Bool.eq_iff_iff]
    simp only [List.any_eq_true, Bool.and_eq_true, decide_eq_true_eq]
    constructor
    · rintro ⟨p, h1, h2, h3⟩
      have : v = p := by ext <;> assumption
      rw [this]; exact h1
    · intro h; exact ⟨v, h, rfl, rfl⟩
  rw [e] at this
  generalize idxS (fun p : Int × Int => decide (v.1 = p.1) && decide (v.2 = p.2)) m = z at *
  generalize decide (v ∈ m) = b at *
  obtain ⟨v1, v2⟩ := v
  simp -dsimp [ac45, pRow] at h7 ⊢
  refine call_p h7 rfl (by simp) ?_
  by_cases h : 0 ≤ z <;> simp only [h, decide_true, decide_false] at this <;> simp -dsimp [h, ← this]
theorem fdiv2 (n : Int) : n.fdiv 2 = n / 2 := by rw [Int.fdiv_eq_ediv_of_nonneg _ (by omega)]
theorem wu {n : Int} (h1 : 0 ≤ n) (h2 : n ≤ 18446744073709551615) : IntKind.u64.wrap n = n := by
  have e : IntKind.u64.wrap n = n % 18446744073709551616 := by
    unfold IntKind.wrap
    have h1 : IntKind.u64.signed = false := rfl
    have h2 : (2 : Int) ^ IntKind.u64.bits = 18446744073709551616 := by decide
    simp only [h1, h2, Bool.false_and, Bool.false_eq_true, if_false]
  rw [e]; omega
theorem b50 {f : FuncId} {ca : List PV} {q : Nat → Bool} {n : Nat} (hn : n < 4611686018427387904) (hq : ∀ i, i < n → Best Tryd.prog f (.int .i64 i :: ca) (.p (.bool (q i)))) {k0 : Nat} (hk : k0 ≤ n) (h1 : ∀ i, i < k0 → q i = false) (h2 : ∀ i, k0 ≤ i → i < n → q i = true) : Best Tryd.prog 50 [.int .i64 n, .clo (.func f) [] ca] (.p (.int .i64 k0)) := by
  refine best mixed fn50 ok50 (by simp) ?_
  simp -dsimp [ac50]
  refine loopL_rule (fun m F => ∃ i j : Nat, m = j - i ∧ i ≤ k0 ∧ k0 ≤ j ∧ j ≤ n ∧ (Ghost.keep [1, 5, 6]).app F = some ⟨[(1, .p (.clo (.func f) [] ca)), (5, .p (.int .i64 i)), (6, .p (.int .i64 j))], []⟩) ?_ ⟨0, n, rfl, by omega, hk, by omega, by simp⟩
  rintro m F ⟨i, j, rfl, hi, hj, hjn, hF⟩
  rw [awp_ghost, hF]
  by_cases h : i < j
  · have w1 : R ((i : Int) + j) := ⟨by omega, by omega⟩
    have w2 := wu (n := (i : Int) + j) (by omega) (by omega)
    have w3 := wu (n := ((i : Int) + j) / 2) (by omega) (by omega)
    obtain ⟨c, hc⟩ : ∃ c : Nat, c = (i + j) / 2 := ⟨_, rfl⟩
    have e : ((i : Int) + j) / 2 = (c : Int) := by omega
    have w4 : R (c : Int) := ⟨by omega, by omega⟩
    have w5 : R ((c : Int) + 1) := ⟨by omega, by omega⟩
    have hcall := hq c (by omega)
    have hb : (2 : Int) ^ (min 1 IntKind.u64.bits) = 2 := by decide
    simp -dsimp [h, wr w1, w2, hb, fdiv2, e, wr w4]
    refine call_p hcall (by simp [allP, allP_map]) (by simp) ?_
    cases hqc : q c with
    | true =>
      have hle : k0 ≤ c := by
        rcases Nat.lt_or_ge c k0 with h3 | h3
        · rw [h1 c h3] at hqc; simp at hqc
        · exact h3
      simp -dsimp
      exact ⟨c - i, by omega, i, c, rfl, hi, hle, by omega, rfl, rfl⟩
    | false =>
      have hle : c < k0 := by
        rcases Nat.lt_or_ge c k0 with h3 | h3
        · exact h3
        · rw [h2 c h3 (by omega)] at hqc; simp at hqc
      simp -dsimp [wr w5]

      exact ⟨j - (c + 1), by omega, c + 1, j, rfl, by omega, hj, hjn, by simp, rfl⟩
  · have e : i = k0 := by omega
    have h' : ¬ k0 < j := by omega
    simp -dsimp [h', e]
end Go.Abs.A09
namespace Go.Abs.A09
open Go Go.Abs Go.Proofs
set_option maxRecDepth 100000
set_option linter.unusedVariables false
set_option linter.unusedSimpArgs false
attribute [local simp ↓] awp_skip awp_seq awp_cond awp_block awp_exit awp_ret awp_reg awp_draw awp_ghost awp_loop awp_rfun awpR_nil awpR_cons awpX_nil awpX_0 awpX_1 awpX_2 awpI_eq awpI_t awpI_f awpStep_eq
attribute [local simp] condL_true condL_false condL_dec evDel evV evN evS evA initFr Ghost.app Fr.var Fr.blk Fr.ff FF.val Abs.look Fr.app Fr.erase Fr.noSlot AV.noSlot AV.noSlotL Blk.noSlot Fr.spoken AV.fz AV.fzL Blk.fz binV binI shI binS unV fillA FF.parts FF.vals headO intO boundO lenV scalarEq leavesEq AV.aggc AV.cells FF.read FF.rows AV.one PV.one chunk freshB newS pickV retK evRs evRl evR resOf mkTup mkAgg allP cloOf okP_nil okX_p okX okP addN Del.noSlot Del.owners Rnd reify_p normM insM Fr.back Fr.backV Fr.setPs normV insV
/-! ### ranges -/
def RG (l : List (Int × Int)) (n : Int) : Prop := 0 ≤ n ∧ n ≤ 3 ∧ l.length = n ∧ ∀ p ∈ l, CO p.1 ∧ CO p.2 ∧ p.1 ≤ p.2
instance {l : List (Int × Int)} {n : Int} : Decidable (RG l n) := inferInstanceAs (Decidable (_ ∧ _ ∧ _ ∧ _))
def PG (p : Int × Int) : Prop := CO p.1 ∧ CO p.2 ∧ p.1 ≤ p.2
instance {p : Int × Int} : Decidable (PG p) := inferInstanceAs (Decidable (_ ∧ _ ∧ _))
theorem b69 (x : Int × Int) : Best Tryd.prog 69 [.agg (pRow x)] (.p (.bool (!decide (PG x)))) := by
  obtain ⟨a, b⟩ := x
  refine best mixed fn69 ok69 (by simp) ?_
  simp -dsimp [ac69, pRow]
  refine call_p (b47' a) rfl (by simp) ?_
  by_cases h1 : CO a
  rotate_left
  · have : ¬ PG (a, b) := fun h => h1 h.1
    simp -dsimp [h1, this]
  simp -dsimp [h1]
  refine call_p (b47' b) rfl (by simp) ?_
  by_cases h2 : CO b
  rotate_left
  · have : ¬ PG (a, b) := fun h => h2 h.2.1
    simp -dsimp [h2, this]
  by_cases h3 : a ≤ b
  · have : PG (a, b) := ⟨h1, h2, h3⟩
    have h3' : ¬ b < a := by omega
    simp -dsimp [h2, h3', this]
  · have : ¬ PG (a, b) := fun h => h3 h.2.2
    have h3' : b < a := by omega
    simp -dsimp [h2, h3', this]
theorem anyPG (r : List (Int × Int)) : (r.any fun x => !decide (PG x)) = !decide (∀ t ∈ r, PG t) := by
  by_cases h : ∀ t ∈ r, PG t
  · rw [decide_eq_true h, List.any_eq_false.2 (fun x hx => by simp [h x hx])]; rfl
  · rw [decide_eq_false h, List.any_eq_true.2 ?_]
    · rfl
    · simpa using h
theorem b32 (r : List (Int × Int)) (n : Int) (hl : r.length ≤ 9223372036854775807) : Best Tryd.prog 32 [.sl 2 (r.map pRow), .int .i64 n] (.p (.bool (decide (RG r n)))) := by
  refine best mixed fn32 ok32 (by simp) ?_
  by_cases h1 : 0 ≤ n
  rotate_left
  · have : ¬ RG r n := fun h => h1 h.1
    simp -dsimp [ac32, h1, this]
  by_cases h2 : n ≤ 3
  rotate_left
  · have : ¬ RG r n := fun h => h2 h.2.1
    simp -dsimp [ac32, h1, h2, this]
  by_cases h3 : (r.length : Int) = n
  rotate_left
  · have : ¬ RG r n := fun h => h3 h.2.2.1
    simp -dsimp [ac32, h1, h2, h3, this]
  have hc := b70 b69 r hl
  rw [anyPG] at hc
  have e : decide (RG r n) = decide (∀ t ∈ r, PG t) := decide_eq_decide.2 ⟨fun h => h.2.2.2, fun h => ⟨h1, h2, h3, h⟩⟩
  rw [e]
  generalize decide (∀ t ∈ r, PG t) = b at *
  simp -dsimp [ac32, h1, h2, h3]
  refine call_p hc rfl (by simp) ?_
  simp -dsimp
theorem b33 (r : List (Int × Int)) (n : Int) : Best Tryd.prog 33 [.sl 2 (r.map pRow), .int .i64 n] (.p (.bool (decide (RG r n)))) := by
  refine best mixed fn33 ok33 (by simp) ?_
  by_cases h1 : n < 0
  · have : ¬ RG r n := fun h => by have := h.1; omega
    simp -dsimp [ac33, h1, this]
  by_cases h2 : 3 < n
  · have : ¬ RG r n := fun h => by have := h.2.1; omega
    simp -dsimp [ac33, h1, h2, this]
  by_cases h3 : (r.length : Int) = n
  rotate_left
  · have : ¬ RG r n := fun h => h3 h.2.2.1
    simp -dsimp [ac33, h1, h2, h3, this]
  subst h3
  have h1' : ¬ ((r.length : Int) < 0) := by omega
  simp -dsimp [ac33, h1', h2]
  refine loopC r.length (fun k => ⟨[(0, .p (.sl 2 (r.map pRow))), (1, .p (.int .i64 r.length)), (5, .p (.int .i64 k))], []⟩) (fun k => ∀ y ∈ r.take k, PG y) (fun k hk hall => ?_) (by simp) (by simp)
  by_cases h : k < r.length
  · obtain ⟨x, ex⟩ : ∃ x, r[k] = x := ⟨_, rfl⟩
    have hx : r[k]? = some x := by simp [h, ex]
    have w : R ((k : Int) + 1) := ⟨by omega, by omega⟩
    have no : ¬ PG x → ¬ RG r r.length := fun h2 h4 => h2 (h4.2.2.2 x (List.mem_of_getElem? hx))
    have go : PG x → ∀ y ∈ r.take (k + 1), PG y := fun h2 => take_succ_all (p := PG) hx hall h2
    obtain ⟨a, b⟩ := x
    simp -dsimp [h, ex, pRow]
    refine call_p (b19' a) rfl (by simp) ?_
    simp -dsimp [h, ex, pRow]
    refine call_p (b19' b) rfl (by simp) ?_
    by_cases q1 : CO a
    rotate_left
    · have := no fun h => q1 h.1
      simp -dsimp [q1, this]
    by_cases q2 : CO b
    rotate_left
    · have := no fun h => q2 h.2.1
      simp -dsimp [q1, q2, this]
    by_cases q3 : b < a
    · have := no fun h => by have := h.2.2; dsimp only at this; omega
      simp -dsimp [q1, q2, q3, h, ex, pRow, this]
    · have := go ⟨q1, q2, by dsimp only; omega⟩
      simp -dsimp [q1, q2, q3, h, ex, pRow, wr w]
      exact fun a b => this (a, b)
  · have : k = r.length := by omega
    subst this
    rw [List.take_length] at hall
    have : RG r r.length := ⟨by omega, by omega, rfl, hall⟩
    simp -dsimp [this]
end Go.Abs.A09
namespace Go.Abs.A09
open Go Go.Abs Go.Proofs
set_option maxRecDepth 100000
set_option linter.unusedVariables false
set_option linter.unusedSimpArgs false
attribute [local simp ↓] awp_skip awp_seq awp_cond awp_block awp_exit awp_ret awp_reg awp_draw awp_ghost awp_loop awp_rfun awpR_nil awpR_cons awpX_nil awpX_0 awpX_1 awpX_2 awpI_eq awpI_t awpI_f awpStep_eq
attribute [local simp] condL_true condL_false condL_dec evDel evV evN evS evA initFr Ghost.app Fr.var Fr.blk Fr.ff FF.val Abs.look Fr.app Fr.erase Fr.noSlot AV.noSlot AV.noSlotL Blk.noSlot Fr.spoken AV.fz AV.fzL Blk.fz binV binI shI binS unV fillA FF.parts FF.vals headO intO boundO lenV scalarEq leavesEq AV.aggc AV.cells FF.read FF.rows AV.one PV.one chunk freshB newS pickV retK evRs evRl evR resOf mkTup mkAgg allP cloOf okP_nil okX_p okX okP addN Del.noSlot Del.owners Rnd reify_p normM insM Fr.back Fr.backV Fr.setPs normV insV
def WI (a : List Int) (l : List (Int × Int)) : Prop := RG l a.length ∧ ∀ x ∈ a.zip l, x.2.1 ≤ x.1 ∧ x.1 ≤ x.2.2
instance {a : List Int} {l : List (Int × Int)} : Decidable (WI a l) := inferInstanceAs (Decidable (_ ∧ _))
theorem zip_get {α β : Type} {a : List α} {b : List β} {k : Nat} {x : α} {y : β} (h1 : a[k]? = some x) (h2 : b[k]? = some y) : (a.zip b)[k]? = some (x, y) := by
  simp [List.zip, List.getElem?_zipWith, h1, h2]
theorem zipS_inv {α β : Type} {f : α → PV} {g : β → PV} {a : List α} {b : List β} {k : Nat} {z : List PV} (h : (zipS f g a b)[k]? = some z) : ∃ x y, (a.zip b)[k]? = some (x, y) ∧ z = [f x, g y] := by
  simp only [zipS, List.getElem?_map, Option.map_eq_some_iff] at h
  obtain ⟨⟨x, y⟩, h1, h2⟩ := h
  exact ⟨x, y, h1, h2.symm⟩
theorem b34 (a : List Int) (l : List (Int × Int)) (ha : a.length ≤ 9223372036854775807) (hl : l.length ≤ 9223372036854775807) : Best Tryd.prog 34 [.sl 1 (a.map intRow), .sl 2 (l.map pRow)] (.p (.bool (decide (WI a l)))) := by
  refine best mixed fn34 ok34 (by simp) ?_
  simp -dsimp [ac34]
  refine call_p (b32 l a.length hl) rfl (by simp) ?_
  by_cases h1 : RG l a.length
  rotate_left
  · have : ¬ WI a l := fun h => h1 h.1
    simp -dsimp [h1, this]
  simp -dsimp [h1]
  refine call_p (b71 (a.map intRow) (l.map pRow)) rfl (by simp) ?_
  simp -dsimp
  refine rfunL_rule rfl rfl (g90 a l ha) (fun k F => F = ⟨[(4, .ptr (4, 0) 1 0 0), (14, .p (.clo (.func 90) [] [.ro [.sl 1 (a.map intRow)], .ro [.sl 2 (l.map pRow)]]))], [((4, 0), .box [.p (.bool false)])]⟩ ∧ ∀ x ∈ (a.zip l).take k, x.2.1 ≤ x.1 ∧ x.1 ≤ x.2.2) ?_ ?_ ⟨by simp, by simp⟩
  · rintro k z F hz ⟨hF, hall⟩
    obtain ⟨x, ⟨y1, y2⟩, hxy, rfl⟩ := zipS_inv hz
    refine ⟨by simp, ?_⟩
    have no : ¬ (y1 ≤ x ∧ x ≤ y2) → ¬ WI a l := fun h1 h2 => h1 (h2.2 _ (List.mem_of_getElem? hxy))
    have go : y1 ≤ x ∧ x ≤ y2 → ∀ z ∈ (a.zip l).take (k + 1), z.2.1 ≤ z.1 ∧ z.1 ≤ z.2.2 := fun h => take_succ_all (p := fun z : Int × Int × Int => z.2.1 ≤ z.1 ∧ z.1 ≤ z.2.2) hxy hall h
    by_cases q1 : x < y1
    · have := no (by omega)
      subst hF; simp -dsimp [vI, vP, pRow, q1, this]
    by_cases q2 : y2 < x
    · have := no (by omega)
      subst hF; simp -dsimp [vI, vP, pRow, q1, q2, this]
    have := go (by omega)
    subst hF
    simp -dsimp [vI, vP, pRow, q1, q2]; exact fun a b c => this (a, b, c)
  · rintro F ⟨hF, hall⟩
    have hz : (zipS vI vP a l).length = (a.zip l).length := by simp [zipS]
    rw [hz, List.take_length] at hall
    have : WI a l := ⟨h1, hall⟩
    subst hF; simp -dsimp [this]
end Go.Abs.A09
namespace Go.Abs.A09
open Go Go.Abs Go.Proofs
set_option maxRecDepth 100000
set_option linter.unusedVariables false
set_option linter.unusedSimpArgs false
attribute [local simp ↓] awp_skip awp_seq awp_cond awp_block awp_exit awp_ret awp_reg awp_draw awp_ghost awp_loop awp_rfun awpR_nil awpR_cons awpX_nil awpX_0 awpX_1 awpX_2 awpI_eq awpI_t awpI_f awpStep_eq
attribute [local simp] condL_true condL_false condL_dec evDel evV evN evS evA initFr Ghost.app Fr.var Fr.blk Fr.ff FF.val Abs.look Fr.app Fr.erase Fr.noSlot AV.noSlot AV.noSlotL Blk.noSlot Fr.spoken AV.fz AV.fzL Blk.fz binV binI shI binS unV fillA FF.parts FF.vals headO intO boundO lenV scalarEq leavesEq AV.aggc AV.cells FF.read FF.rows AV.one PV.one chunk freshB newS pickV retK evRs evRl evR resOf mkTup mkAgg allP cloOf okP_nil okX_p okX okP addN Del.noSlot Del.owners Rnd reify_p normM insM Fr.back Fr.backV Fr.setPs normV insV
structure Ax where
  nm : List UInt8
  lo : Int
  df : Int
  hi : Int
  m : List (Int × Int)
def axC (a : Ax) : List PV := [.str (ba a.nm), .int .i64 a.lo, .int .i64 a.df, .int .i64 a.hi, .sl 2 (a.m.map pRow)]
/-- Two points, one behind the other. -/
def UP (x y : Int × Int) : Prop := x.1 < y.1 ∧ x.2 ≤ y.2
instance {x y : Int × Int} : Decidable (UP x y) := inferInstanceAs (Decidable (_ ∧ _))
structure AXP (a : Ax) : Prop where
  b1 : -10000 ≤ a.lo
  b2 : a.lo ≤ a.df
  b3 : a.df ≤ a.hi
  b4 : a.hi ≤ 10000
  n1 : 1 ≤ a.m.length
  n2 : a.m.length ≤ 6
  f0 : (a.m.getD 0 (0, 0)).1 = a.lo
  fl : (a.m.getD (a.m.length - 1) (0, 0)).1 = a.hi
  dm : (a.df, 0) ∈ a.m
  up : ∀ x ∈ a.m.zip a.m.tail, UP x.1 x.2
  co : ∀ p ∈ a.m, CO p.2
open Classical in
noncomputable def chkS (a : Ax) : Int := if nmB a.nm = false then 36 else if AXP a then 0 else 10
theorem chk_name {a : Ax} (h : nmB a.nm = false) : chkS a = 36 := if_pos h
theorem chk_no {a : Ax} (h : nmB a.nm = true) (h2 : ¬ AXP a) : chkS a = 10 := by unfold chkS; rw [if_neg (by simp [h]), if_neg h2]
theorem chk_ok {a : Ax} (h : nmB a.nm = true) (h2 : AXP a) : chkS a = 0 := by unfold chkS; rw [if_neg (by simp [h]), if_pos h2]
theorem chk_zero {a : Ax} : chkS a = 0 ↔ nmB a.nm = true ∧ AXP a := by
  unfold chkS
  cases h : nmB a.nm <;> simp
/-- Coordinates that increase are all such, if the first and the last ones are. -/
theorem up_get {m : List (Int × Int)} (hup : ∀ x ∈ m.zip m.tail, UP x.1 x.2) {i : Nat} {x y : Int × Int} (h1 : m[i]? = some x) (h2 : m[i + 1]? = some y) : UP x y := by
  have : (m.zip m.tail)[i]? = some (x, y) := zip_get h1 (by rw [List.getElem?_tail]; exact h2)
  exact hup _ (List.mem_of_getElem? this)
theorem up_le {m : List (Int × Int)} (hup : ∀ x ∈ m.zip m.tail, UP x.1 x.2) : ∀ {j i : Nat} {x y : Int × Int}, i ≤ j → m[i]? = some x → m[j]? = some y → x.1 ≤ y.1 ∧ x.2 ≤ y.2 ∧ (i < j → x.1 < y.1)
  | 0, i, x, y, hij, h1, h2 => by
    have : i = 0 := by omega
    subst this
    rw [h1] at h2; simp at h2; subst h2
    exact ⟨Int.le_refl _, Int.le_refl _, fun h => by omega⟩
  | j + 1, i, x, y, hij, h1, h2 => by
    by_cases he : i = j + 1
    · subst he
      rw [h1] at h2; simp at h2; subst h2
      exact ⟨Int.le_refl _, Int.le_refl _, fun h => by omega⟩
    · have hlt : j < m.length := by have := (List.getElem?_eq_some_iff.1 h2).1; omega
      obtain ⟨z, hz⟩ : ∃ z, m[j]? = some z := ⟨_, List.getElem?_eq_getElem hlt⟩
      have a1 := up_le hup (j := j) (i := i) (by omega) h1 hz
      have a2 := up_get hup hz h2
      unfold UP at a2
      exact ⟨by omega, by omega, fun _ => by omega⟩
theorem co_all {m : List (Int × Int)} (hup : ∀ x ∈ m.zip m.tail, UP x.1 x.2) {x y : Int × Int} (h1 : m[0]? = some x) (h2 : m[m.length - 1]? = some y) (hx : CO x.2) (hy : CO y.2) : ∀ p ∈ m, CO p.2 := by
  intro p hp
  obtain ⟨i, hi⟩ := List.getElem?_of_mem hp
  have hlt := (List.getElem?_eq_some_iff.1 hi).1
  have a1 := up_le hup (Nat.zero_le i) h1 hi
  have a2 := up_le hup (by omega : i ≤ m.length - 1) hi h2
  unfold CO at *
  omega
set_option maxHeartbeats 2000000 in
theorem b14 (a : Ax) (hl : a.m.length ≤ 9223372036854775807) : Best Tryd.prog 14 [.agg (axC a)] (.p (.int .i64 (chkS a))) := by
  refine best mixed fn14 ok14 (by simp) ?_
  obtain ⟨nm, lo, df, hi, m⟩ := a
  dsimp only at hl
  simp -dsimp [ac14, axC]
  refine call_p (b44 nm) rfl (by simp) ?_
  cases hn : nmB nm with
  | false =>
    have := chk_name (a := ⟨nm, lo, df, hi, m⟩) hn
    simp -dsimp [this]
  | true =>
  have no : ¬ AXP ⟨nm, lo, df, hi, m⟩ → chkS ⟨nm, lo, df, hi, m⟩ = 10 := chk_no hn
  by_cases q1 : lo < -10000
  · have := no fun h => by have := h.b1; dsimp only at this; omega
    simp -dsimp [q1, this]
  by_cases q2 : df < lo
  · have := no fun h => by have := h.b2; dsimp only at this; omega
    simp -dsimp [q1, q2, this]
  by_cases q3 : hi < df
  · have := no fun h => by have := h.b3; dsimp only at this; omega
    simp -dsimp [q1, q2, q3, this]
  by_cases q4 : 10000 < hi
  · have := no fun h => by have := h.b4; dsimp only at this; omega
    simp -dsimp [q1, q2, q3, q4, this]
  by_cases q5 : (m.length : Int) < 1
  · have := no fun h => by have := h.n1; dsimp only at this; omega
    simp -dsimp [q1, q2, q3, q4, q5, this]
  by_cases q6 : 6 < (m.length : Int)
  · have := no fun h => by have := h.n2; dsimp only at this; omega
    simp -dsimp [q1, q2, q3, q4, q5, q6, this]
  have hm0 : 0 < m.length := by omega
  obtain ⟨⟨x1, x2⟩, ex⟩ : ∃ x, m[0] = x := ⟨_, rfl⟩
  have hx : m[0]? = some (x1, x2) := by rw [List.getElem?_eq_getElem hm0, ex]
  obtain ⟨⟨y1, y2⟩, ey⟩ : ∃ x, m[m.length - 1] = x := ⟨_, rfl⟩
  have hy : m[m.length - 1]? = some (y1, y2) := by rw [List.getElem?_eq_getElem (by omega), ey]
  have g0 : m.getD 0 (0, 0) = (x1, x2) := by simp [List.getD, hx]
  have gl : m.getD (m.length - 1) (0, 0) = (y1, y2) := by simp [List.getD, hy]
  by_cases q7 : x1 = lo
  rotate_left
  · have := no fun h => by have := h.f0; dsimp only at this; rw [g0] at this; exact q7 this
    simp -dsimp [q1, q2, q3, q4, q5, q6, hm0, ex, pRow, q7, this]
  have w1 : R ((m.length : Int) - 1) := ⟨by omega, by omega⟩
  have c1 : (0 : Int) ≤ (m.length : Int) - 1 := by omega
  have c2 : ((m.length : Int) - 1).toNat = m.length - 1 := by omega
  have c3 : m.length - 1 < m.length := by omega
  have c4 : (1 : Int) ≤ (m.length : Int) := by omega
  by_cases q8 : y1 = hi
  rotate_left
  · have := no fun h => by have := h.fl; dsimp only at this; rw [gl] at this; exact q8 this
    simp -dsimp [q1, q2, q3, q4, q5, q6, hm0, ex, pRow, q7, wr w1, c1, c2, c3, c4, ey, hy, q8, this]
  simp -dsimp [q1, q2, q3, q4, q5, q6, hm0, ex, pRow, q7, wr w1, c1, c2, c3, c4, ey, hy, q8]
  refine call_p (b45 m (df, 0) hl) rfl (by simp) ?_
  by_cases q9 : (df, (0 : Int)) ∈ m
  rotate_left
  · have := no fun h => q9 h.dm
    simp -dsimp [q9, this]
  have ht : (m.map pRow).tail = m.tail.map pRow := by cases m <;> rfl
  have htk : List.take m.length (m.map pRow) = m.map pRow := List.take_of_length_le (by simp)
  obtain ⟨T, hT⟩ : ∃ T, (m.map pRow).tail = T := ⟨_, rfl⟩
  simp -dsimp [q9, c4, hT, htk]
  refine call_p (b46 (m.map pRow) T) rfl (by simp) ?_
  simp -dsimp
  rw [ht] at hT
  subst hT
  refine rfunL_rule rfl rfl (g78 m m.tail hl) (fun k F => F = ⟨[(1, .ptr (1, 0) 5 0 0), (2, .ptr (2, 0) 1 0 0), (3, .p (.int .i64 m.length)), (66, .p (.clo (.func 78) [] [.ro [.sl 2 (m.map pRow)], .ro [.sl 2 (m.tail.map pRow)]]))], [((1, 0), .box [.p (.str (ba nm)), .p (.int .i64 lo), .p (.int .i64 df), .p (.int .i64 hi), .p (.sl 2 (m.map pRow))]), ((2, 0), .box [.p (.int .i64 0)])]⟩ ∧ ∀ x ∈ (m.zip m.tail).take k, UP x.1 x.2) ?_ ?_ ⟨by simp, by simp⟩
  · rintro k z F hz ⟨rfl, hall⟩
    obtain ⟨⟨u1, u2⟩, ⟨v1, v2⟩, hxy, rfl⟩ := zipS_inv hz
    refine ⟨by simp, ?_⟩
    have bad : ¬ UP (u1, u2) (v1, v2) → chkS ⟨nm, lo, df, hi, m⟩ = 10 := fun h1 => no fun h2 => h1 (h2.up _ (List.mem_of_getElem? hxy))
    have go : UP (u1, u2) (v1, v2) → ∀ z ∈ (m.zip m.tail).take (k + 1), UP z.1 z.2 := fun h => take_succ_all (p := fun z : (Int × Int) × Int × Int => UP z.1 z.2) hxy hall h
    by_cases r1 : v1 ≤ u1
    · have := bad fun h => by have := h.1; dsimp only at this; omega
      simp -dsimp [vP, pRow, r1, this]
    by_cases r2 : v2 < u2
    · have := bad fun h => by have := h.2; dsimp only at this; omega
      simp -dsimp [vP, pRow, r1, r2, this]
    have := go ⟨by dsimp only; omega, by dsimp only; omega⟩
    simp -dsimp [vP, pRow, r1, r2]
    exact fun a b c d => this ((a, b), c, d)
  · rintro F ⟨rfl, hall⟩
    have hz : (zipS vP vP m m.tail).length = (m.zip m.tail).length := by simp [zipS]
    rw [hz, List.take_length] at hall
    simp -dsimp [hm0, hx, ex, pRow]
    refine call_p (b47' x2) rfl (by simp) ?_
    by_cases s1 : CO x2
    rotate_left
    · have := no fun h => s1 (h.co _ (List.mem_of_getElem? hx))
      simp -dsimp [s1, this]
    simp -dsimp [s1, wr w1, c1, c2, c3, c4, ey, hy, pRow]
    refine call_p (b47' y2) rfl (by simp) ?_
    by_cases s2 : CO y2
    rotate_left
    · have := no fun h => s2 (h.co _ (List.mem_of_getElem? hy))
      simp -dsimp [s2, this]
    have : chkS ⟨nm, lo, df, hi, m⟩ = 0 := chk_ok hn ⟨by dsimp only; omega, by dsimp only; omega, by dsimp only; omega, by dsimp only; omega, by dsimp only; omega, by dsimp only; omega, by dsimp only; rw [g0]; exact q7, by dsimp only; rw [gl]; exact q8, q9, hall, co_all hall hx hy s1 s2⟩
    simp -dsimp [s2, this]
end Go.Abs.A09
namespace Go.Abs.A09
open Go Go.Abs Go.Proofs
set_option maxRecDepth 100000
set_option linter.unusedVariables false
set_option linter.unusedSimpArgs false
attribute [local simp ↓] awp_skip awp_seq awp_cond awp_block awp_exit awp_ret awp_reg awp_draw awp_ghost awp_loop awp_rfun awpR_nil awpR_cons awpX_nil awpX_0 awpX_1 awpX_2 awpI_eq awpI_t awpI_f awpStep_eq
attribute [local simp] condL_true condL_false condL_dec evDel evV evN evS evA initFr Ghost.app Fr.var Fr.blk Fr.ff FF.val Abs.look Fr.app Fr.erase Fr.noSlot AV.noSlot AV.noSlotL Blk.noSlot Fr.spoken AV.fz AV.fzL Blk.fz binV binI shI binS unV fillA FF.parts FF.vals headO intO boundO lenV scalarEq leavesEq AV.aggc AV.cells FF.read FF.rows AV.one PV.one chunk freshB newS pickV retK evRs evRl evR resOf mkTup mkAgg allP cloOf okP_nil okX_p okX okP addN Del.noSlot Del.owners Rnd reify_p normM insM Fr.back Fr.backV Fr.setPs normV insV
/-- What is right up to a point. -/
def pre (m : List (Int × Int)) (k : Nat) : Prop := (∀ p ∈ m.take k, CO p.2) ∧ ∀ i x y, i + 1 < k → m[i]? = some x → m[i + 1]? = some y → UP x y
theorem pre_all {m : List (Int × Int)} (h : pre m m.length) : (∀ p ∈ m, CO p.2) ∧ ∀ x ∈ m.zip m.tail, UP x.1 x.2 := by
  refine ⟨fun p hp => h.1 p (by rwa [List.take_length]), fun x hx => ?_⟩
  obtain ⟨i, hi⟩ := List.getElem?_of_mem hx
  obtain ⟨x1, x2⟩ := x
  have : m[i]? = some x1 ∧ m.tail[i]? = some x2 := by
    simp only [List.zip, List.getElem?_zipWith] at hi
    cases h1 : m[i]? <;> cases h2 : m.tail[i]? <;> simp [h1, h2] at hi
    obtain ⟨rfl, rfl⟩ := hi
    exact ⟨rfl, rfl⟩
  have h2 := this.2
  rw [List.getElem?_tail] at h2
  exact h.2 i x1 x2 (List.getElem?_eq_some_iff.1 h2).1 this.1 h2
set_option maxHeartbeats 2000000 in
theorem b15 (a : Ax) (hl : a.m.length ≤ 9223372036854775807) (hnl : a.nm.length ≤ 9223372036854775807) : Best Tryd.prog 15 [.agg (axC a)] (.p (.int .i64 (chkS a))) := by
  refine best mixed fn15 ok15 (by simp) ?_
  obtain ⟨nm, lo, df, hi, m⟩ := a
  dsimp only at hl
  simp -dsimp [ac15, axC]
  refine call_p (b48 nm hnl) rfl (by simp) ?_
  cases hn : nmB nm with
  | false =>
    have := chk_name (a := ⟨nm, lo, df, hi, m⟩) hn
    simp -dsimp [this]
  | true =>
  have no : ¬ AXP ⟨nm, lo, df, hi, m⟩ → chkS ⟨nm, lo, df, hi, m⟩ = 10 := chk_no hn
  by_cases q1 : lo < -10000
  · have := no fun h => by have := h.b1; dsimp only at this; omega
    simp -dsimp [q1, this]
  by_cases q2 : df < lo
  · have := no fun h => by have := h.b2; dsimp only at this; omega
    simp -dsimp [q1, q2, this]
  by_cases q3 : hi < df
  · have := no fun h => by have := h.b3; dsimp only at this; omega
    simp -dsimp [q1, q2, q3, this]
  by_cases q4 : 10000 < hi
  · have := no fun h => by have := h.b4; dsimp only at this; omega
    simp -dsimp [q1, q2, q3, q4, this]
  by_cases q5 : (m.length : Int) < 1
  · have := no fun h => by have := h.n1; dsimp only at this; omega
    simp -dsimp [q1, q2, q3, q4, q5, this]
  by_cases q6 : 6 < (m.length : Int)
  · have := no fun h => by have := h.n2; dsimp only at this; omega
    simp -dsimp [q1, q2, q3, q4, q5, q6, this]
  have hm0 : 0 < m.length := by omega
  obtain ⟨⟨x1, x2⟩, ex⟩ : ∃ x, m[0] = x := ⟨_, rfl⟩
  have hx : m[0]? = some (x1, x2) := by rw [List.getElem?_eq_getElem hm0, ex]
  obtain ⟨⟨y1, y2⟩, ey⟩ : ∃ x, m[m.length - 1] = x := ⟨_, rfl⟩
  have hy : m[m.length - 1]? = some (y1, y2) := by rw [List.getElem?_eq_getElem (by omega), ey]
  have g0 : m.getD 0 (0, 0) = (x1, x2) := by simp [List.getD, hx]
  have gl : m.getD (m.length - 1) (0, 0) = (y1, y2) := by simp [List.getD, hy]
  by_cases q7 : x1 = lo
  rotate_left
  · have := no fun h => by have := h.f0; dsimp only at this; rw [g0] at this; exact q7 this
    simp -dsimp [q1, q2, q3, q4, q5, q6, hm0, ex, pRow, q7, this]
  have w1 : R ((m.length : Int) - 1) := ⟨by omega, by omega⟩
  have c1 : (0 : Int) ≤ (m.length : Int) - 1 := by omega
  have c2 : ((m.length : Int) - 1).toNat = m.length - 1 := by omega
  have c3 : m.length - 1 < m.length := by omega
  have c4 : (1 : Int) ≤ (m.length : Int) := by omega
  by_cases q8 : y1 = hi
  rotate_left
  · have := no fun h => by have := h.fl; dsimp only at this; rw [gl] at this; exact q8 this
    simp -dsimp [q1, q2, q3, q4, q5, q6, hm0, ex, pRow, q7, wr w1, c1, c2, c3, c4, ey, hy, q8, this]
  simp -dsimp [q1, q2, q3, q4, q5, q6, hm0, ex, pRow, q7, wr w1, c1, c2, c3, c4, ey, hy, q8]
  have ci : ∀ k : Nat, (decide ((df, (0 : Int)) ∈ m.take k)) = (m.take k).any fun p => decide (p.1 = df) && decide (p.2 = 0) := fun k => by
    rw [Bool.eq_iff_iff]
    simp only [List.any_eq_true, Bool.and_eq_true, decide_eq_true_eq]
    constructor
    · intro h; exact ⟨_, h, rfl, rfl⟩
    · rintro ⟨⟨p1, p2⟩, h1, rfl, rfl⟩; exact h1
  refine loopC m.length (fun k => ⟨[(1, .ptr (1, 0) 5 0 0), (4, .p (.int .i64 m.length)), (5, .p (.bool (decide ((df, (0 : Int)) ∈ m.take k)))), (6, .p (.int .i64 k))], [((1, 0), .box [.p (.str (ba nm)), .p (.int .i64 lo), .p (.int .i64 df), .p (.int .i64 hi), .p (.sl 2 (m.map pRow))])]⟩) (fun k => pre m k) (fun k hk hpre => ?_) ⟨by simp, fun i _ _ h => by omega⟩ (by simp)
  by_cases h : k < m.length
  · obtain ⟨⟨u1, u2⟩, eu⟩ : ∃ x, m[k] = x := ⟨_, rfl⟩
    have hu : m[k]? = some (u1, u2) := by rw [List.getElem?_eq_getElem h, eu]
    have w : R ((k : Int) + 1) := ⟨by omega, by omega⟩
    have cz : decide ((df, (0 : Int)) ∈ m.take (k + 1)) = (decide ((df, (0 : Int)) ∈ m.take k) || (decide (u1 = df) && decide (u2 = 0))) := by
      rw [ci, ci, List.take_add_one, hu]; simp
    have noc : ¬ CO u2 → chkS ⟨nm, lo, df, hi, m⟩ = 10 := fun h1 => no fun h2 => h1 (h2.co _ (List.mem_of_getElem? hu))
    simp -dsimp [h, eu, pRow]
    refine call_p (b19' u2) rfl (by simp) ?_
    by_cases r1 : CO u2
    rotate_left
    · have := noc r1
      simp -dsimp [r1, this]
    have fin : ∀ (hp : pre m (k + 1)), True := fun _ => trivial
    generalize decide ((df, (0 : Int)) ∈ m.take k) = z at cz ⊢
    generalize decide ((df, (0 : Int)) ∈ m.take (k + 1)) = z' at cz ⊢
    by_cases r2 : k = 0
    · subst r2
      have hp : pre m (0 + 1) := ⟨take_succ_all (p := fun p : Int × Int => CO p.2) hu hpre.1 r1, fun i _ _ h => by omega⟩
      cases z with
      | true =>
        rw [Bool.true_or] at cz
        simp -dsimp [r1, wr w, cz, hm0]; exact ⟨hp, wr ⟨by omega, by omega⟩⟩
      | false =>
        rw [Bool.false_or] at cz
        simp -dsimp [r1, wr w, cz, hm0]; exact ⟨hp, wr ⟨by omega, by omega⟩⟩
    · have hk0 : (0 : Int) < k := by omega
      have hk0n : 0 < k := by omega
      have d1n : 1 ≤ k := by omega
      have w2 : R ((k : Int) - 1) := ⟨by omega, by omega⟩
      have d1 : (1 : Int) ≤ k := by omega
      have d1' : (0 : Int) ≤ (k : Int) - 1 := by omega
      have d2 : ((k : Int) - 1).toNat = k - 1 := by omega
      have d3 : k - 1 < m.length := by omega
      obtain ⟨⟨t1, t2⟩, et⟩ : ∃ x, m[k - 1] = x := ⟨_, rfl⟩
      have hT : m[k - 1]? = some (t1, t2) := by rw [List.getElem?_eq_getElem d3, et]
      have hu' : m[k - 1 + 1]? = some (u1, u2) := by rw [show k - 1 + 1 = k by omega]; exact hu
      have bad : ¬ UP (t1, t2) (u1, u2) → chkS ⟨nm, lo, df, hi, m⟩ = 10 := fun h1 => no fun h2 => h1 (up_get h2.up hT hu')
      by_cases r3 : u1 ≤ t1
      · have := bad fun h => by have := h.1; dsimp only at this; omega
        simp -dsimp [r1, hk0, hk0n, d1n, wr w2, d1, d1', d2, d3, et, hT, pRow, r3, this]
      by_cases r4 : u2 < t2
      · have := bad fun h => by have := h.2; dsimp only at this; omega
        simp -dsimp [r1, hk0, hk0n, d1n, wr w2, d1, d1', d2, d3, et, hT, pRow, r3, r4, this]
      have hup : UP (t1, t2) (u1, u2) := ⟨by dsimp only; omega, by dsimp only; omega⟩
      have hp : pre m (k + 1) := ⟨take_succ_all (p := fun p : Int × Int => CO p.2) hu hpre.1 r1, fun i x y hi' h1 h2 => by
        by_cases hik : i + 1 = k
        · have : i = k - 1 := by omega
          subst this
          rw [hT] at h1; rw [hu'] at h2
          simp at h1 h2; subst h1 h2; exact hup
        · exact hpre.2 i x y (by omega) h1 h2⟩
      cases z with
      | true =>
        rw [Bool.true_or] at cz
        simp -dsimp [r1, hk0, hk0n, d1n, wr w, wr w2, d1, d1', d2, d3, et, hT, pRow, r3, r4, cz, h]; exact hp
      | false =>
        rw [Bool.false_or] at cz
        simp -dsimp [r1, hk0, hk0n, d1n, wr w, wr w2, d1, d1', d2, d3, et, hT, pRow, r3, r4, cz, h]; exact hp
  · have : k = m.length := by omega
    subst this
    obtain ⟨p1, p2⟩ := pre_all hpre
    rw [List.take_length]
    by_cases q9 : (df, (0 : Int)) ∈ m
    · have : chkS ⟨nm, lo, df, hi, m⟩ = 0 := chk_ok hn ⟨by dsimp only; omega, by dsimp only; omega, by dsimp only; omega, by dsimp only; omega, by dsimp only; omega, by dsimp only; omega, by dsimp only; rw [g0]; exact q7, by dsimp only; rw [gl]; exact q8, q9, p2, p1⟩
      simp -dsimp [q9, this]
    · have := no fun h => q9 h.dm
      simp -dsimp [q9, this]
end Go.Abs.A09
namespace Go.Abs.A09
open Go Go.Abs Go.Proofs
set_option maxRecDepth 100000
set_option linter.unusedVariables false
set_option linter.unusedSimpArgs false
attribute [local simp ↓] awp_skip awp_seq awp_cond awp_block awp_exit awp_ret awp_reg awp_draw awp_ghost awp_loop awp_rfun awpR_nil awpR_cons awpX_nil awpX_0 awpX_1 awpX_2 awpI_eq awpI_t awpI_f awpStep_eq
attribute [local simp] condL_true condL_false condL_dec evDel evV evN evS evA initFr Ghost.app Fr.var Fr.blk Fr.ff FF.val Abs.look Fr.app Fr.erase Fr.noSlot AV.noSlot AV.noSlotL Blk.noSlot Fr.spoken AV.fz AV.fzL Blk.fz binV binI shI binS unV fillA FF.parts FF.vals headO intO boundO lenV scalarEq leavesEq AV.aggc AV.cells FF.read FF.rows AV.one PV.one chunk freshB newS pickV retK evRs evRl evR resOf mkTup mkAgg allP cloOf okP_nil okX_p okX okP addN Del.noSlot Del.owners Rnd reify_p normM insM Fr.back Fr.backV Fr.setPs normV insV
noncomputable def lineS (x f0 f1 t0 t1 : Int) : Int × Bool :=
  if SM x ∧ SM f0 ∧ SM f1 ∧ SM t0 ∧ SM t1 ∧ f0 < t0 ∧ f0 ≤ x ∧ x ≤ t0 then (f1 + roundS ((x - f0) * (t1 - f1)) (t0 - f0), true) else (0, false)
theorem roundS_add {a n d : Int} (hd : 1 ≤ d) : roundS (a * d + n) d = a + roundS n d := by
  unfold roundS
  have e1 : (a * d + n) % d = n % d := by rw [Int.add_comm, Int.mul_comm]; exact Int.add_mul_emod_self_left n d a
  have e2 : (a * d + n) / d = a + n / d := by
    rw [Int.add_comm (a * d), Int.add_mul_ediv_right _ _ (by omega)]; omega
  rw [e1, e2]
  split <;> omega
theorem lineB {x f0 f1 t0 t1 : Int} (h0 : SM x) (h1 : SM f0) (h2 : SM f1) (h3 : SM t0) (h4 : SM t1) (h5 : f0 < t0) (h6 : f0 ≤ x) (h7 : x ≤ t0) :
    -4398046511104 ≤ (x - f0) * (t1 - f1) ∧ (x - f0) * (t1 - f1) ≤ 4398046511104 ∧ -4398046511104 ≤ f1 * (t0 - f0) ∧ f1 * (t0 - f0) ≤ 4398046511104 := by
  unfold SM at *
  have a1 : (x - f0) * (-2097152) ≤ (x - f0) * (t1 - f1) := Int.mul_le_mul_of_nonneg_left (by omega) (by omega)
  have a2 : (x - f0) * (t1 - f1) ≤ (x - f0) * 2097152 := Int.mul_le_mul_of_nonneg_left (by omega) (by omega)
  have a3 : (-1048576) * (t0 - f0) ≤ f1 * (t0 - f0) := Int.mul_le_mul_of_nonneg_right (by omega) (by omega)
  have a4 : f1 * (t0 - f0) ≤ 1048576 * (t0 - f0) := Int.mul_le_mul_of_nonneg_right (by omega) (by omega)
  omega
theorem lineN {x f0 f1 t0 t1 : Int} (h : ¬ (SM x ∧ SM f0 ∧ SM f1 ∧ SM t0 ∧ SM t1 ∧ f0 < t0 ∧ f0 ≤ x ∧ x ≤ t0)) : lineS x f0 f1 t0 t1 = (0, false) := if_neg h
theorem roundS_bd {n d m : Int} (hd : 1 ≤ d) (h1 : -m ≤ n) (h2 : n ≤ m) (hm : 0 ≤ m) : -m - 1 ≤ roundS n d ∧ roundS n d ≤ m + 1 := by
  have a1 := ediv_le (n := n) (d := d) h2 hm hd
  have a2 : -m ≤ n / d := by
    refine Int.le_ediv_of_mul_le (by omega) ?_
    have : (-m) * d ≤ (-m) * 1 := Int.mul_le_mul_of_nonpos_left (by omega) hd
    omega
  unfold roundS
  split <;> omega
theorem b53t (ns : List Int) (hl : ns.length ≤ 9223372036854775807) (h : ∀ n ∈ ns, SM n) : Best Tryd.prog 53 [.sl 1 (ns.map intRow)] (.p (.bool true)) := by
  have := b53 ns hl; rwa [decide_eq_true h] at this
theorem b53f (ns : List Int) (hl : ns.length ≤ 9223372036854775807) (h : ¬ ∀ n ∈ ns, SM n) : Best Tryd.prog 53 [.sl 1 (ns.map intRow)] (.p (.bool false)) := by
  have := b53 ns hl; rwa [decide_eq_false h] at this
theorem b18 {x f0 f1 t0 t1 : Int} : Best Tryd.prog 18 [.int .i64 x, .agg [.int .i64 f0, .int .i64 f1], .agg [.int .i64 t0, .int .i64 t1]] (.p (.tup [.int .i64 (lineS x f0 f1 t0 t1).1, .bool (lineS x f0 f1 t0 t1).2])) := by
  refine best mixed fn18 ok18 (by simp) ?_
  simp -dsimp [ac18]
  by_cases h : ∀ n ∈ [x, f0, f1, t0, t1], SM n
  · refine call_f (b53t [x, f0, f1, t0, t1] (by simp) h) (by simp [FF.reifyL, FF.reify, FF.rows, Fr.ff, Fr.blk, Fr.app, look, chunk, intRow, List.range, List.range.loop]) rfl (by simp) ?_
    have h' := h
    simp only [List.mem_cons, List.not_mem_nil, or_false, forall_eq_or_imp, forall_eq] at h'
    obtain ⟨s0, s1, s2, s3, s4⟩ := h'
    by_cases h5 : f0 ≥ t0
    · have e := lineN (x := x) (f0 := f0) (f1 := f1) (t0 := t0) (t1 := t1) (by omega)
      simp -dsimp [h5, e]
    · by_cases h6 : x < f0
      · have e := lineN (x := x) (f0 := f0) (f1 := f1) (t0 := t0) (t1 := t1) (by omega)
        simp -dsimp [h5, h6, e]
      · by_cases h7 : x > t0
        · have e := lineN (x := x) (f0 := f0) (f1 := f1) (t0 := t0) (t1 := t1) (by omega)
          simp -dsimp [h5, h6, h7, e]
        · have hb := lineB s0 s1 s2 s3 s4 (by omega) (by omega) (by omega)
          have e : lineS x f0 f1 t0 t1 = (f1 + roundS ((x - f0) * (t1 - f1)) (t0 - f0), true) := if_pos ⟨s0, s1, s2, s3, s4, by omega, by omega, by omega⟩
          have hr := roundS_bd (n := (x - f0) * (t1 - f1)) (d := t0 - f0) (m := 4398046511104) (by omega) (by omega) (by omega) (by omega)
          unfold SM at s0 s1 s2 s3 s4
          have w1 : R (x - f0) := ⟨by omega, by omega⟩
          have w2 : R (t1 - f1) := ⟨by omega, by omega⟩
          have w3 : R (t0 - f0) := ⟨by omega, by omega⟩
          have w4 : R ((x - f0) * (t1 - f1)) := ⟨by omega, by omega⟩
          have w5 : R (f1 + roundS ((x - f0) * (t1 - f1)) (t0 - f0)) := ⟨by omega, by omega⟩
          simp -dsimp [h5, h6, h7, e, wr w1, wr w2, wr w3, wr w4]
          refine call_p (b54 w4 (by omega) w3) rfl (by simp) ?_
          have d1 : ¬ t0 - f0 < 1 := by omega
          have d2 : 1 ≤ t0 - f0 := by omega
          simp -dsimp [d1, d2, wr w5, e]
  · have e := lineN (x := x) (f0 := f0) (f1 := f1) (t0 := t0) (t1 := t1) (fun q => h (by simp [q]))
    refine call_f (b53f [x, f0, f1, t0, t1] (by simp) h) (by simp [FF.reifyL, FF.reify, FF.rows, Fr.ff, Fr.blk, Fr.app, look, chunk, intRow, List.range, List.range.loop]) rfl (by simp) ?_
    simp -dsimp [e]
theorem b67' (n : Int) : Best Tryd.prog 67 [.int .i64 n] (.p (.bool (decide (SM n)))) := by
  have e : (decide (-1048576 ≤ n) && decide (n ≤ 1048576)) = decide (SM n) := by rw [← Bool.decide_and]; rfl
  rw [← e]; exact b67 n
theorem b52 {x f0 f1 t0 t1 : Int} : Best Tryd.prog 52 [.int .i64 x, .agg [.int .i64 f0, .int .i64 f1], .agg [.int .i64 t0, .int .i64 t1]] (.p (.tup [.int .i64 (lineS x f0 f1 t0 t1).1, .bool (lineS x f0 f1 t0 t1).2])) := by
  refine best mixed fn52 ok52 (by simp) ?_
  simp -dsimp [ac52]
  refine call_p (b67' x) rfl (by simp) ?_
  by_cases s0 : SM x
  rotate_left
  · have e := lineN (x := x) (f0 := f0) (f1 := f1) (t0 := t0) (t1 := t1) (fun q => s0 q.1)
    simp -dsimp [s0, e]
  simp -dsimp [s0]
  refine call_p (b67' f0) rfl (by simp) ?_
  by_cases s1 : SM f0
  rotate_left
  · have e := lineN (x := x) (f0 := f0) (f1 := f1) (t0 := t0) (t1 := t1) (fun q => s1 q.2.1)
    simp -dsimp [s1, e]
  simp -dsimp [s1]
  refine call_p (b67' f1) rfl (by simp) ?_
  by_cases s2 : SM f1
  rotate_left
  · have e := lineN (x := x) (f0 := f0) (f1 := f1) (t0 := t0) (t1 := t1) (fun q => s2 q.2.2.1)
    simp -dsimp [s2, e]
  simp -dsimp [s2]
  refine call_p (b67' t0) rfl (by simp) ?_
  by_cases s3 : SM t0
  rotate_left
  · have e := lineN (x := x) (f0 := f0) (f1 := f1) (t0 := t0) (t1 := t1) (fun q => s3 q.2.2.2.1)
    simp -dsimp [s3, e]
  simp -dsimp [s3]
  refine call_p (b67' t1) rfl (by simp) ?_
  by_cases s4 : SM t1
  rotate_left
  · have e := lineN (x := x) (f0 := f0) (f1 := f1) (t0 := t0) (t1 := t1) (fun q => s4 q.2.2.2.2.1)
    simp -dsimp [s4, e]
  by_cases h5 : f0 ≥ t0
  · have e := lineN (x := x) (f0 := f0) (f1 := f1) (t0 := t0) (t1 := t1) (by omega)
    simp -dsimp [s4, h5, e]
  by_cases h6 : x < f0
  · have e := lineN (x := x) (f0 := f0) (f1 := f1) (t0 := t0) (t1 := t1) (by omega)
    simp -dsimp [s4, h5, h6, e]
  by_cases h7 : x > t0
  · have e := lineN (x := x) (f0 := f0) (f1 := f1) (t0 := t0) (t1 := t1) (by omega)
    simp -dsimp [s4, h5, h6, h7, e]
  have hb := lineB s0 s1 s2 s3 s4 (by omega) (by omega) (by omega)
  have e : lineS x f0 f1 t0 t1 = (f1 + roundS ((x - f0) * (t1 - f1)) (t0 - f0), true) := if_pos ⟨s0, s1, s2, s3, s4, by omega, by omega, by omega⟩
  have ra := roundS_add (a := f1) (n := (x - f0) * (t1 - f1)) (d := t0 - f0) (by omega)
  have s4' := s4
  unfold SM at s0 s1 s2 s3 s4'
  have w1 : R (x - f0) := ⟨by omega, by omega⟩
  have w2 : R (t1 - f1) := ⟨by omega, by omega⟩
  have w3 : R (t0 - f0) := ⟨by omega, by omega⟩
  have w4 : R ((x - f0) * (t1 - f1)) := ⟨by omega, by omega⟩
  have w5 : R (f1 * (t0 - f0)) := ⟨by omega, by omega⟩
  have w6 : R (f1 * (t0 - f0) + (x - f0) * (t1 - f1)) := ⟨by omega, by omega⟩
  simp -dsimp [s4, h5, h6, h7, e, wr w1, wr w2, wr w3, wr w4, wr w5, wr w6]
  refine call_p (b79 w6 (by omega) w3) rfl (by simp) ?_
  have d1 : ¬ t0 - f0 < 1 := by omega
  have d2 : 1 ≤ t0 - f0 := by omega
  simp -dsimp [d1, d2, ra, e]
end Go.Abs.A09
namespace Go.Abs.A09
open Go Go.Abs Go.Proofs
set_option maxRecDepth 100000
set_option linter.unusedVariables false
set_option linter.unusedSimpArgs false
attribute [local simp ↓] awp_skip awp_seq awp_cond awp_block awp_exit awp_ret awp_reg awp_draw awp_ghost awp_loop awp_rfun awpR_nil awpR_cons awpX_nil awpX_0 awpX_1 awpX_2 awpI_eq awpI_t awpI_f awpStep_eq
attribute [local simp] condL_true condL_false condL_dec evDel evV evN evS evA initFr Ghost.app Fr.var Fr.blk Fr.ff FF.val Abs.look Fr.app Fr.erase Fr.noSlot AV.noSlot AV.noSlotL Blk.noSlot Fr.spoken AV.fz AV.fzL Blk.fz binV binI shI binS unV fillA FF.parts FF.vals headO intO boundO lenV scalarEq leavesEq AV.aggc AV.cells FF.read FF.rows AV.one PV.one chunk freshB newS pickV retK evRs evRl evR resOf mkTup mkAgg allP cloOf okP_nil okX_p okX okP addN Del.noSlot Del.owners Rnd reify_p normM insM Fr.back Fr.backV Fr.setPs normV insV
attribute [local simp] FF.reify FF.reifyL PV.flat
/-- Where a choice lies among the points. -/
def seat (m : List (Int × Int)) (x : Int) : Nat := m.findIdx fun p => decide (x ≤ p.1)
open Classical in
noncomputable def normS (a : Ax) (v : Int) : Int :=
  if chkS a = 0 then
    (if (a.m.getD (seat a.m (max a.lo (min v a.hi))) (0, 0)).1 = max a.lo (min v a.hi) then (a.m.getD (seat a.m (max a.lo (min v a.hi))) (0, 0)).2
     else (lineS (max a.lo (min v a.hi)) (a.m.getD (seat a.m (max a.lo (min v a.hi)) - 1) (0, 0)).1 (a.m.getD (seat a.m (max a.lo (min v a.hi)) - 1) (0, 0)).2 (a.m.getD (seat a.m (max a.lo (min v a.hi))) (0, 0)).1 (a.m.getD (seat a.m (max a.lo (min v a.hi))) (0, 0)).2).1)
  else 0
theorem getD_of {m : List (Int × Int)} {i : Nat} {x : Int × Int} (h : m[i]? = some x) : m.getD i (0, 0) = x := by simp [List.getD, h]
/-- What is known of the seat. -/
theorem seat_spec {a : Ax} (hA : AXP a) {x : Int} (h1 : a.lo ≤ x) (h2 : x ≤ a.hi) : seat a.m x < a.m.length ∧ (∀ i, i < seat a.m x → (a.m.getD i (0, 0)).1 < x) ∧ (∀ i, seat a.m x ≤ i → i < a.m.length → x ≤ (a.m.getD i (0, 0)).1) ∧ (seat a.m x = 0 → (a.m.getD 0 (0, 0)).1 = x) := by
  have hn := hA.n1
  have hlt : seat a.m x < a.m.length := by
    rw [seat, List.findIdx_lt_length]
    refine ⟨a.m[a.m.length - 1], by simp, ?_⟩
    have := hA.fl
    rw [getD_of (List.getElem?_eq_getElem (by omega : a.m.length - 1 < a.m.length))] at this
    simp [this, h2]
  have hpos : x ≤ (a.m.getD (seat a.m x) (0, 0)).1 := by
    rw [getD_of (List.getElem?_eq_getElem hlt)]
    have := List.findIdx_getElem (p := fun p : Int × Int => decide (x ≤ p.1)) (xs := a.m) (w := hlt)
    exact of_decide_eq_true this
  refine ⟨hlt, fun i hi => ?_, fun i hi hil => ?_, fun h0 => ?_⟩
  · have hil : i < a.m.length := by omega
    rw [getD_of (List.getElem?_eq_getElem hil)]
    have := List.not_of_lt_findIdx (p := fun p : Int × Int => decide (x ≤ p.1)) (xs := a.m) hi
    simp at this
    exact this
  · rw [getD_of (List.getElem?_eq_getElem hil)]
    rw [getD_of (List.getElem?_eq_getElem hlt)] at hpos
    have := (up_le hA.up hi (List.getElem?_eq_getElem hlt) (List.getElem?_eq_getElem hil)).1
    omega
  · rw [h0] at hpos
    have := hA.f0
    omega
theorem b51 (a : Ax) (x : Int) (i : Nat) (hi : i < a.m.length) : Best Tryd.prog 51 [.int .i64 i, .ro (axC a), .ro [.int .i64 x]] (.p (.bool (decide (x ≤ (a.m.getD i (0, 0)).1)))) := by
  refine best mixed fn51 ok51 (by simp) ?_
  obtain ⟨⟨u1, u2⟩, eu⟩ : ∃ x, a.m[i] = x := ⟨_, rfl⟩
  have hu : a.m[i]? = some (u1, u2) := by rw [List.getElem?_eq_getElem hi, eu]
  have e := getD_of hu
  obtain ⟨nm, lo, df, hi', m⟩ := a
  dsimp only at *
  simp -dsimp [ac51, axC, hi, eu, hu, pRow, e]
set_option maxHeartbeats 1000000 in
theorem b16 (a : Ax) (v : Int) (hl : a.m.length ≤ 9223372036854775807) : Best Tryd.prog 16 [.agg (axC a), .int .i64 v] (.p (.int .i64 (normS a v))) := by
  refine best mixed fn16 ok16 (by simp) ?_
  have h14 := b14 a hl
  by_cases hc : chkS a = 0
  rotate_left
  · have : normS a v = 0 := if_neg hc
    generalize chkS a = c at *
    obtain ⟨nm, lo, df, hi, m⟩ := a
    simp -dsimp [ac16, axC] at h14 ⊢
    refine call_p h14 rfl (by simp) ?_
    simp -dsimp [hc, this]
  have hA := (chk_zero.1 hc).2
  have hb1 := hA.b1
  have hb2 := hA.b2
  have hb3 := hA.b3
  have hb4 := hA.b4
  have hnorm : normS a v = _ := if_pos hc
  rw [hc] at h14
  obtain ⟨x, hx⟩ : ∃ x, max a.lo (min v a.hi) = x := ⟨_, rfl⟩
  rw [hx] at hnorm
  have h49 := b49 v a.lo a.hi
  rw [hx] at h49
  obtain ⟨p1, p2, p3, p4⟩ := seat_spec hA (x := x) (by omega) (by omega)
  have h50 := b50 (f := 51) (ca := [.ro (axC a), .ro [.int .i64 x]]) (q := fun i => decide (x ≤ (a.m.getD i (0, 0)).1)) (n := a.m.length) (by have := hA.n2; omega) (fun i hi => b51 a x i hi) (k0 := seat a.m x) (by omega) (fun i hi => decide_eq_false (by have := p2 i hi; omega)) (fun i h1 h2 => decide_eq_true (p3 i h1 h2))
  generalize seat a.m x = K at *
  obtain ⟨⟨u1, u2⟩, eu⟩ : ∃ x, a.m[K] = x := ⟨_, rfl⟩
  have hu : a.m[K]? = some (u1, u2) := by rw [List.getElem?_eq_getElem p1, eu]
  rw [getD_of hu] at hnorm
  have w1 : R ((K : Int) - 1) := ⟨by omega, by omega⟩
  have hK0 : u1 ≠ x → 1 ≤ K := fun h => by
    rcases Nat.eq_zero_or_pos K with h0 | h0
    · subst h0; have := p4 rfl; rw [getD_of hu] at this; exact absurd this h
    · exact h0
  obtain ⟨⟨t1, t2⟩, ht⟩ : ∃ z, a.m.getD (K - 1) (0, 0) = z := ⟨_, rfl⟩
  have ht' : a.m[K - 1]? = some (t1, t2) := by
    rw [List.getElem?_eq_getElem (by omega)]
    rw [getD_of (List.getElem?_eq_getElem (by omega : K - 1 < a.m.length))] at ht
    rw [ht]
  have et : ∀ h : K - 1 < a.m.length, a.m[K - 1] = (t1, t2) := fun h => by rw [List.getElem?_eq_getElem h] at ht'; simpa using ht'
  rw [ht] at hnorm
  have d3 : K - 1 < a.m.length := by omega
  have et := et d3
  clear hc hA p2 p3 p4
  obtain ⟨nm, lo, df, hi, m⟩ := a
  dsimp only at *
  simp -dsimp [ac16, axC] at h14 ⊢
  refine call_p h14 rfl (by simp) ?_
  simp -dsimp
  refine call_p h49 rfl (by simp) ?_
  simp -dsimp
  refine call_f h50 (by simp [axC]) rfl (by simp) ?_
  by_cases q : u1 = x
  · rw [if_pos q] at hnorm
    simp -dsimp [p1, eu, hu, pRow, q, hnorm]
  · rw [if_neg q] at hnorm
    have hK := hK0 q
    have d1 : (1 : Int) ≤ K := by omega
    have d1' : (0 : Int) ≤ (K : Int) - 1 := by omega
    have d2 : ((K : Int) - 1).toNat = K - 1 := by omega
    simp -dsimp [p1, eu, hu, pRow, q, wr w1, d1, d1', d2, d3, et, ht', hK]
    refine call_p b18 rfl (by simp) ?_
    simp -dsimp [hnorm]

set_option maxHeartbeats 1000000 in
theorem b17 (a : Ax) (v : Int) (hl : a.m.length ≤ 9223372036854775807) (hnl : a.nm.length ≤ 9223372036854775807) : Best Tryd.prog 17 [.agg (axC a), .int .i64 v] (.p (.int .i64 (normS a v))) := by
  refine best mixed fn17 ok17 (by simp) ?_
  have h15 := b15 a hl hnl
  by_cases hc : chkS a = 0
  rotate_left
  · have : normS a v = 0 := if_neg hc
    generalize chkS a = c at *
    obtain ⟨nm, lo, df, hi, m⟩ := a
    simp -dsimp [ac17, axC] at h15 ⊢
    refine call_p h15 rfl (by simp) ?_
    simp -dsimp [hc, this]
  have hA := (chk_zero.1 hc).2
  have hb1 := hA.b1
  have hb2 := hA.b2
  have hb3 := hA.b3
  have hb4 := hA.b4
  have hn1 := hA.n1
  have hf0 := hA.f0
  have hfl := hA.fl
  have hup := hA.up
  have hnorm : normS a v = _ := if_pos hc
  rw [hc] at h15
  obtain ⟨x, hx⟩ : ∃ x, max a.lo (min v a.hi) = x := ⟨_, rfl⟩
  rw [hx] at hnorm
  have hx1 : a.lo ≤ x := by omega
  have hx2 : x ≤ a.hi := by omega
  obtain ⟨p1, p2, p3, p4⟩ := seat_spec hA hx1 hx2
  generalize seat a.m x = K at *
  clear hc hA
  obtain ⟨nm, lo, df, hi, m⟩ := a
  dsimp only at *
  simp -dsimp [ac17, axC] at h15 ⊢
  refine call_p h15 rfl (by simp) ?_
  simp -dsimp [hx]
  refine loopC m.length (fun k => ⟨[(2, .ptr (2, 0) 5 0 0), (5, .p (.int .i64 x)), (6, .p (.int .i64 k))], [((2, 0), .box [.p (.str (ba nm)), .p (.int .i64 lo), .p (.int .i64 df), .p (.int .i64 hi), .p (.sl 2 (m.map pRow))])]⟩) (fun k => (∀ i, i < k → (m.getD i (0, 0)).1 < x) ∧ (k < m.length → (m.getD k (0, 0)).1 ≤ x)) (fun k hk hQ => ?_) ⟨fun i h => by omega, fun _ => by omega⟩ (by simp)
  obtain ⟨hQ1, hQ2⟩ := hQ
  by_cases h : k < m.length
  · obtain ⟨⟨u1, u2⟩, eu⟩ : ∃ x, m[k] = x := ⟨_, rfl⟩
    have hu : m[k]? = some (u1, u2) := by rw [List.getElem?_eq_getElem h, eu]
    have w : R ((k : Int) + 1) := ⟨by omega, by omega⟩
    have gk := getD_of hu
    by_cases q : u1 = x
    · have hKk : K = k := by
        rcases Nat.lt_trichotomy K k with h1 | h1 | h1
        · have a1 := hQ1 K h1
          have a2 := p3 K (Nat.le_refl _) p1
          omega
        · exact h1
        · have a1 := p2 k h1
          rw [gk] at a1; dsimp only at a1; omega
      subst hKk
      rw [gk, if_pos q] at hnorm
      simp -dsimp [h, eu, hu, pRow, q, hnorm]
    · have hlt : u1 < x := by have := hQ2 h; rw [gk] at this; dsimp only at this; omega
      have hk1 : k + 1 < m.length := by
        rcases Nat.lt_or_ge (k + 1) m.length with h1 | h1
        · exact h1
        · have : k = m.length - 1 := by omega
          rw [this] at gk
          rw [gk] at hfl; dsimp only at hfl; omega
      obtain ⟨⟨v1, v2⟩, ev⟩ : ∃ x, m[k + 1] = x := ⟨_, rfl⟩
      have hv : m[k + 1]? = some (v1, v2) := by rw [List.getElem?_eq_getElem hk1, ev]
      have gv := getD_of hv
      have d1 : (0 : Int) ≤ (k : Int) + 1 := by omega
      have d2 : ((k : Int) + 1).toNat = k + 1 := by omega
      by_cases r : x < v1
      · have hKk : K = k + 1 := by
          rcases Nat.lt_trichotomy K (k + 1) with h1 | h1 | h1
          · have a2 := p3 K (Nat.le_refl _) p1
            by_cases hKe : K = k
            · subst hKe; rw [gk] at a2; dsimp only at a2; omega
            · have a1 := hQ1 K (by omega); omega
          · exact h1
          · have a1 := p2 (k + 1) h1
            rw [gv] at a1; dsimp only at a1; omega
        subst hKk
        have e1 : k + 1 - 1 = k := by omega
        rw [gv, e1, gk, if_neg (by dsimp only; omega)] at hnorm
        simp -dsimp [h, eu, hu, pRow, q, hlt, wr w, d1, d2, hk1, ev, hv, r]
        refine call_p b52 rfl (by simp) ?_
        simp -dsimp [hnorm]
      · simp -dsimp [h, eu, hu, pRow, q, hlt, wr w, d1, d2, hk1, ev, hv, r]
        refine ⟨fun i hi' => ?_, ?_⟩
        · by_cases hik : i = k
          · subst hik; have := gk; simp [List.getD, hu]; exact hlt
          · have := hQ1 i (by omega); simpa [List.getD] using this
        · omega
  · exfalso
    have := hQ1 (m.length - 1) (by omega)
    omega
end Go.Abs.A09
namespace Go.Abs.A09
open Go Go.Abs Go.Proofs
set_option maxRecDepth 100000
set_option linter.unusedVariables false
set_option linter.unusedSimpArgs false
attribute [local simp ↓] awp_skip awp_seq awp_cond awp_block awp_exit awp_ret awp_reg awp_draw awp_ghost awp_loop awp_rfun awpR_nil awpR_cons awpX_nil awpX_0 awpX_1 awpX_2 awpI_eq awpI_t awpI_f awpStep_eq
attribute [local simp] condL_true condL_false condL_dec evDel evV evN evS evA initFr Ghost.app Fr.var Fr.blk Fr.ff FF.val Abs.look Fr.app Fr.erase Fr.noSlot AV.noSlot AV.noSlotL Blk.noSlot Fr.spoken AV.fz AV.fzL Blk.fz binV binI shI binS unV fillA FF.parts FF.vals headO intO boundO lenV scalarEq leavesEq AV.aggc AV.cells FF.read FF.rows AV.one PV.one chunk freshB newS pickV retK evRs evRl evR resOf mkTup mkAgg allP cloOf okP_nil okX_p okX okP addN Del.noSlot Del.owners Rnd reify_p normM insM Fr.back Fr.backV Fr.setPs normV insV
/-- A tent and a range meet. -/
def TC (t : T3) (p : Int × Int) : Prop := t.p = 0 ∨ (min (t.f + 1) t.p ≤ p.2 ∧ p.1 ≤ max (t.t - 1) t.p)
instance {t : T3} {p : Int × Int} : Decidable (TC t p) := inferInstanceAs (Decidable (_ ∨ _ ∧ _))
def TO (r : List T3) (l : List (Int × Int)) : Prop := RG l l.length ∧ RI r l.length ∧ ∀ x ∈ r.zip l, TC x.1 x.2
instance {r : List T3} {l : List (Int × Int)} : Decidable (TO r l) := inferInstanceAs (Decidable (_ ∧ _ ∧ _))
theorem b36 (r : List T3) (l : List (Int × Int)) (hr : r.length ≤ 9223372036854775807) (hl : l.length ≤ 9223372036854775807) : Best Tryd.prog 36 [.agg [.sl 3 (r.map tRow)], .sl 2 (l.map pRow)] (.p (.bool (decide (TO r l)))) := by
  refine best mixed fn36 ok36 (by simp) ?_
  simp -dsimp [ac36]
  refine call_p (b32 l l.length hl) rfl (by simp) ?_
  by_cases h1 : RG l l.length
  rotate_left
  · have : ¬ TO r l := fun h => h1 h.1
    simp -dsimp [h1, this]
  simp -dsimp [h1]
  refine call_p (b23 r l.length hr) rfl (by simp) ?_
  by_cases h2 : RI r l.length
  rotate_left
  · have : ¬ TO r l := fun h => h2 h.2.1
    simp -dsimp [h2, this]
  simp -dsimp [h2]
  refine call_p (b72 (r.map tRow) (l.map pRow)) rfl (by simp) ?_
  simp -dsimp
  refine rfunL_rule rfl rfl (g91 r l hr) (fun k F => F = ⟨[(4, .ptr (4, 0) 1 0 0), (24, .p (.clo (.func 91) [] [.ro [.sl 3 (r.map tRow)], .ro [.sl 2 (l.map pRow)]]))], [((4, 0), .box [.p (.bool false)])]⟩ ∧ ∀ x ∈ (r.zip l).take k, TC x.1 x.2) ?_ ?_ ⟨by simp, by simp⟩
  · rintro k z F hz ⟨hF, hall⟩
    obtain ⟨⟨x1, x2, x3⟩, ⟨y1, y2⟩, hxy, rfl⟩ := zipS_inv hz
    refine ⟨by simp, ?_⟩
    have hT : TE ⟨x1, x2, x3⟩ := h2.2.2.2 _ (List.of_mem_zip (List.mem_of_getElem? hxy)).1
    have no : ¬ TC ⟨x1, x2, x3⟩ (y1, y2) → ¬ TO r l := fun h1 h2 => h1 (h2.2.2 _ (List.mem_of_getElem? hxy))
    have go : TC ⟨x1, x2, x3⟩ (y1, y2) → ∀ z ∈ (r.zip l).take (k + 1), TC z.1 z.2 := fun h => take_succ_all (p := fun z : T3 × Int × Int => TC z.1 z.2) hxy hall h
    unfold TE at hT
    dsimp only at hT
    have w1 : R (x1 + 1) := ⟨by omega, by omega⟩
    have w2 : R (x3 - 1) := ⟨by omega, by omega⟩
    by_cases q0 : x2 = 0
    · have := go (.inl q0)
      have q0d : (x2 = 0) = True := by simp [q0]
      subst hF
      simp -dsimp [vT, vP, tRow, pRow, q0d]; exact fun a b c => this (a, b, c)
    by_cases q1 : y2 < min (x1 + 1) x2
    · have := no (by unfold TC; dsimp only; omega)
      subst hF; simp -dsimp [vT, vP, tRow, pRow, q0, wr w1, wr w2, q1, this]
    by_cases q2 : max (x3 - 1) x2 < y1
    · have := no (by unfold TC; dsimp only; omega)
      subst hF; simp -dsimp [vT, vP, tRow, pRow, q0, wr w1, wr w2, q1, q2, this]
    have := go (.inr (by dsimp only; omega))
    subst hF
    simp -dsimp [vT, vP, tRow, pRow, q0, wr w1, wr w2, q1, q2]; exact fun a b c => this (a, b, c)
  · rintro F ⟨hF, hall⟩
    have hz : (zipS vT vP r l).length = (r.zip l).length := by simp [zipS]
    rw [hz, List.take_length] at hall
    have : TO r l := ⟨h1, h2, hall⟩
    subst hF; simp -dsimp [this]
end Go.Abs.A09
namespace Go.Abs.A09
open Go Go.Abs Go.Proofs
set_option maxRecDepth 100000
set_option linter.unusedVariables false
set_option linter.unusedSimpArgs false
attribute [local simp ↓] awp_skip awp_seq awp_cond awp_block awp_exit awp_ret awp_reg awp_draw awp_ghost awp_loop awp_rfun awpR_nil awpR_cons awpX_nil awpX_0 awpX_1 awpX_2 awpI_eq awpI_t awpI_f awpStep_eq
attribute [local simp] condL_true condL_false condL_dec evDel evV evN evS evA initFr Ghost.app Fr.var Fr.blk Fr.ff FF.val Abs.look Fr.app Fr.erase Fr.noSlot AV.noSlot AV.noSlotL Blk.noSlot Fr.spoken AV.fz AV.fzL Blk.fz binV binI shI binS unV fillA FF.parts FF.vals headO intO boundO lenV scalarEq leavesEq AV.aggc AV.cells FF.read FF.rows AV.one PV.one chunk freshB newS pickV retK evRs evRl evR resOf mkTup mkAgg allP cloOf okP_nil okX_p okX okP addN Del.noSlot Del.owners Rnd reify_p normM insM Fr.back Fr.backV Fr.setPs normV insV
theorem gcdI_ge {a b : Int} (ha : 0 ≤ a) (hb : 1 ≤ b) : 1 ≤ gcdI a b := by
  induction h : b.toNat using Nat.strongRecOn generalizing a b with
  | _ n ih =>
    rw [gcdI_pos (by omega)]
    have h1 := tmod_bd (n := a) (d := b) hb
    have h2 : 0 ≤ a.tmod b := Int.tmod_nonneg b ha
    by_cases h3 : 1 ≤ a.tmod b
    · exact ih (a.tmod b).toNat (by omega) (by omega) h3 rfl
    · rw [gcdI_neg (by omega)]; omega
theorem gcdI_nat : ∀ (n m : Nat), gcdI (m : Int) (n : Int) = (Nat.gcd m n : Nat) := by
  intro n
  induction n using Nat.strongRecOn with
  | _ n ih =>
    intro m
    by_cases h0 : 0 < n
    · rw [gcdI_pos (by omega), ← Int.ofNat_tmod, ih (m % n) (Nat.mod_lt _ h0), Nat.gcd_comm, ← Nat.gcd_rec, Nat.gcd_comm]
    · have : n = 0 := by omega
      subst this
      rw [gcdI_neg (by omega)]
      simp
noncomputable def timesS (a b c d : Int) : (Int × Int) × Bool :=
  if RS a b ∧ RS c d then (let g := gcdI (a * c) (b * d); if 262144 < b * d / g then ((0, 0), false) else ((a * c / g, b * d / g), true)) else ((0, 0), false)
theorem mul_bd {a c m k : Int} (h1 : 0 ≤ a) (h2 : a ≤ m) (h3 : 0 ≤ c) (h4 : c ≤ k) : 0 ≤ a * c ∧ a * c ≤ m * k := by
  refine ⟨Int.mul_nonneg h1 h3, ?_⟩
  have := Int.mul_le_mul h2 h4 h3 (by omega)
  exact this
theorem timesB {a b c d : Int} (h1 : RS a b) (h2 : RS c d) : 0 ≤ a * c ∧ a * c ≤ 68719476736 ∧ 1 ≤ b * d ∧ b * d ≤ 68719476736 ∧ 1 ≤ gcdI (a * c) (b * d) := by
  obtain ⟨p1, p2, p3, p4, p5⟩ := h1
  obtain ⟨q1, q2, q3, q4, q5⟩ := h2
  have r1 := mul_bd p3 (by omega : a ≤ 262144) q3 (by omega : c ≤ 262144)
  have r2 := mul_bd (by omega : 0 ≤ b) p2 (by omega : 0 ≤ d) q2
  have r3 : 1 * 1 ≤ b * d := Int.mul_le_mul p1 q1 (by omega) (by omega)
  refine ⟨r1.1, by omega, by omega, by omega, ?_⟩
  exact gcdI_ge r1.1 (by omega)
theorem b64 {a b c d : Int} (ha : R a) (hb : R b) (hc : R c) (hd : R d) : Best Tryd.prog 64 [.agg [.int .i64 a, .int .i64 b], .agg [.int .i64 c, .int .i64 d]] (.p (.tup [.agg [.int .i64 (timesS a b c d).1.1, .int .i64 (timesS a b c d).1.2], .bool (timesS a b c d).2])) := by
  refine best mixed fn64 ok64 (by simp) ?_
  simp -dsimp [ac64]
  refine call_p (b87 ha hb) rfl (by simp) ?_
  by_cases h1 : RS a b
  · simp -dsimp [h1]
    refine call_p (b87 hc hd) rfl (by simp) ?_
    by_cases h2 : RS c d
    · obtain ⟨p1, p2, p3, p4, p5⟩ := timesB h1 h2
      have w1 : R (a * c) := ⟨by omega, by omega⟩
      have w2 : R (b * d) := ⟨by omega, by omega⟩
      simp -dsimp [h2, wr w1, wr w2]
      refine call_p (b88 w2) rfl (by simp) ?_
      have e : timesS a b c d = if 262144 < b * d / gcdI (a * c) (b * d) then ((0, 0), false) else ((a * c / gcdI (a * c) (b * d), b * d / gcdI (a * c) (b * d)), true) := by
        unfold timesS; rw [if_pos ⟨h1, h2⟩]
      generalize gcdI (a * c) (b * d) = g at p5 e
      have g0 : g ≠ 0 := by omega
      have t1 : (a * c).tdiv g = a * c / g := Int.tdiv_eq_ediv_of_nonneg p1
      have t2 : (b * d).tdiv g = b * d / g := Int.tdiv_eq_ediv_of_nonneg (by omega)
      have w3 := R_ediv w1 p5
      have w4 := R_ediv w2 p5
      by_cases h3 : 262144 < b * d / g
      · simp -dsimp [g0, t1, t2, wr w3, wr w4, h3, e]
      · simp -dsimp [g0, t1, t2, wr w3, wr w4, h3, e]
    · simp -dsimp [timesS, h1, h2]
  · simp -dsimp [timesS, h1]
theorem b38 {a b c d : Int} (ha : R a) (hb : R b) (hc : R c) (hd : R d) : Best Tryd.prog 38 [.agg [.int .i64 a, .int .i64 b], .agg [.int .i64 c, .int .i64 d]] (.p (.tup [.agg [.int .i64 (timesS a b c d).1.1, .int .i64 (timesS a b c d).1.2], .bool (timesS a b c d).2])) := by
  refine best mixed fn38 ok38 (by simp) ?_
  simp -dsimp [ac38]
  refine call_p (b73 ha hb) rfl (by simp) ?_
  by_cases h1 : RS a b
  · simp -dsimp [h1]
    refine call_p (b73 hc hd) rfl (by simp) ?_
    by_cases h2 : RS c d
    · obtain ⟨p1, p2, p3, p4, p5⟩ := timesB h1 h2
      have w1 : R (a * c) := ⟨by omega, by omega⟩
      have w2 : R (b * d) := ⟨by omega, by omega⟩
      simp -dsimp [h2, wr w1, wr w2]
      refine call_p (b74 w2) rfl (by simp) ?_
      have e : timesS a b c d = if 262144 < b * d / gcdI (a * c) (b * d) then ((0, 0), false) else ((a * c / gcdI (a * c) (b * d), b * d / gcdI (a * c) (b * d)), true) := by
        unfold timesS; rw [if_pos ⟨h1, h2⟩]
      generalize gcdI (a * c) (b * d) = g at p5 e
      have g0 : g ≠ 0 := by omega
      have t1 : (a * c).tdiv g = a * c / g := Int.tdiv_eq_ediv_of_nonneg p1
      have t2 : (b * d).tdiv g = b * d / g := Int.tdiv_eq_ediv_of_nonneg (by omega)
      have w3 := R_ediv w1 p5
      have w4 := R_ediv w2 p5
      by_cases h3 : 262144 < b * d / g
      · simp -dsimp [g0, t1, t2, wr w3, wr w4, h3, e]
      · simp -dsimp [g0, t1, t2, wr w3, wr w4, h3, e]
    · simp -dsimp [timesS, h1, h2]
  · simp -dsimp [timesS, h1]
end Go.Abs.A09
namespace Go.Abs.A09
open Go Go.Abs Go.Proofs
set_option maxRecDepth 100000
set_option linter.unusedVariables false
set_option linter.unusedSimpArgs false
attribute [local simp ↓] awp_skip awp_seq awp_cond awp_block awp_exit awp_ret awp_reg awp_draw awp_ghost awp_loop awp_rfun awpR_nil awpR_cons awpX_nil awpX_0 awpX_1 awpX_2 awpI_eq awpI_t awpI_f awpStep_eq
attribute [local simp] condL_true condL_false condL_dec evDel evV evN evS evA initFr Ghost.app Fr.var Fr.blk Fr.ff FF.val Abs.look Fr.app Fr.erase Fr.noSlot AV.noSlot AV.noSlotL Blk.noSlot Fr.spoken AV.fz AV.fzL Blk.fz binV binI shI binS unV fillA FF.parts FF.vals headO intO boundO lenV scalarEq leavesEq AV.aggc AV.cells FF.read FF.rows AV.one PV.one chunk freshB newS pickV retK evRs evRl evR resOf mkTup mkAgg allP cloOf okP_nil okX_p okX okP addN Del.noSlot Del.owners Rnd reify_p normM insM Fr.back Fr.backV Fr.setPs normV insV
theorem wr0 : IntKind.i64.wrap 0 = 0 := wr ⟨by omega, by omega⟩
def rawS (x : T3) (n : Int) : Int × Int := if x.p = 0 ∨ n = x.p then (1, 1) else if n ≤ x.f ∨ n ≥ x.t then (0, 1) else if n < x.p then (n - x.f, x.p - x.f) else (x.t - n, x.t - x.p)
noncomputable def strS (x : T3) (n : Int) : Int × Int := ((rawS x n).1 / gcdI (rawS x n).1 (rawS x n).2, (rawS x n).2 / gcdI (rawS x n).1 (rawS x n).2)
theorem rawB {x : T3} {n : Int} (hT : TE x) (hn : CO n) : 0 ≤ (rawS x n).1 ∧ (rawS x n).1 ≤ (rawS x n).2 ∧ 1 ≤ (rawS x n).2 ∧ (rawS x n).2 ≤ 128 := by
  obtain ⟨f, p, t⟩ := x
  unfold TE at hT
  unfold CO at hn
  unfold rawS
  dsimp only at *
  split
  · simp
  · split
    · simp
    · split
      · dsimp only; omega
      · dsimp only; omega
/-- What is known at the end: the raw pair, its divisor. -/
theorem strE {x : T3} {n a b : Int} (hT : TE x) (hn : CO n) (h : rawS x n = (a, b)) : 0 ≤ a ∧ a ≤ b ∧ 1 ≤ b ∧ b ≤ 128 ∧ 1 ≤ gcdI a b ∧ strS x n = (a / gcdI a b, b / gcdI a b) := by
  have hb := rawB hT hn
  unfold strS
  rw [h] at hb ⊢
  exact ⟨hb.1, hb.2.1, hb.2.2.1, hb.2.2.2, gcdI_ge hb.1 hb.2.2.1, rfl⟩
theorem b62 {x : T3} {n : Int} (hT : TE x) (hn : CO n) : Best Tryd.prog 62 [.agg (tRow x), .int .i64 n] (.p (.agg [.int .i64 (strS x n).1, .int .i64 (strS x n).2])) := by
  refine best mixed fn62 ok62 (by simp) ?_
  obtain ⟨f, p, t⟩ := x
  have hT' := hT
  have hn' := hn
  unfold TE at hT'
  unfold CO at hn'
  dsimp only at hT'
  by_cases h1 : p = 0
  · have h1d : (p = 0) = True := by simp [h1]
    have hr : rawS ⟨f, p, t⟩ n = (1, 1) := by unfold rawS; simp only []; rw [if_pos (.inl h1)]
    obtain ⟨q1, q2, q3, q4, q5, q6⟩ := strE hT hn hr
    have wb : R (1) := ⟨by omega, by omega⟩
    have wa : R (1) := ⟨by omega, by omega⟩
    simp -dsimp [ac62, tRow, h1d, wr wb, wr wa]
    refine call_p (b86 (a := 1) wb) rfl (by simp) ?_
    generalize gcdI (1) (1) = g at q5 q6
    have g0 : g ≠ 0 := by omega
    have t1 : Int.tdiv (1) g = (1) / g := Int.tdiv_eq_ediv_of_nonneg q1
    have t2 : Int.tdiv (1) g = (1) / g := Int.tdiv_eq_ediv_of_nonneg (by omega)
    have w3 := R_ediv wa q5
    have w4 := R_ediv wb q5
    simp -dsimp [g0, t1, t2, wr w3, wr w4, q6, wr0]

  by_cases h2 : n = p
  · have h2d : (n = p) = True := by simp [h2]
    have hr : rawS ⟨f, p, t⟩ n = (1, 1) := by unfold rawS; simp only []; rw [if_pos (.inr h2)]
    obtain ⟨q1, q2, q3, q4, q5, q6⟩ := strE hT hn hr
    have wb : R (1) := ⟨by omega, by omega⟩
    have wa : R (1) := ⟨by omega, by omega⟩
    simp -dsimp [ac62, tRow, h1, h2d, wr wb, wr wa]
    refine call_p (b86 (a := 1) wb) rfl (by simp) ?_
    generalize gcdI (1) (1) = g at q5 q6
    have g0 : g ≠ 0 := by omega
    have t1 : Int.tdiv (1) g = (1) / g := Int.tdiv_eq_ediv_of_nonneg q1
    have t2 : Int.tdiv (1) g = (1) / g := Int.tdiv_eq_ediv_of_nonneg (by omega)
    have w3 := R_ediv wa q5
    have w4 := R_ediv wb q5
    simp -dsimp [g0, t1, t2, wr w3, wr w4, q6, wr0]

  have hn1 : ¬ (p = 0 ∨ n = p) := by omega
  by_cases h3 : n ≤ f
  ·
    have hr : rawS ⟨f, p, t⟩ n = (0, 1) := by unfold rawS; simp only []; rw [if_neg hn1, if_pos (.inl h3)]
    obtain ⟨q1, q2, q3, q4, q5, q6⟩ := strE hT hn hr
    have wb : R (1) := ⟨by omega, by omega⟩
    have wa : R (0) := ⟨by omega, by omega⟩
    simp -dsimp [ac62, tRow, h1, h2, h3, wr wb, wr wa]
    refine call_p (b86 (a := 0) wb) rfl (by simp) ?_
    generalize gcdI (0) (1) = g at q5 q6
    have g0 : g ≠ 0 := by omega
    have t1 : Int.tdiv (0) g = (0) / g := Int.tdiv_eq_ediv_of_nonneg q1
    have t2 : Int.tdiv (1) g = (1) / g := Int.tdiv_eq_ediv_of_nonneg (by omega)
    have w3 := R_ediv wa q5
    have w4 := R_ediv wb q5
    simp -dsimp [g0, t1, t2, wr w3, wr w4, q6, wr0]

  by_cases h4 : t ≤ n
  ·
    have hr : rawS ⟨f, p, t⟩ n = (0, 1) := by unfold rawS; simp only []; rw [if_neg hn1, if_pos (.inr h4)]
    obtain ⟨q1, q2, q3, q4, q5, q6⟩ := strE hT hn hr
    have wb : R (1) := ⟨by omega, by omega⟩
    have wa : R (0) := ⟨by omega, by omega⟩
    simp -dsimp [ac62, tRow, h1, h2, h3, h4, wr wb, wr wa]
    refine call_p (b86 (a := 0) wb) rfl (by simp) ?_
    generalize gcdI (0) (1) = g at q5 q6
    have g0 : g ≠ 0 := by omega
    have t1 : Int.tdiv (0) g = (0) / g := Int.tdiv_eq_ediv_of_nonneg q1
    have t2 : Int.tdiv (1) g = (1) / g := Int.tdiv_eq_ediv_of_nonneg (by omega)
    have w3 := R_ediv wa q5
    have w4 := R_ediv wb q5
    simp -dsimp [g0, t1, t2, wr w3, wr w4, q6, wr0]

  have hn2 : ¬ (n ≤ f ∨ n ≥ t) := by omega
  by_cases h5 : n < p
  ·
    have hr : rawS ⟨f, p, t⟩ n = (n - f, p - f) := by unfold rawS; simp only []; rw [if_neg hn1, if_neg hn2, if_pos h5]
    obtain ⟨q1, q2, q3, q4, q5, q6⟩ := strE hT hn hr
    have wb : R (p - f) := ⟨by omega, by omega⟩
    have wa : R (n - f) := ⟨by omega, by omega⟩
    simp -dsimp [ac62, tRow, h1, h2, h3, h4, h5, wr wb, wr wa]
    refine call_p (b86 (a := n - f) wb) rfl (by simp) ?_
    generalize gcdI (n - f) (p - f) = g at q5 q6
    have g0 : g ≠ 0 := by omega
    have t1 : Int.tdiv (n - f) g = (n - f) / g := Int.tdiv_eq_ediv_of_nonneg q1
    have t2 : Int.tdiv (p - f) g = (p - f) / g := Int.tdiv_eq_ediv_of_nonneg (by omega)
    have w3 := R_ediv wa q5
    have w4 := R_ediv wb q5
    simp -dsimp [g0, t1, t2, wr w3, wr w4, q6, wr0]

  have hr : rawS ⟨f, p, t⟩ n = (t - n, t - p) := by unfold rawS; simp only []; rw [if_neg hn1, if_neg hn2, if_neg h5]
  obtain ⟨q1, q2, q3, q4, q5, q6⟩ := strE hT hn hr
  have wb : R (t - p) := ⟨by omega, by omega⟩
  have wa : R (t - n) := ⟨by omega, by omega⟩
  simp -dsimp [ac62, tRow, h1, h2, h3, h4, h5, wr wb, wr wa]
  refine call_p (b86 (a := t - n) wb) rfl (by simp) ?_
  generalize gcdI (t - n) (t - p) = g at q5 q6
  have g0 : g ≠ 0 := by omega
  have t1 : Int.tdiv (t - n) g = (t - n) / g := Int.tdiv_eq_ediv_of_nonneg q1
  have t2 : Int.tdiv (t - p) g = (t - p) / g := Int.tdiv_eq_ediv_of_nonneg (by omega)
  have w3 := R_ediv wa q5
  have w4 := R_ediv wb q5
  simp -dsimp [g0, t1, t2, wr w3, wr w4, q6, wr0]
theorem b65 {x : T3} {n : Int} (hT : TE x) (hn : CO n) : Best Tryd.prog 65 [.agg (tRow x), .int .i64 n] (.p (.agg [.int .i64 (strS x n).1, .int .i64 (strS x n).2])) := by
  refine best mixed fn65 ok65 (by simp) ?_
  obtain ⟨f, p, t⟩ := x
  have hT' := hT
  have hn' := hn
  unfold TE at hT'
  unfold CO at hn'
  dsimp only at hT'
  by_cases h1 : p = 0
  · have h1d : (p = 0) = True := by simp [h1]
    have hr : rawS ⟨f, p, t⟩ n = (1, 1) := by unfold rawS; simp only []; rw [if_pos (.inl h1)]
    obtain ⟨q1, q2, q3, q4, q5, q6⟩ := strE hT hn hr
    have wb : R (1) := ⟨by omega, by omega⟩
    have wa : R (1) := ⟨by omega, by omega⟩
    simp -dsimp [ac65, tRow, h1d, wr wb, wr wa]
    refine call_p (b88 (a := 1) wb) rfl (by simp) ?_
    generalize gcdI (1) (1) = g at q5 q6
    have g0 : g ≠ 0 := by omega
    have t1 : Int.tdiv (1) g = (1) / g := Int.tdiv_eq_ediv_of_nonneg q1
    have t2 : Int.tdiv (1) g = (1) / g := Int.tdiv_eq_ediv_of_nonneg (by omega)
    have w3 := R_ediv wa q5
    have w4 := R_ediv wb q5
    simp -dsimp [g0, t1, t2, wr w3, wr w4, q6, wr0]

  by_cases h2 : n = p
  · have h2d : (n = p) = True := by simp [h2]
    have hr : rawS ⟨f, p, t⟩ n = (1, 1) := by unfold rawS; simp only []; rw [if_pos (.inr h2)]
    obtain ⟨q1, q2, q3, q4, q5, q6⟩ := strE hT hn hr
    have wb : R (1) := ⟨by omega, by omega⟩
    have wa : R (1) := ⟨by omega, by omega⟩
    simp -dsimp [ac65, tRow, h1, h2d, wr wb, wr wa]
    refine call_p (b88 (a := 1) wb) rfl (by simp) ?_
    generalize gcdI (1) (1) = g at q5 q6
    have g0 : g ≠ 0 := by omega
    have t1 : Int.tdiv (1) g = (1) / g := Int.tdiv_eq_ediv_of_nonneg q1
    have t2 : Int.tdiv (1) g = (1) / g := Int.tdiv_eq_ediv_of_nonneg (by omega)
    have w3 := R_ediv wa q5
    have w4 := R_ediv wb q5
    simp -dsimp [g0, t1, t2, wr w3, wr w4, q6, wr0]

  have hn1 : ¬ (p = 0 ∨ n = p) := by omega
  by_cases h3 : n ≤ f
  ·
    have hr : rawS ⟨f, p, t⟩ n = (0, 1) := by unfold rawS; simp only []; rw [if_neg hn1, if_pos (.inl h3)]
    obtain ⟨q1, q2, q3, q4, q5, q6⟩ := strE hT hn hr
    have wb : R (1) := ⟨by omega, by omega⟩
    have wa : R (0) := ⟨by omega, by omega⟩
    simp -dsimp [ac65, tRow, h1, h2, h3, wr wb, wr wa]
    refine call_p (b88 (a := 0) wb) rfl (by simp) ?_
    generalize gcdI (0) (1) = g at q5 q6
    have g0 : g ≠ 0 := by omega
    have t1 : Int.tdiv (0) g = (0) / g := Int.tdiv_eq_ediv_of_nonneg q1
    have t2 : Int.tdiv (1) g = (1) / g := Int.tdiv_eq_ediv_of_nonneg (by omega)
    have w3 := R_ediv wa q5
    have w4 := R_ediv wb q5
    simp -dsimp [g0, t1, t2, wr w3, wr w4, q6, wr0]

  by_cases h4 : t ≤ n
  ·
    have hr : rawS ⟨f, p, t⟩ n = (0, 1) := by unfold rawS; simp only []; rw [if_neg hn1, if_pos (.inr h4)]
    obtain ⟨q1, q2, q3, q4, q5, q6⟩ := strE hT hn hr
    have wb : R (1) := ⟨by omega, by omega⟩
    have wa : R (0) := ⟨by omega, by omega⟩
    simp -dsimp [ac65, tRow, h1, h2, h3, h4, wr wb, wr wa]
    refine call_p (b88 (a := 0) wb) rfl (by simp) ?_
    generalize gcdI (0) (1) = g at q5 q6
    have g0 : g ≠ 0 := by omega
    have t1 : Int.tdiv (0) g = (0) / g := Int.tdiv_eq_ediv_of_nonneg q1
    have t2 : Int.tdiv (1) g = (1) / g := Int.tdiv_eq_ediv_of_nonneg (by omega)
    have w3 := R_ediv wa q5
    have w4 := R_ediv wb q5
    simp -dsimp [g0, t1, t2, wr w3, wr w4, q6, wr0]

  have hn2 : ¬ (n ≤ f ∨ n ≥ t) := by omega
  by_cases h5 : n < p
  ·
    have hr : rawS ⟨f, p, t⟩ n = (n - f, p - f) := by unfold rawS; simp only []; rw [if_neg hn1, if_neg hn2, if_pos h5]
    obtain ⟨q1, q2, q3, q4, q5, q6⟩ := strE hT hn hr
    have wb : R (p - f) := ⟨by omega, by omega⟩
    have wa : R (n - f) := ⟨by omega, by omega⟩
    simp -dsimp [ac65, tRow, h1, h2, h3, h4, h5, wr wb, wr wa]
    refine call_p (b88 (a := n - f) wb) rfl (by simp) ?_
    generalize gcdI (n - f) (p - f) = g at q5 q6
    have g0 : g ≠ 0 := by omega
    have t1 : Int.tdiv (n - f) g = (n - f) / g := Int.tdiv_eq_ediv_of_nonneg q1
    have t2 : Int.tdiv (p - f) g = (p - f) / g := Int.tdiv_eq_ediv_of_nonneg (by omega)
    have w3 := R_ediv wa q5
    have w4 := R_ediv wb q5
    simp -dsimp [g0, t1, t2, wr w3, wr w4, q6, wr0]

  have hr : rawS ⟨f, p, t⟩ n = (t - n, t - p) := by unfold rawS; simp only []; rw [if_neg hn1, if_neg hn2, if_neg h5]
  obtain ⟨q1, q2, q3, q4, q5, q6⟩ := strE hT hn hr
  have wb : R (t - p) := ⟨by omega, by omega⟩
  have wa : R (t - n) := ⟨by omega, by omega⟩
  simp -dsimp [ac65, tRow, h1, h2, h3, h4, h5, wr wb, wr wa]
  refine call_p (b88 (a := t - n) wb) rfl (by simp) ?_
  generalize gcdI (t - n) (t - p) = g at q5 q6
  have g0 : g ≠ 0 := by omega
  have t1 : Int.tdiv (t - n) g = (t - n) / g := Int.tdiv_eq_ediv_of_nonneg q1
  have t2 : Int.tdiv (t - p) g = (t - p) / g := Int.tdiv_eq_ediv_of_nonneg (by omega)
  have w3 := R_ediv wa q5
  have w4 := R_ediv wb q5
  simp -dsimp [g0, t1, t2, wr w3, wr w4, q6, wr0]
end Go.Abs.A09
namespace Go.Abs.A09
open Go Go.Abs Go.Proofs
set_option maxRecDepth 100000
set_option linter.unusedVariables false
set_option linter.unusedSimpArgs false
attribute [local simp ↓] awp_skip awp_seq awp_cond awp_block awp_exit awp_ret awp_reg awp_draw awp_ghost awp_loop awp_rfun awpR_nil awpR_cons awpX_nil awpX_0 awpX_1 awpX_2 awpI_eq awpI_t awpI_f awpStep_eq
attribute [local simp] condL_true condL_false condL_dec evDel evV evN evS evA initFr Ghost.app Fr.var Fr.blk Fr.ff FF.val Abs.look Fr.app Fr.erase Fr.noSlot AV.noSlot AV.noSlotL Blk.noSlot Fr.spoken AV.fz AV.fzL Blk.fz binV binI shI binS unV fillA FF.parts FF.vals headO intO boundO lenV scalarEq leavesEq AV.aggc AV.cells FF.read FF.rows AV.one PV.one chunk freshB newS pickV retK evRs evRl evR resOf mkTup mkAgg allP cloOf okP_nil okX_p okX okP addN Del.noSlot Del.owners Rnd reify_p normM insM Fr.back Fr.backV Fr.setPs normV insV
theorem gcdI_dvd {a b : Int} (ha : 0 ≤ a) (hb : 0 ≤ b) : gcdI a b ∣ a ∧ gcdI a b ∣ b := by
  obtain ⟨m, rfl⟩ := Int.eq_ofNat_of_zero_le ha
  obtain ⟨n, rfl⟩ := Int.eq_ofNat_of_zero_le hb
  rw [gcdI_nat]
  exact ⟨Int.ofNat_dvd.2 (Nat.gcd_dvd_left m n), Int.ofNat_dvd.2 (Nat.gcd_dvd_right m n)⟩
theorem str_pos {t : T3} {n : Int} (hT : TE t) (hn : CO n) : 0 < (strS t n).1 ↔ 0 < (rawS t n).1 := by
  obtain ⟨h0, h1, h2, h3⟩ := rawB hT hn
  have hg := gcdI_ge h0 h2
  have hd := (gcdI_dvd h0 (by omega : 0 ≤ (rawS t n).2)).1
  unfold strS
  dsimp only
  constructor
  · intro h
    rcases Int.lt_or_le 0 (rawS t n).1 with h4 | h4
    · exact h4
    · have : (rawS t n).1 = 0 := by omega
      rw [this] at h; simp at h
  · intro h
    have := Int.le_of_dvd h hd
    exact Int.ediv_pos_of_pos_of_dvd h (by omega) hd
theorem raw_pos {t : T3} {n : Int} (hT : TE t) : 0 < (rawS t n).1 ↔ (t.p = 0 ∨ n = t.p ∨ (t.f < n ∧ n < t.t)) := by
  obtain ⟨f, p, t⟩ := t
  unfold TE at hT
  unfold rawS
  dsimp only at *
  split
  · simp; omega
  · split
    · simp; omega
    · split
      · dsimp only; omega
      · dsimp only; omega
theorem TC_iff {t : T3} {p : Int × Int} (hT : TE t) (hp : PG p) : (∃ n, p.1 ≤ n ∧ n ≤ p.2 ∧ 0 < (strS t n).1) ↔ TC t p := by
  have hp' := hp
  unfold PG CO at hp'
  have e : (∃ n, p.1 ≤ n ∧ n ≤ p.2 ∧ 0 < (strS t n).1) ↔ ∃ n, p.1 ≤ n ∧ n ≤ p.2 ∧ (t.p = 0 ∨ n = t.p ∨ (t.f < n ∧ n < t.t)) := by
    constructor
    · rintro ⟨n, h1, h2, h3⟩
      exact ⟨n, h1, h2, (raw_pos hT).1 ((str_pos hT ⟨by omega, by omega⟩).1 h3)⟩
    · rintro ⟨n, h1, h2, h3⟩
      exact ⟨n, h1, h2, (str_pos hT ⟨by omega, by omega⟩).2 ((raw_pos hT).2 h3)⟩
  rw [e]
  obtain ⟨f, pk, t⟩ := t
  obtain ⟨p1, p2⟩ := p
  unfold TE at hT
  unfold TC
  dsimp only at *
  constructor
  · rintro ⟨n, h1, h2, h3⟩
    omega
  · intro h
    by_cases h0 : pk = 0
    · exact ⟨p1, by omega, by omega, .inl h0⟩
    · refine ⟨max p1 (min (f + 1) pk), by omega, by omega, ?_⟩
      omega
/-- Is there a coordinate with a part, among the first? -/
def fnd (st : Int → Int × Int) (y : Int) (j : Nat) : Bool := (List.range j).any fun i => decide (0 < (st (y + i)).1)
theorem fnd_succ {st : Int → Int × Int} {y : Int} {j : Nat} : fnd st y (j + 1) = (fnd st y j || decide (0 < (st (y + j)).1)) := by
  simp [fnd, List.range_succ]
theorem fnd_iff {st : Int → Int × Int} {y : Int} {j : Nat} : fnd st y j = true ↔ ∃ i : Nat, i < j ∧ 0 < (st (y + i)).1 := by
  simp [fnd]
theorem b35 (a : List Int) (l : List (Int × Int)) (ha : a.length ≤ 9223372036854775807) : Best Tryd.prog 35 [.sl 1 (a.map intRow), .sl 2 (l.map pRow)] (.p (.bool (decide (WI a l)))) := by
  refine best mixed fn35 ok35 (by simp) ?_
  simp -dsimp [ac35]
  refine call_p (b33 l a.length) rfl (by simp) ?_
  by_cases h1 : RG l a.length
  rotate_left
  · have : ¬ WI a l := fun h => h1 h.1
    simp -dsimp [h1, this]
  simp -dsimp [h1]
  refine loopC a.length (fun k => ⟨[(0, .p (.sl 1 (a.map intRow))), (1, .p (.sl 2 (l.map pRow))), (6, .p (.int .i64 k))], []⟩) (fun k => ∀ x ∈ (a.zip l).take k, x.2.1 ≤ x.1 ∧ x.1 ≤ x.2.2) (fun k hk hall => ?_) (by simp) (by simp)
  have hlen : l.length = a.length := by have := h1.2.2.1; omega
  by_cases h : k < a.length
  · have h' : k < l.length := by omega
    obtain ⟨x, ex⟩ : ∃ x, a[k] = x := ⟨_, rfl⟩
    obtain ⟨⟨y1, y2⟩, ey⟩ : ∃ x, l[k] = x := ⟨_, rfl⟩
    have w : R ((k : Int) + 1) := ⟨by omega, by omega⟩
    have hxy : (a.zip l)[k]? = some (x, y1, y2) := zip_get (by rw [List.getElem?_eq_getElem h, ex]) (by rw [List.getElem?_eq_getElem h', ey])
    have no : ¬ (y1 ≤ x ∧ x ≤ y2) → ¬ WI a l := fun h1 h2 => h1 (h2.2 _ (List.mem_of_getElem? hxy))
    have go : y1 ≤ x ∧ x ≤ y2 → ∀ z ∈ (a.zip l).take (k + 1), z.2.1 ≤ z.1 ∧ z.1 ≤ z.2.2 := fun h => take_succ_all (p := fun z : Int × Int × Int => z.2.1 ≤ z.1 ∧ z.1 ≤ z.2.2) hxy hall h
    by_cases q1 : x < y1
    · have := no (by omega)
      simp -dsimp [h, h', ex, ey, intRow, pRow, q1, this]
    by_cases q2 : y2 < x
    · have := no (by omega)
      simp -dsimp [h, h', ex, ey, intRow, pRow, q1, q2, this]
    have := go (by omega)
    simp -dsimp [h, h', ex, ey, intRow, pRow, q1, q2, wr w]
    exact fun a b c => this (a, b, c)
  · have : k = a.length := by omega
    subst this
    have e : (a.zip l).length = a.length := by simp [hlen]
    rw [← e, List.take_length] at hall
    have : WI a l := ⟨h1, hall⟩
    simp -dsimp [this]
theorem b37 (r : List T3) (l : List (Int × Int)) : Best Tryd.prog 37 [.agg [.sl 3 (r.map tRow)], .sl 2 (l.map pRow)] (.p (.bool (decide (TO r l)))) := by
  refine best mixed fn37 ok37 (by simp) ?_
  simp -dsimp [ac37]
  refine call_p (b33 l l.length) rfl (by simp) ?_
  simp -dsimp
  refine call_p (b24 r l.length) rfl (by simp) ?_
  by_cases h1 : RG l l.length
  rotate_left
  · have : ¬ TO r l := fun h => h1 h.1
    simp -dsimp [h1, this]
  by_cases h2 : RI r l.length
  rotate_left
  · have : ¬ TO r l := fun h => h2 h.2.1
    simp -dsimp [h1, h2, this]
  simp -dsimp [h1, h2]
  have hlen : r.length = l.length := by have := h2.2.2.1; omega
  have hl3 : l.length ≤ 3 := by have := h1.2.1; omega
  refine loopC l.length (fun k => ⟨[(1, .p (.sl 2 (l.map pRow))), (2, .ptr (2, 0) 1 0 0), (7, .p (.int .i64 k))], [((2, 0), .box [.p (.sl 3 (r.map tRow))])]⟩) (fun k => ∀ x ∈ (r.zip l).take k, TC x.1 x.2) (fun k hk hall => ?_) (by simp) (by simp)
  by_cases h : k < l.length
  · have h' : k < r.length := by omega
    obtain ⟨x, ex⟩ : ∃ x, r[k] = x := ⟨_, rfl⟩
    obtain ⟨⟨y1, y2⟩, ey⟩ : ∃ x, l[k] = x := ⟨_, rfl⟩
    have w : R ((k : Int) + 1) := ⟨by omega, by omega⟩
    have hxy : (r.zip l)[k]? = some (x, y1, y2) := zip_get (by rw [List.getElem?_eq_getElem h', ex]) (by rw [List.getElem?_eq_getElem h, ey])
    have hT : TE x := h2.2.2.2 _ (List.of_mem_zip (List.mem_of_getElem? hxy)).1
    have hP : PG (y1, y2) := h1.2.2.2 _ (List.of_mem_zip (List.mem_of_getElem? hxy)).2
    have hP' := hP
    unfold PG CO at hP'
    dsimp only at hP'
    have no : ¬ TC x (y1, y2) → ¬ TO r l := fun h1 h2 => h1 (h2.2.2 _ (List.mem_of_getElem? hxy))
    have go : TC x (y1, y2) → ∀ z ∈ (r.zip l).take (k + 1), TC z.1 z.2 := fun h => take_succ_all (p := fun z : T3 × Int × Int => TC z.1 z.2) hxy hall h
    have hiff := TC_iff hT hP
    dsimp only at hiff
    have hcall := fun n (hn : CO n) => b65 (x := x) (n := n) hT hn
    generalize strS x = st at hiff hcall
    obtain ⟨x1, x2, x3⟩ := x
    simp -dsimp [h, h', ex, ey, pRow]
    refine loopC (y2 - y1 + 1).toNat (fun j => ⟨[(1, .p (.sl 2 (l.map pRow))), (2, .ptr (2, 0) 1 0 0), (7, .p (.int .i64 k)), (8, .p (.bool (fnd st y1 j))), (9, .p (.int .i64 (y1 + j)))], [((2, 0), .box [.p (.sl 3 (r.map tRow))])]⟩) (fun j => True) (fun j hj _ => ?_) trivial (by simp [fnd])
    have hext := fnd_succ (st := st) (y := y1) (j := j)
    by_cases hlt : y1 + (j : Int) ≤ y2
    · have hc := hcall (y1 + j) ⟨by omega, by omega⟩
      have w2 : R (y1 + (j : Int) + 1) := ⟨by omega, by omega⟩
      have hj' : (j : Int) < (y2 - y1 + 1).toNat := by omega
      have hj'' : j < (y2 - y1 + 1).toNat := by omega
      have eadd : y1 + ((j : Int) + 1) = y1 + j + 1 := by omega
      cases hf : fnd st y1 j with
      | true =>
        rw [hf, Bool.true_or] at hext
        simp -dsimp [h, ey, pRow, hlt, wr w2, hj'', eadd, hext]
      | false =>
        rw [hf, Bool.false_or] at hext
        simp -dsimp [tRow] at hc
        simp -dsimp [h, h', ex, ey, pRow, tRow, hlt, wr w2, hj'', eadd]
        refine call_p hc rfl (by simp) ?_
        by_cases h0 : 0 < (st (y1 + j)).1 <;> simp only [h0, decide_true, decide_false] at hext <;> simp -dsimp [h0, hj'', wr w2, eadd, hext]
    · have hj' : (j : Int) = y2 - y1 + 1 := by omega
      have e : fnd st y1 j = true ↔ TC ⟨x1, x2, x3⟩ (y1, y2) := by
        rw [← hiff, fnd_iff]
        constructor
        · rintro ⟨i, h1, h2⟩; exact ⟨y1 + i, by omega, by omega, h2⟩
        · rintro ⟨n, h1, h2, h3⟩
          refine ⟨(n - y1).toNat, by omega, ?_⟩
          rw [show y1 + ((n - y1).toNat : Int) = n by omega]; exact h3
      by_cases hC : TC ⟨x1, x2, x3⟩ (y1, y2)
      · have := go hC
        have hf := e.2 hC
        simp -dsimp [h, ey, pRow, hlt, hf, wr w]
        exact fun a b c => this (a, b, c)
      · have := no hC
        have hf : fnd st y1 j = false := by cases hq : fnd st y1 j with
          | true => exact absurd (e.1 hq) hC
          | false => rfl
        simp -dsimp [h, ey, pRow, hlt, hf, this]
  · have : k = l.length := by omega
    subst this
    have e : (r.zip l).length = l.length := by simp [hlen]
    rw [← e, List.take_length] at hall
    have : TO r l := ⟨h1, h2, hall⟩
    simp -dsimp [this]
end Go.Abs.A09
namespace Go.Abs.A09
open Go Go.Abs Go.Proofs
set_option maxRecDepth 100000
set_option linter.unusedVariables false
set_option linter.unusedSimpArgs false
attribute [local simp ↓] awp_skip awp_seq awp_cond awp_block awp_exit awp_ret awp_reg awp_draw awp_ghost awp_loop awp_rfun awpR_nil awpR_cons awpX_nil awpX_0 awpX_1 awpX_2 awpI_eq awpI_t awpI_f awpStep_eq
attribute [local simp] condL_true condL_false condL_dec evDel evV evN evS evA initFr Ghost.app Fr.var Fr.blk Fr.ff FF.val Abs.look Fr.app Fr.erase Fr.noSlot AV.noSlot AV.noSlotL Blk.noSlot Fr.spoken AV.fz AV.fzL Blk.fz binV binI shI binS unV fillA FF.parts FF.vals headO intO boundO lenV scalarEq leavesEq AV.aggc AV.cells FF.read FF.rows AV.one PV.one chunk freshB newS pickV retK evRs evRl evR resOf mkTup mkAgg allP cloOf okP_nil okX_p okX okP addN Del.noSlot Del.owners Rnd reify_p normM insM Fr.back Fr.backV Fr.setPs normV insV
theorem timesR (a b c d : Int) : R (timesS a b c d).1.1 ∧ R (timesS a b c d).1.2 := by
  unfold timesS
  split
  · rename_i h
    obtain ⟨p1, p2, p3, p4, p5⟩ := timesB h.1 h.2
    dsimp only
    split
    · exact ⟨⟨by simp, by simp⟩, ⟨by simp, by simp⟩⟩
    · exact ⟨R_ediv ⟨by omega, by omega⟩ p5, R_ediv ⟨by omega, by omega⟩ p5⟩
  · exact ⟨⟨by simp, by simp⟩, ⟨by simp, by simp⟩⟩
theorem strR {x : T3} {n : Int} (hT : TE x) (hn : CO n) : R (strS x n).1 ∧ R (strS x n).2 := by
  obtain ⟨h0, h1, h2, h3⟩ := rawB hT hn
  have hg := gcdI_ge h0 h2
  exact ⟨R_ediv ⟨by omega, by omega⟩ hg, R_ediv ⟨by omega, by omega⟩ hg⟩
noncomputable def mulS (s : Int × Int) (x : T3 × Int) : Int × Int := (timesS s.1 s.2 (strS x.1 x.2).1 (strS x.1 x.2).2).1
noncomputable def scaF (r : List T3) (a : List Int) (k : Nat) : Int × Int := ((r.zip a).take k).foldl mulS (1, 1)
noncomputable def scaS (r : List T3) (a : List Int) : Int × Int := if RI r a.length ∧ CL a then (r.zip a).foldl mulS (1, 1) else (0, 1)
theorem scaF_succ {r : List T3} {a : List Int} {k : Nat} {x : T3} {n : Int} (h : (r.zip a)[k]? = some (x, n)) : scaF r a (k + 1) = mulS (scaF r a k) (x, n) := by
  simp [scaF, List.take_add_one, h]
theorem scaF_R (r : List T3) (a : List Int) (k : Nat) : R (scaF r a k).1 ∧ R (scaF r a k).2 := by
  induction k with
  | zero => simp [scaF, R]
  | succ k ih =>
    by_cases h : k < (r.zip a).length
    · rw [scaF_succ (x := (r.zip a)[k].1) (n := (r.zip a)[k].2) (List.getElem?_eq_getElem h)]
      exact timesR ..
    · have : scaF r a (k + 1) = scaF r a k := by
        unfold scaF; rw [List.take_of_length_le (by omega), List.take_of_length_le (by omega)]
      rw [this]; exact ih
theorem b26 (r : List T3) (a : List Int) (ha : a.length ≤ 9223372036854775807) : Best Tryd.prog 26 [.agg [.sl 3 (r.map tRow)], .sl 1 (a.map intRow)] (.p (.agg [.int .i64 (scaS r a).1, .int .i64 (scaS r a).2])) := by
  refine best mixed fn26 ok26 (by simp) ?_
  simp -dsimp [ac26]
  refine call_p (b24 r a.length) rfl (by simp) ?_
  simp -dsimp
  refine call_p (b63 a ha) rfl (by simp) ?_
  by_cases h1 : RI r a.length
  rotate_left
  · have : scaS r a = (0, 1) := if_neg fun h => h1 h.1
    simp -dsimp [h1, this]
  by_cases h2 : CL a
  rotate_left
  · have : scaS r a = (0, 1) := if_neg fun h => h2 h.2
    simp -dsimp [h1, h2, this]
  simp -dsimp [h1, h2]
  have hlen : r.length = a.length := by have := h1.2.2.1; omega
  refine loopC a.length (fun k => ⟨[(1, .p (.sl 1 (a.map intRow))), (2, .ptr (2, 0) 1 0 0), (4, .ptr (4, 0) 2 0 0), (7, .ptr (7, 0) 2 0 0), (8, .p (.int .i64 k))], [((2, 0), .box [.p (.sl 3 (r.map tRow))]), ((4, 0), .box [.p (.int .i64 0), .p (.int .i64 0)]), ((7, 0), .box [.p (.int .i64 (scaF r a k).1), .p (.int .i64 (scaF r a k).2)])]⟩) (fun _ => True) (fun k hk _ => ?_) trivial (by simp [scaF])
  by_cases h : k < a.length
  · have h' : k < r.length := by omega
    obtain ⟨x, ex⟩ : ∃ x, r[k] = x := ⟨_, rfl⟩
    obtain ⟨n, en⟩ : ∃ x, a[k] = x := ⟨_, rfl⟩
    have w : R ((k : Int) + 1) := ⟨by omega, by omega⟩
    have hxy : (r.zip a)[k]? = some (x, n) := zip_get (by rw [List.getElem?_eq_getElem h', ex]) (by rw [List.getElem?_eq_getElem h, en])
    have hT : TE x := h1.2.2.2 _ (List.of_mem_zip (List.mem_of_getElem? hxy)).1
    have hN : CO n := h2.2 _ (List.of_mem_zip (List.mem_of_getElem? hxy)).2
    have hs := scaF_succ hxy
    unfold mulS at hs
    dsimp only at hs
    have hc := b65 (x := x) (n := n) hT hN
    have hcr := strR hT hN
    have hsr := scaF_R r a k
    generalize scaF r a k = s at *
    generalize scaF r a (k + 1) = s' at *
    generalize strS x n = u at *
    obtain ⟨x1, x2, x3⟩ := x
    simp -dsimp [tRow] at hc
    simp -dsimp [h, h', ex, en, tRow, intRow]
    refine call_p hc rfl (by simp) ?_
    simp -dsimp
    refine call_p (b64 hsr.1 hsr.2 hcr.1 hcr.2) rfl (by simp) ?_
    simp -dsimp [wr w, h, hs]
  · have : k = a.length := by omega
    subst this
    have e : (r.zip a).length = a.length := by simp [hlen]
    have : scaS r a = scaF r a a.length := by
      unfold scaS scaF; rw [if_pos ⟨h1, h2⟩, ← e, List.take_length]
    simp -dsimp [this]
theorem b25 (r : List T3) (a : List Int) (hr : r.length ≤ 9223372036854775807) : Best Tryd.prog 25 [.agg [.sl 3 (r.map tRow)], .sl 1 (a.map intRow)] (.p (.agg [.int .i64 (scaS r a).1, .int .i64 (scaS r a).2])) := by
  refine best mixed fn25 ok25 (by simp) ?_
  simp -dsimp [ac25]
  refine call_p (b23 r a.length hr) rfl (by simp) ?_
  by_cases h1 : RI r a.length
  rotate_left
  · have : scaS r a = (0, 1) := if_neg fun h => h1 h.1
    simp -dsimp [h1, this]
  simp -dsimp [h1]
  refine call_p (b60 a) rfl (by simp) ?_
  by_cases h2 : CL a
  rotate_left
  · have : scaS r a = (0, 1) := if_neg fun h => h2 h.2
    simp -dsimp [h2, this]
  simp -dsimp [h2]
  refine call_p (b61 (r.map tRow) (a.map intRow)) rfl (by simp) ?_
  simp -dsimp
  have hlen : r.length = a.length := by have := h1.2.2.1; omega
  refine rfunL_rule rfl rfl (g85 r a hr) (fun k F => F = ⟨[(4, .ptr (4, 0) 2 0 0), (5, .ptr (5, 0) 2 0 0), (23, .p (.clo (.func 85) [] [.ro [.sl 3 (r.map tRow)], .ro [.sl 1 (a.map intRow)]]))], [((4, 0), .box [.p (.int .i64 0), .p (.int .i64 0)]), ((5, 0), .box [.p (.int .i64 (scaF r a k).1), .p (.int .i64 (scaF r a k).2)])]⟩) ?_ ?_ (by simp [scaF])
  · rintro k z F hz hF
    obtain ⟨x, n, hxy, rfl⟩ := zipS_inv hz
    refine ⟨by simp, ?_⟩
    have hT : TE x := h1.2.2.2 _ (List.of_mem_zip (List.mem_of_getElem? hxy)).1
    have hN : CO n := h2.2 _ (List.of_mem_zip (List.mem_of_getElem? hxy)).2
    have hs := scaF_succ hxy
    unfold mulS at hs
    dsimp only at hs
    have hc := b62 (x := x) (n := n) hT hN
    have hcr := strR hT hN
    have hsr := scaF_R r a k
    generalize scaF r a k = s at *
    generalize scaF r a (k + 1) = s' at *
    generalize strS x n = u at *
    obtain ⟨x1, x2, x3⟩ := x
    simp -dsimp [tRow] at hc
    subst hF
    simp -dsimp [vT, vI, tRow]
    refine call_p hc rfl (by simp) ?_
    simp -dsimp
    refine call_p (b38 hsr.1 hsr.2 hcr.1 hcr.2) rfl (by simp) ?_
    simp -dsimp [hs]
  · rintro F hF
    have hz : (zipS vT vI r a).length = a.length := by simp [zipS, hlen]
    have e : (r.zip a).length = a.length := by simp [hlen]
    have : scaS r a = scaF r a a.length := by
      unfold scaS scaF; rw [if_pos ⟨h1, h2⟩, ← e, List.take_length]
    rw [hz] at hF
    subst hF
    simp -dsimp [this]
end Go.Abs.A09
namespace Go.Abs.A09
open Go Go.Abs Go.Proofs
set_option maxRecDepth 100000
set_option linter.unusedVariables false
set_option linter.unusedSimpArgs false
attribute [local simp ↓] awp_skip awp_seq awp_cond awp_block awp_exit awp_ret awp_reg awp_draw awp_ghost awp_loop awp_rfun awpR_nil awpR_cons awpX_nil awpX_0 awpX_1 awpX_2 awpI_eq awpI_t awpI_f awpStep_eq
attribute [local simp] condL_true condL_false condL_dec evDel evV evN evS evA initFr Ghost.app Fr.var Fr.blk Fr.ff FF.val Abs.look Fr.app Fr.erase Fr.noSlot AV.noSlot AV.noSlotL Blk.noSlot Fr.spoken AV.fz AV.fzL Blk.fz binV binI shI binS unV fillA FF.parts FF.vals headO intO boundO lenV scalarEq leavesEq AV.aggc AV.cells FF.read FF.rows AV.one PV.one chunk freshB newS pickV retK evRs evRl evR resOf mkTup mkAgg allP cloOf okP_nil okX_p okX okP addN Del.noSlot Del.owners Rnd reify_p normM insM Fr.back Fr.backV Fr.setPs normV insV
def regRow (r : List T3) : List PV := [.sl 3 (r.map tRow)]
theorem scaS_R (r : List T3) (a : List Int) : R (scaS r a).1 ∧ R (scaS r a).2 := by
  unfold scaS
  split
  · have := scaF_R r a (r.zip a).length
    unfold scaF at this
    rwa [List.take_length] at this
  · simp [R]
noncomputable def growS (rs : List (List T3)) (a : List Int) (g : Int × Int) : Option Int :=
  if 0 ≤ g.1 ∧ g.1 < rs.length ∧ RI (rs.getD g.1.toNat []) a.length ∧ (partS g.2 (scaS (rs.getD g.1.toNat []) a).1 (scaS (rs.getD g.1.toNat []) a).2).2 = true then some (partS g.2 (scaS (rs.getD g.1.toNat []) a).1 (scaS (rs.getD g.1.toNat []) a).2).1 else none
noncomputable def sumL (rs : List (List T3)) (a : List Int) (s0 : Int) (l : List (Int × Int)) : Option Int := l.foldl (fun o g => o.bind fun s => (growS rs a g).map (s + ·)) (some s0)
noncomputable def sumS (base : Int) (l : List (Int × Int)) (rs : List (List T3)) (a : List Int) : Int × Bool :=
  if SM base ∧ CL a ∧ l.length ≤ 8 then (match sumL rs a (64 * base) l with | some s => (s, true) | none => (0, false)) else (0, false)
theorem sumL_none {rs : List (List T3)} {a : List Int} : ∀ {l : List (Int × Int)}, l.foldl (fun o g => o.bind fun s => (growS rs a g).map (s + ·)) none = none
  | [] => rfl
  | g :: l => by simp only [List.foldl_cons, Option.bind_none]; exact sumL_none
theorem sumL_app {rs : List (List T3)} {a : List Int} {s0 : Int} {l m : List (Int × Int)} : sumL rs a s0 (l ++ m) = (sumL rs a s0 l).bind fun s => sumL rs a s m := by
  unfold sumL
  rw [List.foldl_append]
  cases l.foldl (fun o g => o.bind fun s => (growS rs a g).map (s + ·)) (some s0) with
  | none => rw [sumL_none]; rfl
  | some s => rfl
theorem sumL_succ {rs : List (List T3)} {a : List Int} {s0 s : Int} {l : List (Int × Int)} {k : Nat} {g : Int × Int} (hk : l[k]? = some g) (hs : sumL rs a s0 (l.take k) = some s) : sumL rs a s0 (l.take (k + 1)) = (growS rs a g).map (s + ·) := by
  rw [List.take_add_one, hk, sumL_app, hs]
  simp [sumL]
theorem sumL_fail {rs : List (List T3)} {a : List Int} {s0 s : Int} {l : List (Int × Int)} {k : Nat} {g : Int × Int} (hk : l[k]? = some g) (hs : sumL rs a s0 (l.take k) = some s) (hg : growS rs a g = none) : sumL rs a s0 l = none := by
  rw [← List.take_append_drop (k + 1) l, sumL_app, sumL_succ hk hs, hg]
  rfl
theorem partB (a n d : Int) : -17592186044417 ≤ (partS a n d).1 ∧ (partS a n d).1 ≤ 17592186044417 := by
  unfold partS
  split
  · rename_i h
    have hb := mulb h.1 h.2.2.2.1 (by have := h.2.2.1; have := h.2.2.2.2.1; omega)
    have := roundS_bd (n := 64 * a * n) (d := d) (m := 17592186044416) h.2.1 (by omega) (by omega) (by omega)
    dsimp only; omega
  · simp
theorem part1 (a : Int) : partS a 1 1 = if SM a then (64 * a, true) else (0, false) := by
  have h1 : RS 1 1 := ⟨by omega, by omega, by omega, by omega, by rw [gcdI_pos (by omega), gcdI_neg (by decide)]⟩
  unfold partS
  by_cases h : SM a
  · rw [if_pos ⟨h, h1⟩, if_pos h]
    simp [roundS, Int.emod_one]
  · rw [if_neg (fun q => h q.1), if_neg h]
theorem sumN {base : Int} {l : List (Int × Int)} {rs : List (List T3)} {a : List Int} (h : ¬ (SM base ∧ CL a ∧ l.length ≤ 8)) : sumS base l rs a = (0, false) := if_neg h
theorem b29 {base : Int} {l : List (Int × Int)} {rs : List (List T3)} {a : List Int} (hb : R base) (hl : l.length ≤ 9223372036854775807) (ha : a.length ≤ 9223372036854775807) (hrs : ∀ r ∈ rs, r.length ≤ 9223372036854775807) : Best Tryd.prog 29 [.int .i64 base, .sl 2 (l.map pRow), .sl 1 (rs.map regRow), .sl 1 (a.map intRow)] (.p (.tup [.int .i64 (sumS base l rs a).1, .bool (sumS base l rs a).2])) := by
  refine best mixed fn29 ok29 (by simp) ?_
  simp -dsimp [ac29]
  refine call_p (b66 (a := base) (n := 1) (d := 1) (by simp [R]) (by simp [R])) rfl (by simp) ?_
  rw [part1]
  by_cases h1 : SM base
  rotate_left
  · have := sumN (l := l) (rs := rs) (a := a) (fun h => h1 h.1)
    simp -dsimp [h1, this]
  simp -dsimp [h1]
  refine call_p (b60 a) rfl (by simp) ?_
  by_cases h2 : CL a
  rotate_left
  · have := sumN (base := base) (l := l) (rs := rs) (fun h => h2 h.2.1)
    simp -dsimp [h2, this]
  by_cases h3 : (8 : Int) < l.length
  · have := sumN (base := base) (rs := rs) (a := a) (l := l) (fun h => by have := h.2.2; omega)
    simp -dsimp [h2, h3, this]
  simp -dsimp [h2, h3]
  refine loopC l.length (fun k => ⟨[(2, .p (.sl 1 (rs.map regRow))), (3, .p (.sl 1 (a.map intRow))), (10, .p (.int .i64 ((sumL rs a (64 * base) (l.take k)).getD 0))), (34, .p (.sl 2 (l.map pRow))), (35, .p (.int .i64 l.length)), (36, .p (.int .i64 k))], []⟩) (fun k => ∃ s, sumL rs a (64 * base) (l.take k) = some s ∧ -17592186044417 * (k + 1) ≤ s ∧ s ≤ 17592186044417 * (k + 1)) (fun k hk hQ => ?_) ⟨64 * base, by simp [sumL], by have := h1.1; omega, by have := h1.2; omega⟩ (by simp [sumL])
  obtain ⟨s, hs, hs1, hs2⟩ := hQ
  by_cases h : k < l.length
  · obtain ⟨⟨g, y⟩, ex⟩ : ∃ x, l[k] = x := ⟨_, rfl⟩
    have hx : l[k]? = some (g, y) := by rw [List.getElem?_eq_getElem h, ex]
    have w : R ((k : Int) + 1) := ⟨by omega, by omega⟩
    have hsu := sumL_succ hx hs
    have no : growS rs a (g, y) = none → sumS base l rs a = (0, false) := fun hg => by
      unfold sumS; rw [if_pos ⟨h1, h2, by omega⟩, sumL_fail hx hs hg]
    by_cases q1 : g < 0
    · have := no (if_neg fun h => by have := h.1; dsimp only at this; omega)
      simp -dsimp [h, ex, pRow, hs, q1, this]
    by_cases q2 : (rs.length : Int) ≤ g
    · have := no (if_neg fun h => by have := h.2.1; dsimp only at this; omega)
      simp -dsimp [h, ex, pRow, hs, q1, q2, this]
    obtain ⟨m, rfl⟩ := Int.eq_ofNat_of_zero_le (by omega : 0 ≤ g)
    have hm : m < rs.length := by omega
    obtain ⟨r, er⟩ : ∃ x, rs[m] = x := ⟨_, rfl⟩
    have hmem : r ∈ rs := by rw [← er]; simp
    have hgd : rs.getD m [] = r := by simp [List.getD, hm, er]
    have hgr : growS rs a (m, y) = if RI r a.length ∧ (partS y (scaS r a).1 (scaS r a).2).2 = true then some (partS y (scaS r a).1 (scaS r a).2).1 else none := by
      unfold growS
      have c1 : (0 : Int) ≤ (m : Int) := by omega
      have c2 : (m : Int) < rs.length := by omega
      simp only [Int.toNat_natCast, hgd, c1, c2, true_and]
    have hpb := partB y (scaS r a).1 (scaS r a).2
    have hpart := b66 (a := y) (scaS_R r a).1 (scaS_R r a).2
    have hmem' := b25 r a (hrs _ hmem)
    have q1' : ¬ (m : Int) < 0 := by omega
    have hri := b23 r a.length (hrs _ hmem)
    have nl : ¬ ((rs.length : Int) ≤ m) := by omega
    have nl' : ¬ (rs.length ≤ m) := by omega
    simp -dsimp [h, ex, pRow, hs, q1', nl', hm, er, regRow]
    refine call_p hri rfl (by simp) ?_
    by_cases q3 : RI r a.length
    rotate_left
    · have := no (by rw [hgr, if_neg fun h => q3 h.1])
      simp -dsimp [q3, this]
    simp -dsimp [q3, hm, er, regRow]
    refine call_p hmem' rfl (by simp) ?_
    simp -dsimp
    generalize scaS r a = u at *
    refine call_p hpart rfl (by simp) ?_
    generalize partS y u.1 u.2 = z at *
    obtain ⟨z1, z2⟩ := z
    cases z2 with
    | false =>
      have := no (by rw [hgr, if_neg fun h => by simp at h])
      simp -dsimp [this]
    | true =>
      rw [if_pos ⟨q3, rfl⟩] at hgr
      rw [hgr] at hsu
      dsimp only [Option.map_some] at hsu hpb
      have wz : R (s + z1) := ⟨by omega, by omega⟩
      simp -dsimp [wr w, wr wz, hsu, h]
      omega
  · have : k = l.length := by omega
    subst this
    have hs' := hs
    rw [List.take_length] at hs'
    have : sumS base l rs a = (s, true) := by
      unfold sumS; rw [if_pos ⟨h1, h2, by omega⟩, hs']
    simp -dsimp [hs', this]
theorem b30 {base : Int} {l : List (Int × Int)} {rs : List (List T3)} {a : List Int} (hb : R base) (hl : l.length ≤ 9223372036854775807) (ha : a.length ≤ 9223372036854775807) (hrs : ∀ r ∈ rs, r.length ≤ 9223372036854775807) : Best Tryd.prog 30 [.int .i64 base, .sl 2 (l.map pRow), .sl 1 (rs.map regRow), .sl 1 (a.map intRow)] (.p (.tup [.int .i64 (sumS base l rs a).1, .bool (sumS base l rs a).2])) := by
  refine best mixed fn30 ok30 (by simp) ?_
  simp -dsimp [ac30]
  refine call_p (b67' base) rfl (by simp) ?_
  simp -dsimp
  refine call_p (b63 a ha) rfl (by simp) ?_
  by_cases h1 : SM base
  rotate_left
  · have := sumN (l := l) (rs := rs) (a := a) (fun h => h1 h.1)
    simp -dsimp [h1, this]
  by_cases h2 : CL a
  rotate_left
  · have := sumN (base := base) (l := l) (rs := rs) (fun h => h2 h.2.1)
    simp -dsimp [h1, h2, this]
  by_cases h3 : (8 : Int) < l.length
  · have := sumN (base := base) (rs := rs) (a := a) (l := l) (fun h => by have := h.2.2; omega)
    simp -dsimp [h1, h2, h3, this]
  have w0 : R (64 * base) := ⟨by have := h1.1; omega, by have := h1.2; omega⟩
  simp -dsimp [h1, h2, h3, wr w0]
  refine loopC l.length (fun k => ⟨[(1, .p (.sl 2 (l.map pRow))), (2, .p (.sl 1 (rs.map regRow))), (3, .p (.sl 1 (a.map intRow))), (12, .p (.int .i64 ((sumL rs a (64 * base) (l.take k)).getD 0))), (13, .p (.int .i64 k))], []⟩) (fun k => ∃ s, sumL rs a (64 * base) (l.take k) = some s ∧ -17592186044417 * (k + 1) ≤ s ∧ s ≤ 17592186044417 * (k + 1)) (fun k hk hQ => ?_) ⟨64 * base, by simp [sumL], by have := h1.1; omega, by have := h1.2; omega⟩ (by simp [sumL])
  obtain ⟨s, hs, hs1, hs2⟩ := hQ
  by_cases h : k < l.length
  · obtain ⟨⟨g, y⟩, ex⟩ : ∃ x, l[k] = x := ⟨_, rfl⟩
    have hx : l[k]? = some (g, y) := by rw [List.getElem?_eq_getElem h, ex]
    have w : R ((k : Int) + 1) := ⟨by omega, by omega⟩
    have hsu := sumL_succ hx hs
    have no : growS rs a (g, y) = none → sumS base l rs a = (0, false) := fun hg => by
      unfold sumS; rw [if_pos ⟨h1, h2, by omega⟩, sumL_fail hx hs hg]
    by_cases q1 : g < 0
    · have := no (if_neg fun h => by have := h.1; dsimp only at this; omega)
      simp -dsimp [h, ex, pRow, hs, q1, this]
    by_cases q2 : (rs.length : Int) ≤ g
    · have := no (if_neg fun h => by have := h.2.1; dsimp only at this; omega)
      simp -dsimp [h, ex, pRow, hs, q1, q2, this]
    obtain ⟨m, rfl⟩ := Int.eq_ofNat_of_zero_le (by omega : 0 ≤ g)
    have hm : m < rs.length := by omega
    obtain ⟨r, er⟩ : ∃ x, rs[m] = x := ⟨_, rfl⟩
    have hmem : r ∈ rs := by rw [← er]; simp
    have hgd : rs.getD m [] = r := by simp [List.getD, hm, er]
    have hgr : growS rs a (m, y) = if RI r a.length ∧ (partS y (scaS r a).1 (scaS r a).2).2 = true then some (partS y (scaS r a).1 (scaS r a).2).1 else none := by
      unfold growS
      have c1 : (0 : Int) ≤ (m : Int) := by omega
      have c2 : (m : Int) < rs.length := by omega
      simp only [Int.toNat_natCast, hgd, c1, c2, true_and]
    have hpb := partB y (scaS r a).1 (scaS r a).2
    have hpart := b68 (a := y) (scaS_R r a).1 (scaS_R r a).2
    have hmem' := b26 r a ha
    have q1' : ¬ (m : Int) < 0 := by omega
    have hri := b24 r a.length
    have nl : ¬ ((rs.length : Int) ≤ m) := by omega
    have nl' : ¬ (rs.length ≤ m) := by omega
    simp -dsimp [h, ex, pRow, hs, q1', nl', hm, er, regRow]
    refine call_p hri rfl (by simp) ?_
    simp -dsimp [h, ex, pRow]
    refine call_p hmem' rfl (by simp) ?_
    simp -dsimp
    generalize scaS r a = u at *
    refine call_p hpart rfl (by simp) ?_
    by_cases q3 : RI r a.length
    rotate_left
    · have := no (by rw [hgr, if_neg fun h => q3 h.1])
      simp -dsimp [q3, this]
    generalize partS y u.1 u.2 = z at *
    obtain ⟨z1, z2⟩ := z
    cases z2 with
    | false =>
      have := no (by rw [hgr, if_neg fun h => by simp at h])
      simp -dsimp [q3, this]
    | true =>
      rw [if_pos ⟨q3, rfl⟩] at hgr
      rw [hgr] at hsu
      dsimp only [Option.map_some] at hsu hpb
      have wz : R (s + z1) := ⟨by omega, by omega⟩
      simp -dsimp [q3, wr w, wr wz, hsu, h]
      omega
  · have : k = l.length := by omega
    subst this
    have hs' := hs
    rw [List.take_length] at hs'
    have : sumS base l rs a = (s, true) := by
      unfold sumS; rw [if_pos ⟨h1, h2, by omega⟩, hs']
    simp -dsimp [hs', this]
end Go.Abs.A09
namespace Go.Abs.A09
open Go Go.Abs Go.Proofs
set_option maxRecDepth 100000
set_option linter.unusedVariables false
/-- abugida/abugidalaw09.sanity -/
def ac11 : AC := (.ghost (.keep [])
  (.seq (.reg [⟨some 0, .mov (.c (.bool false)), none, []⟩])
  (.ghost (.keep []) (.seq (.reg [⟨some 9, .build [.int .i64 0, .int .i64 0] [(0, 1, .c (.int .i64 100)), (1, 1, .c (.int .i64 (-64)))], none, []⟩,
    ⟨some 10, .build [.int .i64 0, .int .i64 0] [(0, 1, .c (.int .i64 400)), (1, 1, .c (.int .i64 0))], none, []⟩,
    ⟨some 11, .build [.int .i64 0, .int .i64 0] [(0, 1, .c (.int .i64 700)), (1, 1, .c (.int .i64 16))], none, []⟩,
    ⟨some 12, .build [.int .i64 0, .int .i64 0] [(0, 1, .c (.int .i64 900)), (1, 1, .c (.int .i64 64))], none, []⟩,
    ⟨some 13, .bslice 30 2 4 [.int .i64 0, .int .i64 0, .int .i64 0, .int .i64 0, .int .i64 0, .int .i64 0, .int .i64 0, .int .i64 0] [(0, 2, .v 9), (2, 2, .v 10), (4, 2, .v 11), (6, 2, .v 12)], none, [0, 1, 2, 3]⟩,
    ⟨some 14, .build [.str ⟨#[]⟩, .int .i64 0, .int .i64 0, .int .i64 0, .nsl] [(0, 1, .c (.str ⟨#[119, 103, 104, 116]⟩)), (1, 1, .c (.int .i64 100)), (2, 1, .c (.int .i64 400)), (3, 1, .c (.int .i64 900)), (4, 1, .v 13)], none, [4]⟩,
    ⟨some 1, .alloc [.str ⟨#[]⟩, .int .i64 0, .int .i64 0, .int .i64 0, .nsl], none, []⟩,
    ⟨none, .store 5 (.v 1) (.v 14), none, [6, 5, 0, 1, 2, 3, 4, 5, 6]⟩])
  (.ghost (.keep [1]) (.seq (.reg [⟨some 15, .call 40 [.c (.int .i64 0), .c (.int .i64 32), .c (.int .i64 64)], none, []⟩,
    ⟨some 2, .alloc [.nsl], none, []⟩,
    ⟨none, .store 1 (.v 2) (.v 15), none, [1, 0, 0, 0, 1]⟩])
  (.ghost (.keep [1, 2]) (.seq (.reg [⟨some 16, .load true 5 (.v 1), none, []⟩,
    ⟨some 17, .build [.int .i64 0, .int .i64 0] [(0, 1, .c (.int .i64 100)), (1, 1, .c (.int .i64 (-64)))], none, []⟩,
    ⟨some 18, .build [.int .i64 0, .int .i64 0] [(0, 1, .c (.int .i64 250)), (1, 1, .c (.int .i64 (-32)))], none, []⟩,
    ⟨some 19, .build [.int .i64 0, .int .i64 0] [(0, 1, .c (.int .i64 400)), (1, 1, .c (.int .i64 0))], none, []⟩,
    ⟨some 20, .build [.int .i64 0, .int .i64 0] [(0, 1, .c (.int .i64 550)), (1, 1, .c (.int .i64 8))], none, []⟩,
    ⟨some 21, .build [.int .i64 0, .int .i64 0] [(0, 1, .c (.int .i64 800)), (1, 1, .c (.int .i64 40))], none, []⟩,
    ⟨some 22, .build [.int .i64 0, .int .i64 0] [(0, 1, .c (.int .i64 2000)), (1, 1, .c (.int .i64 64))], none, []⟩,
    ⟨some 23, .build [.int .i64 0, .int .i64 0] [(0, 1, .c (.int .i64 101)), (1, 1, .c (.int .i64 (-64)))], none, []⟩,
    ⟨some 24, .bslice 30 2 7 [.int .i64 0, .int .i64 0, .int .i64 0, .int .i64 0, .int .i64 0, .int .i64 0, .int .i64 0, .int .i64 0, .int .i64 0, .int .i64 0, .int .i64 0, .int .i64 0, .int .i64 0, .int .i64 0] [(0, 2, .v 17), (2, 2, .v 18), (4, 2, .v 19), (6, 2, .v 20), (8, 2, .v 21), (10, 2, .v 22), (12, 2, .v 23)], none, [1, 2, 3, 4, 5, 6, 7]⟩,
    ⟨some 25, .call 41 [.v 16, .v 24], none, [0, 8]⟩,
    ⟨some 3, .mov (.v 25), none, [9, 9, 0, 1, 2, 3, 4, 5, 6, 7, 8, 9]⟩])
  (.ghost (.keep [2, 3]) (.seq (.reg [⟨some 26, .build [.int .i64 0, .int .i64 0, .int .i64 0] [(0, 1, .c (.int .i64 0)), (1, 1, .c (.int .i64 32)), (2, 1, .c (.int .i64 64))], none, []⟩,
    ⟨some 27, .build [.int .i64 0, .int .i64 0, .int .i64 0] [(0, 1, .c (.int .i64 (-64))), (1, 1, .c (.int .i64 0)), (2, 1, .c (.int .i64 9))], none, []⟩,
    ⟨some 28, .build [.int .i64 0, .int .i64 0, .int .i64 0] [(0, 1, .c (.int .i64 (-30))), (1, 1, .c (.int .i64 (-30))), (2, 1, .c (.int .i64 (-10)))], none, []⟩,
    ⟨some 29, .bslice 71 3 3 [.int .i64 0, .int .i64 0, .int .i64 0, .int .i64 0, .int .i64 0, .int .i64 0, .int .i64 0, .int .i64 0, .int .i64 0] [(0, 3, .v 26), (3, 3, .v 27), (6, 3, .v 28)], none, [0, 1, 2]⟩,
    ⟨some 30, .build [.nsl] [(0, 1, .v 29)], none, [3]⟩,
    ⟨some 4, .alloc [.nsl], none, []⟩,
    ⟨none, .store 1 (.v 4) (.v 30), none, [5, 4, 0, 1, 2, 3, 4, 5]⟩])
  (.ghost (.keep [2, 3, 4]) (.seq (.reg [⟨some 31, .load true 1 (.v 2), none, []⟩,
    ⟨some 32, .bslice 3 1 1 [.int .i64 0] [(0, 1, .c (.int .i64 16))], none, []⟩,
    ⟨some 33, .call 42 [.v 31, .c (.int .i64 1), .c (.int .i64 2), .v 32], none, [0, 1]⟩,
    ⟨some 34, .mov (.v 33), none, [2, 2]⟩,
    ⟨some 35, .load true 1 (.v 2), some (34, true), [3]⟩,
    ⟨some 36, .bslice 3 1 1 [.int .i64 0] [(0, 1, .c (.int .i64 32))], some (34, true), [3]⟩,
    ⟨some 37, .call 42 [.v 35, .c (.int .i64 1), .c (.int .i64 1), .v 36], some (34, true), [4, 5, 3, 3]⟩,
    ⟨some 38, .pick (.v 34) (.v 37) (.c (.bool false)), none, [3, 6]⟩,
    ⟨some 39, .mov (.v 38), none, [7, 6]⟩,
    ⟨some 40, .load true 1 (.v 2), some (39, true), [8]⟩,
    ⟨some 41, .bslice 3 1 1 [.int .i64 0] [(0, 1, .c (.int .i64 48))], some (39, true), [8]⟩,
    ⟨some 42, .call 42 [.v 40, .c (.int .i64 1), .c (.int .i64 2), .v 41], some (39, true), [9, 10, 8, 8]⟩,
    ⟨some 43, .pick (.v 39) (.v 42) (.c (.bool false)), none, [8, 11]⟩,
    ⟨some 44, .mov (.v 43), none, [12, 11]⟩,
    ⟨some 45, .load true 1 (.v 2), some (44, true), [13]⟩,
    ⟨some 46, .bslice 3 1 1 [.int .i64 0] [(0, 1, .c (.int .i64 64))], some (44, true), [13]⟩,
    ⟨some 47, .call 42 [.v 45, .c (.int .i64 0), .c (.int .i64 1), .v 46], some (44, true), [14, 15, 13, 13]⟩,
    ⟨some 48, .pick (.v 44) (.v 47) (.c (.bool false)), none, [13, 16]⟩,
    ⟨some 49, .mov (.v 48), none, [17, 16]⟩,
    ⟨some 50, .load true 1 (.v 2), some (49, true), [18]⟩,
    ⟨some 51, .bslice 3 1 1 [.int .i64 0] [(0, 1, .c (.int .i64 0))], some (49, true), [18]⟩,
    ⟨some 52, .call 42 [.v 50, .c (.int .i64 0), .c (.int .i64 1), .v 51], some (49, true), [19, 20, 18, 18]⟩,
    ⟨some 53, .pick (.v 49) (.v 52) (.c (.bool false)), none, [18, 21]⟩,
    ⟨some 54, .mov (.v 53), none, [22, 21]⟩,
    ⟨some 55, .load true 1 (.v 2), some (54, true), [23]⟩,
    ⟨some 56, .bslice 3 1 1 [.int .i64 0] [(0, 1, .c (.int .i64 20))], some (54, true), [23]⟩,
    ⟨some 57, .call 42 [.v 55, .c (.int .i64 5), .c (.int .i64 8), .v 56], some (54, true), [24, 25, 23, 23]⟩,
    ⟨some 58, .pick (.v 54) (.v 57) (.c (.bool false)), none, [23, 26]⟩,
    ⟨some 59, .mov (.v 58), none, [27, 26]⟩,
    ⟨some 60, .load true 1 (.v 4), some (59, true), [28]⟩,
    ⟨some 61, .bslice 3 1 3 [.int .i64 0, .int .i64 0, .int .i64 0] [(0, 1, .c (.int .i64 8)), (1, 1, .c (.int .i64 50)), (2, 1, .c (.int .i64 (-20)))], some (59, true), [28]⟩,
    ⟨some 62, .call 42 [.v 60, .c (.int .i64 1), .c (.int .i64 8), .v 61], some (59, true), [29, 30, 28, 28]⟩,
    ⟨some 63, .pick (.v 59) (.v 62) (.c (.bool false)), none, [28, 31]⟩,
    ⟨some 5, .mov (.v 63), none, [32, 31, 0, 1, 2, 3, 4, 5, 6, 7, 8, 9, 10, 11, 12, 13, 14, 15, 16, 17, 18, 19, 20, 21, 22, 23, 24, 25, 26, 27, 28, 29, 30, 31, 32]⟩])
  (.ghost (.keep [2, 3, 5]) (.seq (.reg [⟨some 65, .build [.int .i64 0, .int .i64 0] [(0, 1, .c (.int .i64 0)), (1, 1, .c (.int .i64 4))], none, []⟩,
    ⟨some 66, .build [.int .i64 0, .int .i64 0] [(0, 1, .c (.int .i64 0)), (1, 1, .c (.int .i64 (-3)))], none, []⟩,
    ⟨some 67, .bslice 60 2 2 [.int .i64 0, .int .i64 0, .int .i64 0, .int .i64 0] [(0, 2, .v 65), (2, 2, .v 66)], none, [0, 1]⟩,
    ⟨some 68, .load true 1 (.v 2), none, []⟩,
    ⟨some 69, .bslice 42 1 1 [.nsl] [(0, 1, .v 68)], none, [3]⟩,
    ⟨some 70, .bslice 3 1 1 [.int .i64 0] [(0, 1, .c (.int .i64 16))], none, []⟩,
    ⟨some 71, .call 29 [.c (.int .i64 10), .v 67, .v 69, .v 70], none, [2, 4, 5]⟩,
    ⟨some 64, .mov (.v 71), none, [6]⟩,
    ⟨some 72, .ext (.v 64) 0, none, [7]⟩,
    ⟨some 73, .ext (.v 64) 1, none, [7]⟩,
    ⟨some 6, .mov (.v 72), none, [8, 6, 0, 1, 2, 3, 4, 5, 6, 7, 8]⟩,
    ⟨some 7, .mov (.v 73), none, [9, 10, 0, 1, 2, 3, 4, 5, 6, 7, 8, 9, 10]⟩])
  (.ghost (.keep [2, 3, 5, 6, 7]) (.seq (.reg [⟨some 74, .mov (.v 7), none, []⟩,
    ⟨some 75, .mov (.v 74), none, [0]⟩,
    ⟨some 76, .mov (.v 6), some (75, true), [1]⟩,
    ⟨some 77, .bin .eql (.v 76) (.c (.int .i64 672)), some (75, true), [2, 1]⟩,
    ⟨some 78, .pick (.v 75) (.v 77) (.c (.bool false)), none, [1, 3]⟩,
    ⟨some 79, .mov (.v 78), none, [4, 1]⟩,
    ⟨some 80, .load true 1 (.v 2), some (79, true), [5]⟩,
    ⟨some 81, .build [.int .i64 0, .int .i64 0] [(0, 1, .c (.int .i64 (-64))), (1, 1, .c (.int .i64 0))], some (79, true), [5]⟩,
    ⟨some 82, .bslice 30 2 1 [.int .i64 0, .int .i64 0] [(0, 2, .v 81)], some (79, true), [7, 5]⟩,
    ⟨some 83, .call 36 [.v 80, .v 82], some (79, true), [6, 8, 5, 5]⟩,
    ⟨some 84, .un .not (.v 83), some (79, true), [9, 5]⟩,
    ⟨some 85, .pick (.v 79) (.v 84) (.c (.bool false)), none, [5, 10]⟩,
    ⟨some 86, .mov (.v 85), none, [11, 9]⟩,
    ⟨some 87, .load true 1 (.v 2), some (86, true), [12]⟩,
    ⟨some 88, .build [.int .i64 0, .int .i64 0] [(0, 1, .c (.int .i64 0)), (1, 1, .c (.int .i64 1))], some (86, true), [12]⟩,
    ⟨some 89, .bslice 30 2 1 [.int .i64 0, .int .i64 0] [(0, 2, .v 88)], some (86, true), [14, 12]⟩,
    ⟨some 90, .call 36 [.v 87, .v 89], some (86, true), [13, 15, 12, 12]⟩,
    ⟨some 91, .pick (.v 86) (.v 90) (.c (.bool false)), none, [12, 16]⟩,
    ⟨some 92, .mov (.v 91), none, [17, 16]⟩,
    ⟨some 93, .load true 1 (.v 2), some (92, true), [18]⟩,
    ⟨some 94, .build [.int .i64 0, .int .i64 0] [(0, 1, .c (.int .i64 64)), (1, 1, .c (.int .i64 64))], some (92, true), [18]⟩,
    ⟨some 95, .bslice 30 2 1 [.int .i64 0, .int .i64 0] [(0, 2, .v 94)], some (92, true), [20, 18]⟩,
    ⟨some 96, .call 36 [.v 93, .v 95], some (92, true), [19, 21, 18, 18]⟩,
    ⟨some 97, .un .not (.v 96), some (92, true), [22, 18]⟩,
    ⟨some 98, .pick (.v 92) (.v 97) (.c (.bool false)), none, [18, 23]⟩,
    ⟨some 8, .mov (.v 98), none, [24, 22, 0, 1, 2, 3, 4, 5, 6, 7, 8, 9, 10, 11, 12, 13, 14, 15, 16, 17, 18, 19, 20, 21, 22, 23, 24]⟩])
  (.ghost (.keep [3, 5, 8]) (.seq (.reg [⟨some 99, .mov (.v 3), none, []⟩,
    ⟨some 100, .mov (.v 99), none, [0]⟩,
    ⟨some 101, .mov (.v 5), some (100, true), [1]⟩,
    ⟨some 102, .pick (.v 100) (.v 101) (.c (.bool false)), none, [1, 2]⟩,
    ⟨some 103, .mov (.v 102), none, [3, 1]⟩,
    ⟨some 104, .mov (.v 8), some (103, true), [4]⟩,
    ⟨some 105, .pick (.v 103) (.v 104) (.c (.bool false)), none, [4, 5]⟩,
    ⟨some 106, .mov (.v 105), none, [6, 4]⟩,
    ⟨some 107, .call 40 [.c (.int .i64 (-1)), .c (.int .i64 1), .c (.int .i64 5)], some (106, true), [7, 7]⟩,
    ⟨some 108, .call 23 [.v 107, .c (.int .i64 1)], some (106, true), [8, 8, 7]⟩,
    ⟨some 109, .un .not (.v 108), some (106, true), [9, 7]⟩,
    ⟨some 110, .pick (.v 106) (.v 109) (.c (.bool false)), none, [7, 10]⟩,
    ⟨some 111, .mov (.v 110), none, [11, 9]⟩,
    ⟨some 112, .call 40 [.c (.int .i64 5), .c (.int .i64 5), .c (.int .i64 5)], some (111, true), [12, 12]⟩,
    ⟨some 113, .call 23 [.v 112, .c (.int .i64 1)], some (111, true), [13, 13, 12]⟩,
    ⟨some 114, .pick (.v 111) (.v 113) (.c (.bool false)), none, [12, 14]⟩,
    ⟨some 115, .mov (.v 114), none, [15, 14]⟩,
    ⟨some 116, .bslice 3 1 1 [.int .i64 0] [(0, 1, .c (.int .i64 3))], some (115, true), [16]⟩,
    ⟨some 117, .build [.int .i64 0, .int .i64 0] [(0, 1, .c (.int .i64 3)), (1, 1, .c (.int .i64 4))], some (115, true), [16]⟩,
    ⟨some 118, .bslice 30 2 1 [.int .i64 0, .int .i64 0] [(0, 2, .v 117)], some (115, true), [18, 16]⟩,
    ⟨some 119, .call 34 [.v 116, .v 118], some (115, true), [17, 19, 16, 16]⟩,
    ⟨some 120, .pick (.v 115) (.v 119) (.c (.bool false)), none, [16, 20]⟩,
    ⟨some 121, .mov (.v 120), none, [21, 20]⟩,
    ⟨some 122, .call 32 [.c .nsl, .c (.int .i64 0)], some (121, true), [22, 22]⟩,
    ⟨some 123, .pick (.v 121) (.v 122) (.c (.bool false)), none, [22, 23]⟩,
    ⟨some 0, .mov (.v 123), none, [24, 23, 0, 1, 2, 3, 4, 5, 6, 7, 8, 9, 10, 11, 12, 13, 14, 15, 16, 17, 18, 19, 20, 21, 22, 23, 24]⟩])
  (.ghost (.keep [0]) .ret)))))))))))))))))))
theorem fn11 : factOf Tryd.prog 11 = some (ac11.strip, [.tmp 0], 124) := by kernel_rfl
theorem ok11 : ac11.okAll = true := by kernel_rfl

end Go.Abs.A09
namespace Go.Abs.A09
open Go Go.Abs Go.Proofs
set_option maxRecDepth 100000
set_option linter.unusedVariables false
set_option linter.unusedSimpArgs false
attribute [local simp ↓] awp_skip awp_seq awp_cond awp_block awp_exit awp_ret awp_reg awp_draw awp_ghost awp_loop awp_rfun awpR_nil awpR_cons awpX_nil awpX_0 awpX_1 awpX_2 awpI_eq awpI_t awpI_f awpStep_eq
attribute [local simp] condL_true condL_false condL_dec evDel evV evN evS evA initFr Ghost.app Fr.var Fr.blk Fr.ff FF.val Abs.look Fr.app Fr.erase Fr.noSlot AV.noSlot AV.noSlotL Blk.noSlot Fr.spoken AV.fz AV.fzL Blk.fz binV binI shI binS unV fillA FF.parts FF.vals headO intO boundO lenV scalarEq leavesEq AV.aggc AV.cells FF.read FF.rows AV.one PV.one chunk freshB newS pickV retK evRs evRl evR resOf mkTup mkAgg allP cloOf okP_nil okX_p okX okP addN Del.noSlot Del.owners Rnd reify_p normM insM Fr.back Fr.backV Fr.setPs normV insV
attribute [local simp] FF.reify FF.reifyL PV.flat
theorem b40 (f p t : Int) : Best Tryd.prog 40 [.int .i64 f, .int .i64 p, .int .i64 t] (.p (.agg [.sl 3 [[.int .i64 f, .int .i64 p, .int .i64 t]]])) := by
  refine best mixed fn40 ok40 (by simp) ?_
  simp -dsimp [ac40, List.range, List.range.loop]
theorem b42 (r : List T3) (num den : Int) (l : List Int) (hr : r.length ≤ 9223372036854775807) : Best Tryd.prog 42 [.agg [.sl 3 (r.map tRow)], .int .i64 num, .int .i64 den, .sl 1 (l.map intRow)] (.p (.bool (decide ((scaS r l).1 = num) && decide ((scaS r l).2 = den)))) := by
  refine best mixed fn42 ok42 (by simp) ?_
  simp -dsimp [ac42]
  refine call_p (b25 r l hr) rfl (by simp) ?_
  simp -dsimp
theorem b41 (a : Ax) (l : List (Int × Int)) (hl : a.m.length ≤ 9223372036854775807) (hl2 : l.length ≤ 9223372036854775807) (h0 : chkS a = 0) (h1 : ∀ x ∈ l, normS a x.1 = x.2) : Best Tryd.prog 41 [.agg (axC a), .sl 2 (l.map pRow)] (.p (.bool true)) := by
  refine best mixed fn41 ok41 (by simp) ?_
  have h14 := b14 a hl
  have h16 := fun v => b16 a v hl
  rw [h0] at h14
  generalize normS a = no at *
  obtain ⟨nm, lo, df, hi, m⟩ := a
  clear h0
  simp -dsimp [ac41, axC] at h14 h16 ⊢
  refine loopC l.length (fun k => ⟨[(2, .ptr (2, 0) 5 0 0), (7, .p (.sl 2 (l.map pRow))), (8, .p (.int .i64 l.length)), (9, .p (.int .i64 k))], [((2, 0), .box [.p (.str (ba nm)), .p (.int .i64 lo), .p (.int .i64 df), .p (.int .i64 hi), .p (.sl 2 (m.map pRow))])]⟩) (fun _ => True) (fun k hk _ => ?_) trivial (by simp)
  by_cases h : k < l.length
  · obtain ⟨⟨x, y⟩, ex⟩ : ∃ x, l[k] = x := ⟨_, rfl⟩
    have hx : l[k]? = some (x, y) := by rw [List.getElem?_eq_getElem h, ex]
    have w : R ((k : Int) + 1) := ⟨by omega, by omega⟩
    have e := h1 _ (List.mem_of_getElem? hx)
    dsimp only at e
    simp -dsimp [h, ex, pRow]
    refine call_p (h16 x) rfl (by simp) ?_
    simp -dsimp [e, wr w, h]
  · have : k = l.length := by omega
    subst this
    simp -dsimp
    refine call_p h14 rfl (by simp) ?_
    simp -dsimp
/-! ### the examples -/
def a0 : Ax := ⟨[119, 103, 104, 116], 100, 400, 900, [(100, -64), (400, 0), (700, 16), (900, 64)]⟩
theorem a0_ok : AXP a0 := by
  refine ⟨by decide, by decide, by decide, by decide, by decide, by decide, by decide, by decide, by decide, by decide, by decide⟩
theorem a0_chk : chkS a0 = 0 := chk_ok (by decide) a0_ok
theorem a0_norm : ∀ x ∈ [((100 : Int), (-64 : Int)), (250, -32), (400, 0), (550, 8), (800, 40), (2000, 64), (101, -64)], normS a0 x.1 = x.2 := by
  intro x hx
  unfold normS
  rw [if_pos a0_chk]
  revert x
  decide +kernel
theorem gcd_l (m n : Nat) {a b : Int} (ha : a = m) (hb : b = n) : gcdI a b = (Nat.gcd m n : Nat) := by subst ha hb; exact gcdI_nat n m
theorem sc1 : scaS [⟨0, 32, 64⟩] [16] = (1, 2) := by
  simp [scaS, mulS, timesS, strS, rawS, gcdI, RI, CL, TE, CO, RS]
theorem sc2 : scaS [⟨0, 32, 64⟩] [32] = (1, 1) := by
  simp [scaS, mulS, timesS, strS, rawS, gcdI, RI, CL, TE, CO, RS]
theorem sc3 : scaS [⟨0, 32, 64⟩] [48] = (1, 2) := by
  simp [scaS, mulS, timesS, strS, rawS, gcdI, RI, CL, TE, CO, RS]
theorem sc4 : scaS [⟨0, 32, 64⟩] [64] = (0, 1) := by
  simp [scaS, mulS, timesS, strS, rawS, gcdI, RI, CL, TE, CO, RS]
theorem sc5 : scaS [⟨0, 32, 64⟩] [0] = (0, 1) := by
  simp [scaS, mulS, timesS, strS, rawS, gcdI, RI, CL, TE, CO, RS]
theorem sc6 : scaS [⟨0, 32, 64⟩] [20] = (5, 8) := by
  simp [scaS, mulS, timesS, strS, rawS, gcdI, RI, CL, TE, CO, RS]
theorem sc7 : scaS [⟨0, 32, 64⟩, ⟨-64, 0, 9⟩, ⟨-30, -30, -10⟩] [8, 50, -20] = (1, 8) := by
  simp [scaS, mulS, timesS, strS, rawS, gcdI, RI, CL, TE, CO, RS]
theorem rs12 : RS 1 2 := ⟨by decide, by decide, by decide, by decide, by simp [gcdI]⟩
theorem pa1 {y : Int} (h : SM y) : partS y 1 2 = (roundS (64 * y * 1) 2, true) := if_pos ⟨h, rs12⟩
theorem gr1 {y : Int} (h : SM y) : growS [[⟨0, 32, 64⟩]] [16] (0, y) = some (roundS (64 * y * 1) 2) := by
  have e : ([[⟨0, 32, 64⟩]] : List (List T3)).getD ((0 : Int), y).1.toNat [] = [⟨0, 32, 64⟩] := rfl
  unfold growS
  rw [e, sc1, pa1 h]
  rw [if_pos ⟨by dsimp only; omega, by simp, by decide, rfl⟩]
theorem su1 : sumS 10 [(0, 4), (0, -3)] [[⟨0, 32, 64⟩]] [16] = (672, true) := by
  have e : sumL [[⟨0, 32, 64⟩]] [16] (64 * 10) [(0, 4), (0, -3)] = some 672 := by
    unfold sumL
    simp only [List.foldl_cons, List.foldl_nil, Option.bind_some, gr1 (show SM 4 by decide), gr1 (show SM (-3) by decide), Option.map_some]
    decide
  unfold sumS
  rw [if_pos ⟨by decide, by decide, by decide⟩, e]
theorem b32n : Best Tryd.prog 32 [.nsl, .int .i64 0] (.p (.bool true)) := by
  have := b32 [] 0 (by simp)
  rw [decide_eq_true (by decide : RG [] 0)] at this
  exact Best.args (fun S xs h => Ps.cons_imp (fun v hv => hv.nsl_sl 2) (fun _ h => h) h) this
theorem b42t (r : List T3) (num den : Int) (l : List Int) (hr : r.length ≤ 9223372036854775807) (h : scaS r l = (num, den)) : Best Tryd.prog 42 [.agg [.sl 3 (r.map tRow)], .int .i64 num, .int .i64 den, .sl 1 (l.map intRow)] (.p (.bool true)) := by
  have := b42 r num den l hr
  rw [h] at this; simpa using this
set_option maxHeartbeats 4000000 in
theorem b11 : Best Tryd.prog 11 [] (.p (.bool true)) := by
  refine best mixed fn11 ok11 (by simp) ?_
  have h41 := b41 a0 [((100 : Int), (-64 : Int)), (250, -32), (400, 0), (550, 8), (800, 40), (2000, 64), (101, -64)] (by decide) (by decide) a0_chk a0_norm
  simp -dsimp [ac11, List.range, List.range.loop]
  refine call_p (b40 0 32 64) rfl (by simp) ?_
  simp -dsimp [List.range, List.range.loop]
  refine call_f h41 (by simp [axC, a0, pRow, ba]) rfl (by simp) ?_
  simp -dsimp [List.range, List.range.loop]
  refine call_f (b42t [⟨0, 32, 64⟩] 1 2 [16] (by simp) sc1) (by simp [tRow, intRow]) rfl (by simp) ?_
  simp -dsimp [List.range, List.range.loop]
  refine call_f (b42t [⟨0, 32, 64⟩] 1 1 [32] (by simp) sc2) (by simp [tRow, intRow]) rfl (by simp) ?_
  simp -dsimp [List.range, List.range.loop]
  refine call_f (b42t [⟨0, 32, 64⟩] 1 2 [48] (by simp) sc3) (by simp [tRow, intRow]) rfl (by simp) ?_
  simp -dsimp [List.range, List.range.loop]
  refine call_f (b42t [⟨0, 32, 64⟩] 0 1 [64] (by simp) sc4) (by simp [tRow, intRow]) rfl (by simp) ?_
  simp -dsimp [List.range, List.range.loop]
  refine call_f (b42t [⟨0, 32, 64⟩] 0 1 [0] (by simp) sc5) (by simp [tRow, intRow]) rfl (by simp) ?_
  simp -dsimp [List.range, List.range.loop]
  refine call_f (b42t [⟨0, 32, 64⟩] 5 8 [20] (by simp) sc6) (by simp [tRow, intRow]) rfl (by simp) ?_
  simp -dsimp [List.range, List.range.loop]
  refine call_f (b42t [⟨0, 32, 64⟩, ⟨-64, 0, 9⟩, ⟨-30, -30, -10⟩] 1 8 [8, 50, -20] (by simp) sc7) (by simp [tRow, intRow]) rfl (by simp) ?_
  simp -dsimp [List.range, List.range.loop]
  have h29 := b29 (base := 10) (l := [((0 : Int), (4 : Int)), (0, -3)]) (rs := [[⟨0, 32, 64⟩]]) (a := [16]) (by simp [R]) (by simp) (by simp) (by simp)
  rw [su1] at h29
  refine call_f h29 (by simp [tRow, intRow, pRow, regRow]) rfl (by simp) ?_
  simp -dsimp [List.range, List.range.loop]
  have h36 := fun x y => b36 [⟨0, 32, 64⟩] [((x : Int), (y : Int))] (by simp) (by simp)
  have t1 := h36 (-64) 0
  rw [decide_eq_false (by decide : ¬ TO [⟨0, 32, 64⟩] [(-64, 0)])] at t1
  have t2 := h36 0 1
  rw [decide_eq_true (by decide : TO [⟨0, 32, 64⟩] [(0, 1)])] at t2
  have t3 := h36 64 64
  rw [decide_eq_false (by decide : ¬ TO [⟨0, 32, 64⟩] [(64, 64)])] at t3
  refine call_f t1 (by simp [tRow, pRow]) rfl (by simp) ?_
  simp -dsimp [List.range, List.range.loop]
  refine call_f t2 (by simp [tRow, pRow]) rfl (by simp) ?_
  simp -dsimp [List.range, List.range.loop]
  refine call_f t3 (by simp [tRow, pRow]) rfl (by simp) ?_
  simp -dsimp [List.range, List.range.loop]
  refine call_p (b40 (-1) 1 5) rfl (by simp) ?_
  simp -dsimp [List.range, List.range.loop]
  have r1 := b23 [⟨-1, 1, 5⟩] 1 (by simp)
  rw [decide_eq_false (by decide : ¬ RI [⟨-1, 1, 5⟩] 1)] at r1
  refine call_p r1 rfl (by simp) ?_
  simp -dsimp [List.range, List.range.loop]
  refine call_p (b40 5 5 5) rfl (by simp) ?_
  simp -dsimp [List.range, List.range.loop]
  have r2 := b23 [⟨5, 5, 5⟩] 1 (by simp)
  rw [decide_eq_true (by decide : RI [⟨5, 5, 5⟩] 1)] at r2
  refine call_p r2 rfl (by simp) ?_
  simp -dsimp [List.range, List.range.loop]
  have r3 := b34 [3] [(3, 4)] (by simp) (by simp)
  rw [decide_eq_true (by decide : WI [3] [(3, 4)])] at r3
  refine call_f r3 (by simp [intRow, pRow]) rfl (by simp) ?_
  simp -dsimp [List.range, List.range.loop]
  refine call_p b32n rfl (by simp) ?_
  simp -dsimp
end Go.Abs.A09
namespace Go.Abs.A09
open Go Go.Abs Go.Proofs
set_option maxRecDepth 100000
set_option linter.unusedVariables false
set_option linter.unusedSimpArgs false
attribute [local simp ↓] awp_skip awp_seq awp_cond awp_block awp_exit awp_ret awp_reg awp_draw awp_ghost awp_loop awp_rfun awpR_nil awpR_cons awpX_nil awpX_0 awpX_1 awpX_2 awpI_eq awpI_t awpI_f awpStep_eq
attribute [local simp] condL_true condL_false condL_dec evDel evV evN evS evA initFr Ghost.app Fr.var Fr.blk Fr.ff FF.val Abs.look Fr.app Fr.erase Fr.noSlot AV.noSlot AV.noSlotL Blk.noSlot Fr.spoken AV.fz AV.fzL Blk.fz binV binI shI binS unV fillA FF.parts FF.vals headO intO boundO lenV scalarEq leavesEq AV.aggc AV.cells FF.read FF.rows AV.one PV.one chunk freshB newS pickV retK evRs evRl evR resOf mkTup mkAgg allP cloOf okP_nil okX_p okX okP addN Del.noSlot Del.owners Rnd reify_p normM insM Fr.back Fr.backV Fr.setPs normV insV
attribute [local simp] FF.reify FF.reifyL PV.flat
def andS (x : Int) : Int := ((BitVec.ofInt 64 x &&& BitVec.ofInt 64 65535).toNat : Nat)
theorem andS_bd (x : Int) : 0 ≤ andS x ∧ andS x ≤ 65535 := by
  unfold andS
  refine ⟨by omega, ?_⟩
  have : (BitVec.ofInt 64 x &&& BitVec.ofInt 64 65535).toNat ≤ 65535 := by
    rw [BitVec.toNat_and]
    exact Nat.le_trans Nat.and_le_right (by decide)
  omega
def numS (l : List Int) (k : Nat) : Int := match l[k]? with
  | some x => andS x
  | none => 0
theorem numS_bd (l : List Int) (k : Nat) : 0 ≤ numS l k ∧ numS l k ≤ 65535 := by
  unfold numS
  cases l[k]? with
  | some x => exact andS_bd x
  | none => simp
theorem and_wrap (x : Int) : IntKind.i64.wrap ((BitVec.ofInt IntKind.i64.bits x &&& BitVec.ofInt IntKind.i64.bits 65535).toNat) = andS x := by
  have h := andS_bd x
  exact wr (n := andS x) ⟨by omega, by omega⟩
theorem b43 (l : List Int) (k : Nat) : Best Tryd.prog 43 [.sl 1 (l.map intRow), .int .i64 k] (.p (.int .i64 (numS l k))) := by
  refine best mixed fn43 ok43 (by simp) ?_
  by_cases h : k < l.length
  · obtain ⟨x, ex⟩ : ∃ x, l[k] = x := ⟨_, rfl⟩
    have hx : l[k]? = some x := by rw [List.getElem?_eq_getElem h, ex]
    have e : numS l k = andS x := by unfold numS; rw [hx]
    have ha := and_wrap x
    simp -dsimp [ac43, h, ex, intRow, e]
    exact ha
  · have e : numS l k = 0 := by unfold numS; rw [List.getElem?_eq_none (by omega)]
    simp -dsimp [ac43, h, e]
def peakS (a : Int) : Int := if a / 129 % 7 = 2 then 64 else if a / 129 % 7 = 3 then -64 else if a / 129 % 7 = 4 then 32 else if a / 129 % 7 = 5 then -16 else if a / 129 % 7 = 6 then a % 129 - 64 else 0
def mtS (a b c : Int) : T3 := if 0 < peakS a then ⟨min (b % 65) (peakS a), peakS a, max (c % 65) (peakS a)⟩ else if peakS a < 0 then ⟨min (-(b % 65)) (peakS a), peakS a, max (-(c % 65)) (peakS a)⟩ else ⟨-(b % 65), 0, c % 65⟩
theorem mt_def (a b c : Int) : mtS a b c = if 0 < peakS a then ⟨min (b % 65) (peakS a), peakS a, max (c % 65) (peakS a)⟩ else if peakS a < 0 then ⟨min (-(b % 65)) (peakS a), peakS a, max (-(c % 65)) (peakS a)⟩ else ⟨-(b % 65), 0, c % 65⟩ := rfl
theorem peak_bd {a : Int} (h : 0 ≤ a) : -64 ≤ peakS a ∧ peakS a ≤ 64 := by unfold peakS; omega
theorem mt_ok {a b c : Int} (ha : 0 ≤ a) : TE (mtS a b c) := by
  have h := peak_bd ha
  unfold mtS
  generalize peakS a = p at *
  split
  · unfold TE; dsimp only; omega
  · split
    · unfold TE; dsimp only; omega
    · unfold TE; dsimp only; omega
theorem b55 {a b c : Int} (ha : 0 ≤ a) (ha2 : a ≤ 65535) (hb : 0 ≤ b) (hb2 : b ≤ 65535) (hc : 0 ≤ c) (hc2 : c ≤ 65535) : Best Tryd.prog 55 [.int .i64 a, .int .i64 b, .int .i64 c] (.p (.agg (tRow (mtS a b c)))) := by
  refine best mixed fn55 ok55 (by simp) ?_
  have e1 : a.tmod 129 = a % 129 := Int.tmod_eq_emod_of_nonneg ha
  have e2 : a.tdiv 129 = a / 129 := Int.tdiv_eq_ediv_of_nonneg ha
  have e3 : (a / 129).tmod 7 = a / 129 % 7 := Int.tmod_eq_emod_of_nonneg (by omega)
  have e4 : b.tmod 65 = b % 65 := Int.tmod_eq_emod_of_nonneg hb
  have e5 : c.tmod 65 = c % 65 := Int.tmod_eq_emod_of_nonneg hc
  have w1 : R (a % 129 - 64) := ⟨by omega, by omega⟩
  have w2 : R (a / 129) := ⟨by omega, by omega⟩
  have w3 : R (0 - b % 65) := ⟨by omega, by omega⟩
  have w4 : R (0 - c % 65) := ⟨by omega, by omega⟩
  have z1 : 0 - b % 65 = -(b % 65) := by omega
  have z2 : 0 - c % 65 = -(c % 65) := by omega
  have w3' : IntKind.i64.wrap (-(b % 65)) = -(b % 65) := wr ⟨by omega, by omega⟩
  have w4' : IntKind.i64.wrap (-(c % 65)) = -(c % 65) := wr ⟨by omega, by omega⟩
  have hp : ∀ m : Nat, (m : Int) = a / 129 % 7 → ([[PV.int .i64 0], [PV.int .i64 0], [PV.int .i64 64], [PV.int .i64 (-64)], [PV.int .i64 32], [PV.int .i64 (-16)], [PV.int .i64 (a % 129 - 64)]] : List (List PV))[m]? = some [.int .i64 (peakS a)] := by
    intro m hm
    unfold peakS
    rw [← hm]
    match m with
    | 0 => rfl
    | 1 => rfl
    | 2 => rfl
    | 3 => rfl
    | 4 => rfl
    | 5 => rfl
    | 6 => rfl
    | k + 7 => omega
  obtain ⟨m, hm⟩ := Int.eq_ofNat_of_zero_le (show 0 ≤ a / 129 % 7 by omega)
  have hp := hp m hm.symm
  have hm7 : (m : Int) < 7 := by omega
  have hm7' : m < 7 := by omega
  have hml := mt_def a b c
  obtain ⟨hh, hp'⟩ := List.getElem?_eq_some_iff.1 hp
  generalize peakS a = p at *
  by_cases q1 : 0 < p
  · rw [if_pos q1] at hml
    simp -dsimp [ac55, List.range, List.range.loop, e1, e2, e3, e4, e5, wr w1, wr w2, hm, hm7, hm7', hp, hp', q1, tRow, hml]
  · rw [if_neg q1] at hml
    by_cases q2 : p < 0
    · rw [if_pos q2] at hml
      simp -dsimp [ac55, List.range, List.range.loop, e1, e2, e3, e4, e5, wr w1, wr w2, hm, hm7, hm7', hp, hp', q1, q2, tRow, hml, z1, z2, w3', w4']
    · rw [if_neg q2] at hml
      simp -dsimp [ac55, List.range, List.range.loop, e1, e2, e3, e4, e5, wr w1, wr w2, hm, hm7, hm7', hp, hp', q1, q2, tRow, hml, z1, z2, w3', w4']
end Go.Abs.A09
