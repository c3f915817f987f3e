/- A part of the proof: an abstract reading of the model, contracts of functions. -/
import Derived.Test.YtnonjaonklngpaaDoorM4
namespace Go.Abs.A09
open Go Go.Abs Go.Proofs
set_option maxRecDepth 100000
set_option linter.unusedVariables false
set_option linter.unusedSimpArgs false
attribute [local simp ↓] awp_skip awp_seq awp_cond awp_block awp_exit awp_ret awp_reg awp_draw awp_ghost awp_loop awp_rfun awpR_nil awpR_cons awpX_nil awpX_0 awpX_1 awpX_2 awpI_eq awpI_t awpI_f awpStep_eq
attribute [local simp] condL_true condL_false condL_dec evDel evV evN evS evA initFr Ghost.app Fr.var Fr.blk Fr.ff FF.val Abs.look Fr.app Fr.erase Fr.noSlot AV.noSlot AV.noSlotL Blk.noSlot Fr.spoken AV.fz AV.fzL Blk.fz binV binI shI binS unV fillA FF.parts FF.vals headO intO boundO lenV scalarEq leavesEq AV.aggc AV.cells FF.read FF.rows AV.one PV.one chunk freshB newS pickV retK evRs evRl evR resOf mkTup mkAgg allP cloOf okP_nil okX_p okX okP addN Del.noSlot Del.owners Rnd reify_p normM insM Fr.back Fr.backV Fr.setPs normV insV
def idxS {α : Type} (q : α → Bool) (l : List α) : Int := match l.findIdx? q with
  | some i => (i : Int)
  | none => -1
theorem idxS_hit {α : Type} {q : α → Bool} {l : List α} {k : Nat} {x : α} (hk : l[k]? = some x) (h1 : ∀ y ∈ l.take k, q y = false) (h2 : q x = true) : idxS q l = k := by
  have hlt : k < l.length := (List.getElem?_eq_some_iff.1 hk).1
  have : l.findIdx? q = some k := by
    rw [List.findIdx?_eq_some_iff_getElem]
    refine ⟨hlt, ?_, ?_⟩
    · rw [(List.getElem?_eq_some_iff.1 hk).2, h2]
    · intro j hj
      have := h1 l[j] (List.mem_take_iff_getElem.2 ⟨j, by omega, rfl⟩)
      simp [this]
  simp [idxS, this]
theorem idxS_none {α : Type} {q : α → Bool} {l : List α} (h : ∀ y ∈ l, q y = false) : idxS q l = -1 := by
  have : l.findIdx? q = none := by
    rw [List.findIdx?_eq_none_iff]; intro x hx; simp [h x hx]
  simp [idxS, this]
theorem idxS_ge {α : Type} {q : α → Bool} {l : List α} : decide (0 ≤ idxS q l) = l.any q := by
  unfold idxS
  cases h : l.findIdx? q with
  | none =>
    rw [List.findIdx?_eq_none_iff] at h
    have : l.any q = false := by rw [List.any_eq_false]; intro x hx; simp [h x hx]
    simp [this]
  | some k =>
    rw [List.findIdx?_eq_some_iff_getElem] at h
    obtain ⟨hlt, hk, -⟩ := h
    have : l.any q = true := by rw [List.any_eq_true]; exact ⟨l[k], by simp, hk⟩
    simp [this]
theorem take_succ_all {α : Type} {p : α → Prop} {l : List α} {k : Nat} {x : α} (hk : l[k]? = some x) (h1 : ∀ y ∈ l.take k, p y) (h2 : p x) : ∀ y ∈ l.take (k + 1), p y := by
  intro y hy
  rw [List.take_add_one, hk] at hy
  simp at hy
  rcases hy with hy | rfl
  · exact h1 y hy
  · exact h2
def pRow (x : Int × Int) : List PV := [.int .i64 x.1, .int .i64 x.2]

theorem b82 {f : FuncId} {q : T3 → Bool} (hf : ∀ x : T3, Best Tryd.prog f [.agg (tRow x)] (.p (.bool (q x)))) (r : List (T3)) (hl : r.length ≤ 9223372036854775807) : Best Tryd.prog 82 [.sl 3 (r.map tRow), .clo (.func f) [] []] (.p (.int .i64 (idxS q r))) := by
  refine best mixed fn82 ok82 (by simp) ?_
  simp -dsimp [ac82]
  refine loopC r.length (fun k => ⟨[(0, .p (.sl 3 (r.map tRow))), (1, .p (.clo (.func f) [] [])), (7, .p (.int .i64 r.length)), (8, .p (.int .i64 k))], []⟩) (fun k => ∀ y ∈ r.take k, q y = false) (fun k hk hall => ?_) (by simp) (by simp)
  by_cases h : k < r.length
  · obtain ⟨x, ex⟩ : ∃ x, r[k] = x := ⟨_, rfl⟩
    have hx : r[k]? = some x := by simp [h, ex]
    have w : R ((k : Int) + 1) := ⟨by omega, by omega⟩
    have hfx := hf x
    have hit : q x = true → idxS q r = k := fun h2 => idxS_hit hx hall h2
    have go : q x = false → ∀ y ∈ r.take (k + 1), q y = false := fun h2 => take_succ_all (p := fun y => q y = false) hx hall h2
    generalize q x = b at *
    obtain ⟨f, p, t⟩ := x
    simp -dsimp [h, ex, tRow] at hfx ⊢
    refine call_p hfx rfl (by simp) ?_
    cases b with
    | true => simp -dsimp [hit]
    | false => simp -dsimp [wr w]; exact ⟨h, go rfl⟩
  · have : k = r.length := by omega
    subst this
    rw [List.take_length] at hall
    simp -dsimp [idxS_none hall]
theorem b58 {f : FuncId} {q : T3 → Bool} (hf : ∀ x : T3, Best Tryd.prog f [.agg (tRow x)] (.p (.bool (q x)))) (r : List (T3)) (hl : r.length ≤ 9223372036854775807) : Best Tryd.prog 58 [.sl 3 (r.map tRow), .clo (.func f) [] []] (.p (.bool (r.any q))) := by
  refine best mixed fn58 ok58 (by simp) ?_
  simp -dsimp [ac58]
  refine call_p (b82 hf r hl) rfl (by simp) ?_
  have := idxS_ge (q := q) (l := r)
  by_cases h : 0 ≤ idxS q r <;> simp only [h, decide_true, decide_false] at this <;> simp -dsimp [h, ← this]

theorem b102 {f : FuncId} {q : Int → Bool} (hf : ∀ x : Int, Best Tryd.prog f [.int .i64 x] (.p (.bool (q x)))) (r : List (Int)) (hl : r.length ≤ 9223372036854775807) : Best Tryd.prog 102 [.sl 1 (r.map intRow), .clo (.func f) [] []] (.p (.int .i64 (idxS q r))) := by
  refine best mixed fn102 ok102 (by simp) ?_
  simp -dsimp [ac102]
  refine loopC r.length (fun k => ⟨[(0, .p (.sl 1 (r.map intRow))), (1, .p (.clo (.func f) [] [])), (7, .p (.int .i64 r.length)), (8, .p (.int .i64 k))], []⟩) (fun k => ∀ y ∈ r.take k, q y = false) (fun k hk hall => ?_) (by simp) (by simp)
  by_cases h : k < r.length
  · obtain ⟨x, ex⟩ : ∃ x, r[k] = x := ⟨_, rfl⟩
    have hx : r[k]? = some x := by simp [h, ex]
    have w : R ((k : Int) + 1) := ⟨by omega, by omega⟩
    have hfx := hf x
    have hit : q x = true → idxS q r = k := fun h2 => idxS_hit hx hall h2
    have go : q x = false → ∀ y ∈ r.take (k + 1), q y = false := fun h2 => take_succ_all (p := fun y => q y = false) hx hall h2
    generalize q x = b at *
    
    simp -dsimp [h, ex, intRow] at hfx ⊢
    refine call_p hfx rfl (by simp) ?_
    cases b with
    | true => simp -dsimp [hit]
    | false => simp -dsimp [wr w]; exact ⟨h, go rfl⟩
  · have : k = r.length := by omega
    subst this
    rw [List.take_length] at hall
    simp -dsimp [idxS_none hall]
theorem b83 {f : FuncId} {q : Int → Bool} (hf : ∀ x : Int, Best Tryd.prog f [.int .i64 x] (.p (.bool (q x)))) (r : List (Int)) (hl : r.length ≤ 9223372036854775807) : Best Tryd.prog 83 [.sl 1 (r.map intRow), .clo (.func f) [] []] (.p (.bool (r.any q))) := by
  refine best mixed fn83 ok83 (by simp) ?_
  simp -dsimp [ac83]
  refine call_p (b102 hf r hl) rfl (by simp) ?_
  have := idxS_ge (q := q) (l := r)
  by_cases h : 0 ≤ idxS q r <;> simp only [h, decide_true, decide_false] at this <;> simp -dsimp [h, ← this]

theorem b89 {f : FuncId} {q : Int × Int → Bool} (hf : ∀ x : Int × Int, Best Tryd.prog f [.agg (pRow x)] (.p (.bool (q x)))) (r : List (Int × Int)) (hl : r.length ≤ 9223372036854775807) : Best Tryd.prog 89 [.sl 2 (r.map pRow), .clo (.func f) [] []] (.p (.int .i64 (idxS q r))) := by
  refine best mixed fn89 ok89 (by simp) ?_
  simp -dsimp [ac89]
  refine loopC r.length (fun k => ⟨[(0, .p (.sl 2 (r.map pRow))), (1, .p (.clo (.func f) [] [])), (7, .p (.int .i64 r.length)), (8, .p (.int .i64 k))], []⟩) (fun k => ∀ y ∈ r.take k, q y = false) (fun k hk hall => ?_) (by simp) (by simp)
  by_cases h : k < r.length
  · obtain ⟨x, ex⟩ : ∃ x, r[k] = x := ⟨_, rfl⟩
    have hx : r[k]? = some x := by simp [h, ex]
    have w : R ((k : Int) + 1) := ⟨by omega, by omega⟩
    have hfx := hf x
    have hit : q x = true → idxS q r = k := fun h2 => idxS_hit hx hall h2
    have go : q x = false → ∀ y ∈ r.take (k + 1), q y = false := fun h2 => take_succ_all (p := fun y => q y = false) hx hall h2
    generalize q x = b at *
    obtain ⟨f, p⟩ := x
    simp -dsimp [h, ex, pRow] at hfx ⊢
    refine call_p hfx rfl (by simp) ?_
    cases b with
    | true => simp -dsimp [hit]
    | false => simp -dsimp [wr w]; exact ⟨h, fun a b hab => go rfl (a, b) hab⟩
  · have : k = r.length := by omega
    subst this
    rw [List.take_length] at hall
    simp -dsimp [idxS_none hall]
theorem b70 {f : FuncId} {q : Int × Int → Bool} (hf : ∀ x : Int × Int, Best Tryd.prog f [.agg (pRow x)] (.p (.bool (q x)))) (r : List (Int × Int)) (hl : r.length ≤ 9223372036854775807) : Best Tryd.prog 70 [.sl 2 (r.map pRow), .clo (.func f) [] []] (.p (.bool (r.any q))) := by
  refine best mixed fn70 ok70 (by simp) ?_
  simp -dsimp [ac70]
  refine call_p (b89 hf r hl) rfl (by simp) ?_
  have := idxS_ge (q := q) (l := r)
  by_cases h : 0 ≤ idxS q r <;> simp only [h, decide_true, decide_false] at this <;> simp -dsimp [h, ← this]
end Go.Abs.A09
