/- A part of the proof: an abstract reading of the model, contracts of functions. -/
import Derived.Test.YtnonjaonklngpaaDoorM5
import Derived.Test.YtnonjaonklngpaaDoorChecked
import Derived.Lib.Strings
import Derived.Lib.Slices
import Derived.Lib.Walk
import Derived.Lib.Bytealg
namespace Go.Abs.A09
open Go Go.Abs Go.Proofs
set_option maxRecDepth 100000
set_option linter.unusedVariables false
set_option linter.unusedSimpArgs false
attribute [local simp ↓] awp_skip awp_seq awp_cond awp_block awp_exit awp_ret awp_reg awp_draw awp_ghost awp_loop awp_rfun awpR_nil awpR_cons awpX_nil awpX_0 awpX_1 awpX_2 awpI_eq awpI_t awpI_f awpStep_eq
attribute [local simp] condL_true condL_false condL_dec evDel evV evN evS evA initFr Ghost.app Fr.var Fr.blk Fr.ff FF.val Abs.look Fr.app Fr.erase Fr.noSlot AV.noSlot AV.noSlotL Blk.noSlot Fr.spoken AV.fz AV.fzL Blk.fz binV binI shI binS unV fillA FF.parts FF.vals headO intO boundO lenV scalarEq leavesEq AV.aggc AV.cells FF.read FF.rows AV.one PV.one chunk freshB newS pickV retK evRs evRl evR resOf mkTup mkAgg allP cloOf okP_nil okX_p okX okP addN Del.noSlot Del.owners Rnd reify_p normM insM Fr.back Fr.backV Fr.setPs normV insV
/-! ### regions, ranges, coordinates -/
def RI (r : List T3) (n : Int) : Prop := 0 ≤ n ∧ n ≤ 3 ∧ r.length = n ∧ ∀ t ∈ r, TE t
instance {r : List T3} {n : Int} : Decidable (RI r n) := inferInstanceAs (Decidable (_ ∧ _ ∧ _ ∧ _))
theorem anyTE (r : List T3) : (r.any fun x => !decide (TE x)) = !decide (∀ t ∈ r, TE t) := by
  by_cases h : ∀ t ∈ r, TE t
  · rw [decide_eq_true h, List.any_eq_false.2 (fun x hx => by simp [h x hx])]; rfl
  · rw [decide_eq_false h, List.any_eq_true.2 ?_]
    · rfl
    · simpa using h
theorem b23 (r : List T3) (n : Int) (hl : r.length ≤ 9223372036854775807) : Best Tryd.prog 23 [.agg [.sl 3 (r.map tRow)], .int .i64 n] (.p (.bool (decide (RI r n)))) := by
  refine best mixed fn23 ok23 (by simp) ?_
  by_cases h1 : 0 ≤ n
  rotate_left
  · have : ¬ RI r n := fun h => h1 h.1
    simp -dsimp [ac23, h1, this]
  by_cases h2 : n ≤ 3
  rotate_left
  · have : ¬ RI r n := fun h => h2 h.2.1
    simp -dsimp [ac23, h1, h2, this]
  by_cases h3 : (r.length : Int) = n
  rotate_left
  · have : ¬ RI r n := fun h => h3 h.2.2.1
    simp -dsimp [ac23, h1, h2, h3, this]
  have hc := b58 b56 r hl
  rw [anyTE] at hc
  have e : decide (RI r n) = decide (∀ t ∈ r, TE t) := decide_eq_decide.2 ⟨fun h => h.2.2.2, fun h => ⟨h1, h2, h3, h⟩⟩
  rw [e]
  generalize decide (∀ t ∈ r, TE t) = b at *
  simp -dsimp [ac23, h1, h2, h3]
  refine call_p hc rfl (by simp) ?_
  simp -dsimp
theorem b24 (r : List T3) (n : Int) : Best Tryd.prog 24 [.agg [.sl 3 (r.map tRow)], .int .i64 n] (.p (.bool (decide (RI r n)))) := by
  refine best mixed fn24 ok24 (by simp) ?_
  by_cases h1 : n < 0
  · have : ¬ RI r n := fun h => by have := h.1; omega
    simp -dsimp [ac24, h1, this]
  by_cases h2 : 3 < n
  · have : ¬ RI r n := fun h => by have := h.2.1; omega
    simp -dsimp [ac24, h1, h2, this]
  by_cases h3 : (r.length : Int) = n
  rotate_left
  · have : ¬ RI r n := fun h => h3 h.2.2.1
    simp -dsimp [ac24, h1, h2, h3, this]
  subst h3
  have h1' : ¬ ((r.length : Int) < 0) := by omega
  simp -dsimp [ac24, h1', h2]
  refine loopC r.length (fun k => ⟨[(1, .p (.int .i64 r.length)), (2, .ptr (2, 0) 1 0 0), (5, .p (.int .i64 k))], [((2, 0), .box [.p (.sl 3 (r.map tRow))])]⟩) (fun k => ∀ y ∈ r.take k, TE y) (fun k hk hall => ?_) (by simp) (by simp)
  by_cases h : k < r.length
  · obtain ⟨x, ex⟩ : ∃ x, r[k] = x := ⟨_, rfl⟩
    have hx : r[k]? = some x := by simp [h, ex]
    have w : R ((k : Int) + 1) := ⟨by omega, by omega⟩
    have hfx := b59 x
    have no : ¬ TE x → ¬ RI r r.length := fun h2 h4 => h2 (h4.2.2.2 x (List.mem_of_getElem? hx))
    have go : TE x → ∀ y ∈ r.take (k + 1), TE y := fun h2 => take_succ_all (p := TE) hx hall h2
    by_cases hT : TE x
    · rw [decide_eq_true hT] at hfx
      have go' := go hT
      obtain ⟨f, p, t⟩ := x
      simp -dsimp [h, ex, tRow] at hfx ⊢
      refine call_p hfx rfl (by simp) ?_
      simp -dsimp [wr w]
      exact ⟨h, go'⟩
    · rw [decide_eq_false hT] at hfx
      have no' := no hT
      obtain ⟨f, p, t⟩ := x
      simp -dsimp [h, ex, tRow] at hfx ⊢
      refine call_p hfx rfl (by simp) ?_
      simp -dsimp [no']
  · have : k = r.length := by omega
    subst this
    rw [List.take_length] at hall
    have : RI r r.length := ⟨by omega, by omega, rfl, hall⟩
    simp -dsimp [this]
def CL (at' : List Int) : Prop := at'.length ≤ 3 ∧ ∀ n ∈ at', CO n
instance {l : List Int} : Decidable (CL l) := inferInstanceAs (Decidable (_ ∧ _))
theorem anyCO (r : List Int) : (r.any fun x => !decide (CO x)) = !decide (∀ t ∈ r, CO t) := by
  by_cases h : ∀ t ∈ r, CO t
  · rw [decide_eq_true h, List.any_eq_false.2 (fun x hx => by simp [h x hx])]; rfl
  · rw [decide_eq_false h, List.any_eq_true.2 ?_]
    · rfl
    · simpa using h
theorem b60 (l : List Int) : Best Tryd.prog 60 [.sl 1 (l.map intRow)] (.p (.bool (decide (CL l)))) := by
  refine best mixed fn60 ok60 (by simp) ?_
  by_cases h1 : l.length ≤ 3
  rotate_left
  · have : ¬ CL l := fun h => h1 h.1
    have h1' : ¬ ((l.length : Int) ≤ 3) := by omega
    simp -dsimp [ac60, h1', this]
  have hc := b83 b84 l (by omega)
  rw [anyCO] at hc
  have e : decide (CL l) = decide (∀ t ∈ l, CO t) := decide_eq_decide.2 ⟨fun h => h.2, fun h => ⟨h1, h⟩⟩
  rw [e]
  generalize decide (∀ t ∈ l, CO t) = b at *
  have h1' : (l.length : Int) ≤ 3 := by omega
  simp -dsimp [ac60, h1']
  refine call_p hc rfl (by simp) ?_
  simp -dsimp
theorem b63 (l : List Int) (hl : l.length ≤ 9223372036854775807) : Best Tryd.prog 63 [.sl 1 (l.map intRow)] (.p (.bool (decide (CL l)))) := by
  refine best mixed fn63 ok63 (by simp) ?_
  simp -dsimp [ac63]
  refine loopC l.length (fun k => ⟨[(0, .p (.sl 1 (l.map intRow))), (3, .p (.int .i64 k))], []⟩) (fun k => ∀ y ∈ l.take k, CO y) (fun k hk hall => ?_) (by simp) (by simp)
  by_cases h : k < l.length
  · obtain ⟨x, ex⟩ : ∃ x, l[k] = x := ⟨_, rfl⟩
    have hx : l[k]? = some x := by simp [h, ex]
    have w : R ((k : Int) + 1) := ⟨by omega, by omega⟩
    have hfx := b19' x
    have no : ¬ CO x → ¬ CL l := fun h2 h4 => h2 (h4.2 x (List.mem_of_getElem? hx))
    have go : CO x → ∀ y ∈ l.take (k + 1), CO y := fun h2 => take_succ_all (p := CO) hx hall h2
    by_cases hT : CO x
    · rw [decide_eq_true hT] at hfx
      have go' := go hT
      simp -dsimp [h, ex, intRow]
      refine call_p hfx rfl (by simp) ?_
      simp -dsimp [wr w]
      exact ⟨h, go'⟩
    · rw [decide_eq_false hT] at hfx
      have no' := no hT
      simp -dsimp [h, ex, intRow]
      refine call_p hfx rfl (by simp) ?_
      simp -dsimp [no']
  · have : k = l.length := by omega
    subst this
    rw [List.take_length] at hall
    have e : CL l ↔ (l.length : Int) ≤ 3 := ⟨fun h => by have := h.1; omega, fun h => ⟨by omega, hall⟩⟩
    by_cases h3 : (l.length : Int) ≤ 3 <;> simp -dsimp [e, h3]
end Go.Abs.A09
namespace Go.Abs
open Go
set_option linter.unusedSimpArgs false
set_option linter.unusedVariables false

/-! ### rules for generators' runs -/
section
variable {P : Program} {l : Nat} {xs : List (List PV)}
theorem coreY_mono {x : Opd} {args : List Opd} {dst : Option Nat} {post : List AB} {K K' : Fr → Option Nat → Prop} {F : Fr} {p : Option Nat} (h : ∀ F p, K F p → K' F p) (e : coreY P l xs x args dst post K F p) : coreY P l xs x args dst post K' F p := by
  unfold coreY at *
  refine ⟨e.1, ?_⟩
  have e := e.2
  split at e
  · split at e
    · exact ⟨e.1, fun b => awpR_mono (fun F q => h _ _ q) (e.2 b)⟩
    · exact e
  · exact e
theorem stepY_mono {y : AB} {post : List AB} {K K' : Fr → Option Nat → Prop} {F : Fr} {p : Option Nat} (h : ∀ F p, K F p → K' F p) (e : stepY P l xs y post K F p) : stepY P l xs y post K' F p := by
  unfold stepY at *
  split at e
  · split at e
    · exact coreY_mono h e
    · split at e
      · exact ⟨fun q => coreY_mono h (e.1 q), fun q => awpR_mono (fun F q => h _ _ q) (e.2 q)⟩
      · exact e
  · exact e
def MonoY (b : YPT) : Prop := ∀ (K K' : AE → Fr → Option Nat → Prop) (F : Fr) (p : Option Nat), (∀ e F p, K e F p → K' e F p) → b K F p → b K' F p
theorem lpY_mono {b : YPT} (hb : MonoY b) {K K' : AE → Fr → Option Nat → Prop} (h : ∀ e F p, K e F p → K' e F p) : ∀ {n : Nat} {F : Fr} {p : Option Nat}, lpY b n K F p → lpY b n K' F p
  | 0, _, _, e => e
  | n + 1, F, p, e => hb _ _ F p (fun e F p q => by
    cases e with
    | normal => exact lpY_mono hb h (n := n) q
    | exit i => exact h _ _ _ q
    | ret => exact h _ _ _ q) e
theorem lpY_le {b : YPT} (hb : MonoY b) {K : AE → Fr → Option Nat → Prop} : ∀ {n m : Nat} {F : Fr} {p : Option Nat}, n ≤ m → lpY b n K F p → lpY b m K F p
  | 0, m, F, p, h, e => e.elim
  | n + 1, 0, F, p, h, e => by omega
  | n + 1, m + 1, F, p, h, e => hb _ _ F p (fun e F p q => by
    cases e with
    | normal => exact lpY_le hb (n := n) (m := m) (by omega) q
    | exit i => exact q
    | ret => exact q) e
theorem awpY_mono : ∀ {ay : AY} {K K' : AE → Fr → Option Nat → Prop} {F : Fr} {p : Option Nat}, (∀ e F p, K e F p → K' e F p) → awpY P l xs ay K F p → awpY P l xs ay K' F p := by
  intro ay
  induction ay with
  | skip => intro K K' F p h e; exact h _ _ _ e
  | seq x y ihx ihy =>
    intro K K' F p h e
    refine ihx (fun e F p q => ?_) e
    cases e with
    | normal => exact ihy h q
    | exit i => exact h _ _ _ q
    | ret => exact h _ _ _ q
  | cond c x y ihx ihy =>
    intro K K' F p h e
    simp only [awpY] at e ⊢
    split at e
    · exact ⟨fun q => ihx h (e.1 q), fun q => ihy h (e.2 q)⟩
    · exact e
  | block id x ih =>
    intro K K' F p h e
    refine ih (fun e F p q => ?_) e
    cases e with
    | exit i => dsimp only at q ⊢; split <;> (rename_i hi; simp only [hi] at q; exact h _ _ _ (by simpa using q))
    | normal => exact h _ _ _ q
    | ret => exact h _ _ _ q
  | loop x ih => intro K K' F p h e; obtain ⟨n, hn⟩ := e; exact ⟨n, lpY_mono (b := awpY P l xs x) (fun K K' F p h e => ih h e) h hn⟩
  | exit id => intro K K' F p h e; exact h _ _ _ e
  | ret => intro K K' F p h e; exact h _ _ _ e
  | reg ops => intro K K' F p h e; exact awpR_mono (fun F q => h _ _ _ q) e
  | draw ops => intro K K' F p h e; exact awpX_mono (fun F q => h _ _ _ q) e
  | ghost g x ih =>
    intro K K' F p h e
    simp only [awpY] at e ⊢
    split at e
    · exact ih h e
    · exact e
  | yield d pre y post =>
    intro K K' F p h e
    simp only [awpY] at e ⊢
    split at e
    · rename_i hd; simp only [hd, if_true] at e ⊢; exact awpX_mono (fun F q => stepY_mono (fun F p q => h _ _ _ q) q) e
    · rename_i hd; simp only [hd] at e ⊢; exact awpR_mono (fun F q => stepY_mono (fun F p q => h _ _ _ q) q) e

def loopY (P : Program) (l : Nat) (xs : List (List PV)) (x : AY) (K : AE → Fr → Option Nat → Prop) (t : Tag x K) (F : Fr) (p : Option Nat) : Prop := awpY P l xs (.loop x) K F p
variable {K : AE → Fr → Option Nat → Prop} {F : Fr} {p : Option Nat}
theorem awpY_skip : awpY P l xs .skip K F p = K .normal F p := Eq.trans rfl rfl
theorem awpY_seq {x y : AY} : awpY P l xs (.seq x y) K F p = awpY P l xs x (fun e F' p' => match e with | .normal => awpY P l xs y K F' p' | e => K e F' p') F p := Eq.trans rfl rfl
theorem awpY_cond {c : Opd} {x y : AY} : awpY P l xs (.cond c x y) K F p = (match F.ff.val c with
    | some (.p (.bool b)) => condL (awpY P l xs x K F p) (awpY P l xs y K F p) {} b
    | _ => False) := Eq.trans rfl rfl
theorem awpY_block {id : Nat} {x : AY} : awpY P l xs (.block id x) K F p = awpY P l xs x (fun e F' p' => match e with | .exit i => if i = id then K .normal F' p' else K (.exit i) F' p' | e => K e F' p') F p := Eq.trans rfl rfl
theorem awpY_loop {x : AY} : awpY P l xs (.loop x) K F p = loopY P l xs x K {} F p := Eq.trans rfl rfl
theorem awpY_exit {id : Nat} : awpY P l xs (.exit id) K F p = K (.exit id) F p := Eq.trans rfl rfl
theorem awpY_ret : awpY P l xs .ret K F p = K .ret F p := Eq.trans rfl rfl
theorem awpY_reg {ops : List AB} : awpY P l xs (.reg ops) K F p = awpR P ops (fun F' => K .normal F' p) F := Eq.trans rfl rfl
theorem awpY_draw {ops : List AI} : awpY P l xs (.draw ops) K F p = awpX P F 0 [] [] ops (fun F' => K .normal F' p) F := Eq.trans rfl rfl
theorem awpY_ghost {g : Ghost} {x : AY} : awpY P l xs (.ghost g x) K F p = (match g.app F with
    | some F' => awpY P l xs x K F' p
    | none => False) := Eq.trans rfl rfl
theorem awpY_yt {pre : List AI} {y : AB} {post : List AB} : awpY P l xs (.yield true pre y post) K F p = awpX P F 0 [] [] pre (fun F1 => stepY P l xs y post (K .normal) F1 p) F := Eq.trans rfl rfl
theorem awpY_yf {pre : List AI} {y : AB} {post : List AB} : awpY P l xs (.yield false pre y post) K F p = awpR P (pre.map (·.b)) (fun F1 => stepY P l xs y post (K .normal) F1 p) F := Eq.trans rfl rfl
theorem stepY_eq {d : Option Nat} {x : Opd} {args : List Opd} {a : List Nat} {post : List AB} {K : Fr → Option Nat → Prop} : stepY P l xs ⟨d, .callv x args, none, a⟩ post K F p = coreY P l xs x args d post K F p := Eq.trans rfl rfl
/-- A counting loop of a generator that hands out one item a round. -/
theorem loopYC {g : Ghost} {x : AY} {t : Tag (AY.ghost g x) K} (n : Nat) (fr : Nat → Fr) (step : ∀ k, k ≤ n → awpY P l xs x (fun e F' p' => match e with
    | .normal => k < n ∧ g.app F' = some (fr (k + 1)) ∧ p' = some (k + 1)
    | e => K e F' p') (fr k) (some k)) {F : Fr} (hF : g.app F = some (fr 0)) : loopY P l xs (.ghost g x) K t F (some 0) := by
  have key : ∀ m k F, k + m = n → g.app F = some (fr k) → lpY (awpY P l xs (.ghost g x)) (m + 1) K F (some k) := by
    intro m
    induction m with
    | zero =>
      intro k F hk hF
      show awpY P l xs (.ghost g x) _ F (some k)
      rw [awpY_ghost, hF]
      refine awpY_mono (fun e F' p' q => ?_) (step k (by omega))
      cases e with
      | normal => exact absurd q.1 (by omega)
      | exit i => exact q
      | ret => exact q
    | succ m ih =>
      intro k F hk hF
      show awpY P l xs (.ghost g x) _ F (some k)
      rw [awpY_ghost, hF]
      refine awpY_mono (fun e F' p' q => ?_) (step k (by omega))
      cases e with
      | normal =>
        obtain ⟨h1, h2, rfl⟩ := q
        exact ih (k + 1) F' (by omega) h2
      | exit i => exact q
      | ret => exact q
  exact ⟨n + 1, key n 0 F (by omega) hF⟩
end
end Go.Abs
namespace Go.Abs.A09
open Go Go.Abs Go.Proofs
set_option maxRecDepth 100000
set_option linter.unusedVariables false
set_option linter.unusedSimpArgs false
attribute [local simp ↓] awp_skip awp_seq awp_cond awp_block awp_exit awp_ret awp_reg awp_draw awp_ghost awp_loop awp_rfun awpR_nil awpR_cons awpX_nil awpX_0 awpX_1 awpX_2 awpI_eq awpI_t awpI_f awpStep_eq
attribute [local simp] condL_true condL_false condL_dec evDel evV evN evS evA initFr Ghost.app Fr.var Fr.blk Fr.ff FF.val Abs.look Fr.app Fr.erase Fr.noSlot AV.noSlot AV.noSlotL Blk.noSlot Fr.spoken AV.fz AV.fzL Blk.fz binV binI shI binS unV fillA FF.parts FF.vals headO intO boundO lenV scalarEq leavesEq AV.aggc AV.cells FF.read FF.rows AV.one PV.one chunk freshB newS pickV retK evRs evRl evR resOf mkTup mkAgg allP cloOf okP_nil okX_p okX okP addN Del.noSlot Del.owners Rnd reify_p normM insM Fr.back Fr.backV Fr.setPs normV insV
attribute [local simp ↓] awpY_skip awpY_seq awpY_cond awpY_block awpY_loop awpY_exit awpY_ret awpY_reg awpY_draw awpY_ghost awpY_yt awpY_yf stepY_eq
attribute [local simp] FF.reify coreY Fr.pure AV.pur
/-- The items of two lists, together. -/
def zipS {α β : Type} (f : α → PV) (g : β → PV) (a : List α) (b : List β) : List (List PV) := (a.zip b).map fun x => [f x.1, g x.2]
theorem zipS_get {α β : Type} {f : α → PV} {g : β → PV} {a : List α} {b : List β} {k : Nat} {x : α} {y : β} (h1 : a[k]? = some x) (h2 : b[k]? = some y) : (zipS f g a b)[k]? = some [f x, g y] := by
  simp [zipS, List.zip, List.getElem?_zipWith, h1, h2]
theorem zipS_len {α β : Type} {f : α → PV} {g : β → PV} {a : List α} {b : List β} : (zipS f g a b).length = min a.length b.length := by simp [zipS]
def vI (x : Int) : PV := .int .i64 x
def vP (x : Int × Int) : PV := .agg (pRow x)
def vT (x : T3) : PV := .agg (tRow x)

theorem b46 (a b : List (List PV)) : Best Tryd.prog 46 [.sl 2 a, .sl 2 b] (.p (.clo (.func 78) [] [.ro [.sl 2 a], .ro [.sl 2 b]])) := by
  refine best mixed fn46 ok46 (by simp) ?_
  simp -dsimp [ac46]
theorem g78 (a : List (Int × Int)) (b : List (Int × Int)) (hl : a.length ≤ 9223372036854775807) : Gens Tryd.prog 78 [] [.ro [.sl 2 (a.map pRow)], .ro [.sl 2 (b.map pRow)]] (zipS vP vP a b) := by
  refine gens mixed fn78 ok78 (by simp) fun l => ?_
  simp -dsimp [ac78]
  have e : min (a.length : Int) b.length = ((min a.length b.length : Nat) : Int) := by omega
  refine loopYC (min a.length b.length) (fun k => ⟨[(0, .p (.clo (.yield l) [] [])), (1, .p (.ro [.sl 2 (a.map pRow)])), (2, .p (.ro [.sl 2 (b.map pRow)])), (9, .p (.int .i64 ((min a.length b.length : Nat) : Int))), (10, .p (.int .i64 k))], []⟩) (fun k hk => ?_) (by simp [e])
  by_cases h : k < min a.length b.length
  · have h1 : k < a.length := by omega
    have h2 : k < b.length := by omega
    obtain ⟨⟨x1, x2⟩, ex⟩ : ∃ x, a[k] = x := ⟨_, rfl⟩
    obtain ⟨⟨y1, y2⟩, ey⟩ : ∃ y, b[k] = y := ⟨_, rfl⟩
    have w : R ((k : Int) + 1) := ⟨by omega, by omega⟩
    have hz := zipS_get (f := vP) (g := vP) (show a[k]? = some _ by rw [List.getElem?_eq_getElem h1, ex]) (show b[k]? = some _ by rw [List.getElem?_eq_getElem h2, ey])
    simp -dsimp [h, h1, h2, ex, ey, pRow, wr w]
    exact hz
  · have : k = min a.length b.length := by omega
    subst this
    simp -dsimp [zipS_len]

theorem b61 (a b : List (List PV)) : Best Tryd.prog 61 [.sl 3 a, .sl 1 b] (.p (.clo (.func 85) [] [.ro [.sl 3 a], .ro [.sl 1 b]])) := by
  refine best mixed fn61 ok61 (by simp) ?_
  simp -dsimp [ac61]
theorem g85 (a : List (T3)) (b : List (Int)) (hl : a.length ≤ 9223372036854775807) : Gens Tryd.prog 85 [] [.ro [.sl 3 (a.map tRow)], .ro [.sl 1 (b.map intRow)]] (zipS vT vI a b) := by
  refine gens mixed fn85 ok85 (by simp) fun l => ?_
  simp -dsimp [ac85]
  have e : min (a.length : Int) b.length = ((min a.length b.length : Nat) : Int) := by omega
  refine loopYC (min a.length b.length) (fun k => ⟨[(0, .p (.clo (.yield l) [] [])), (1, .p (.ro [.sl 3 (a.map tRow)])), (2, .p (.ro [.sl 1 (b.map intRow)])), (9, .p (.int .i64 ((min a.length b.length : Nat) : Int))), (10, .p (.int .i64 k))], []⟩) (fun k hk => ?_) (by simp [e])
  by_cases h : k < min a.length b.length
  · have h1 : k < a.length := by omega
    have h2 : k < b.length := by omega
    obtain ⟨⟨x1, x2, x3⟩, ex⟩ : ∃ x, a[k] = x := ⟨_, rfl⟩
    obtain ⟨y1, ey⟩ : ∃ y, b[k] = y := ⟨_, rfl⟩
    have w : R ((k : Int) + 1) := ⟨by omega, by omega⟩
    have hz := zipS_get (f := vT) (g := vI) (show a[k]? = some _ by rw [List.getElem?_eq_getElem h1, ex]) (show b[k]? = some _ by rw [List.getElem?_eq_getElem h2, ey])
    simp -dsimp [h, h1, h2, ex, ey, intRow, tRow, wr w]
    exact hz
  · have : k = min a.length b.length := by omega
    subst this
    simp -dsimp [zipS_len]

theorem b71 (a b : List (List PV)) : Best Tryd.prog 71 [.sl 1 a, .sl 2 b] (.p (.clo (.func 90) [] [.ro [.sl 1 a], .ro [.sl 2 b]])) := by
  refine best mixed fn71 ok71 (by simp) ?_
  simp -dsimp [ac71]
theorem g90 (a : List (Int)) (b : List (Int × Int)) (hl : a.length ≤ 9223372036854775807) : Gens Tryd.prog 90 [] [.ro [.sl 1 (a.map intRow)], .ro [.sl 2 (b.map pRow)]] (zipS vI vP a b) := by
  refine gens mixed fn90 ok90 (by simp) fun l => ?_
  simp -dsimp [ac90]
  have e : min (a.length : Int) b.length = ((min a.length b.length : Nat) : Int) := by omega
  refine loopYC (min a.length b.length) (fun k => ⟨[(0, .p (.clo (.yield l) [] [])), (1, .p (.ro [.sl 1 (a.map intRow)])), (2, .p (.ro [.sl 2 (b.map pRow)])), (9, .p (.int .i64 ((min a.length b.length : Nat) : Int))), (10, .p (.int .i64 k))], []⟩) (fun k hk => ?_) (by simp [e])
  by_cases h : k < min a.length b.length
  · have h1 : k < a.length := by omega
    have h2 : k < b.length := by omega
    obtain ⟨x1, ex⟩ : ∃ x, a[k] = x := ⟨_, rfl⟩
    obtain ⟨⟨y1, y2⟩, ey⟩ : ∃ y, b[k] = y := ⟨_, rfl⟩
    have w : R ((k : Int) + 1) := ⟨by omega, by omega⟩
    have hz := zipS_get (f := vI) (g := vP) (show a[k]? = some _ by rw [List.getElem?_eq_getElem h1, ex]) (show b[k]? = some _ by rw [List.getElem?_eq_getElem h2, ey])
    simp -dsimp [h, h1, h2, ex, ey, intRow, pRow, wr w]
    exact hz
  · have : k = min a.length b.length := by omega
    subst this
    simp -dsimp [zipS_len]

theorem b72 (a b : List (List PV)) : Best Tryd.prog 72 [.sl 3 a, .sl 2 b] (.p (.clo (.func 91) [] [.ro [.sl 3 a], .ro [.sl 2 b]])) := by
  refine best mixed fn72 ok72 (by simp) ?_
  simp -dsimp [ac72]
theorem g91 (a : List (T3)) (b : List (Int × Int)) (hl : a.length ≤ 9223372036854775807) : Gens Tryd.prog 91 [] [.ro [.sl 3 (a.map tRow)], .ro [.sl 2 (b.map pRow)]] (zipS vT vP a b) := by
  refine gens mixed fn91 ok91 (by simp) fun l => ?_
  simp -dsimp [ac91]
  have e : min (a.length : Int) b.length = ((min a.length b.length : Nat) : Int) := by omega
  refine loopYC (min a.length b.length) (fun k => ⟨[(0, .p (.clo (.yield l) [] [])), (1, .p (.ro [.sl 3 (a.map tRow)])), (2, .p (.ro [.sl 2 (b.map pRow)])), (9, .p (.int .i64 ((min a.length b.length : Nat) : Int))), (10, .p (.int .i64 k))], []⟩) (fun k hk => ?_) (by simp [e])
  by_cases h : k < min a.length b.length
  · have h1 : k < a.length := by omega
    have h2 : k < b.length := by omega
    obtain ⟨⟨x1, x2, x3⟩, ex⟩ : ∃ x, a[k] = x := ⟨_, rfl⟩
    obtain ⟨⟨y1, y2⟩, ey⟩ : ∃ y, b[k] = y := ⟨_, rfl⟩
    have w : R ((k : Int) + 1) := ⟨by omega, by omega⟩
    have hz := zipS_get (f := vT) (g := vP) (show a[k]? = some _ by rw [List.getElem?_eq_getElem h1, ex]) (show b[k]? = some _ by rw [List.getElem?_eq_getElem h2, ey])
    simp -dsimp [h, h1, h2, ex, ey, pRow, tRow, wr w]
    exact hz
  · have : k = min a.length b.length := by omega
    subst this
    simp -dsimp [zipS_len]
end Go.Abs.A09
/-
  DERIVED: LAID BY THE SHELF's contract.sh OFF ITS TEMPLATE 'internal/stringslite.IndexByte' FOR THE PROGRAM 'Tryd' (the function's number there: 111). THE LIBRARY's OWN TEXT IS WALKED: nothing is assumed of it; where it calls a function without a Go body (internal/bytealg), THE MODEL's OWN ENTRY stands in, by its law (Derived/Lib/Bytealg.lean). Behind the contract: ONE FALSE NEIGHBOUR, a contract that says a little too much, REFUTED. (The template: the authors, an AI agent; Sun.)
-/
namespace Go.Proofs

set_option maxHeartbeats 1000000 in
set_option maxRecDepth 100000 in
/-- internal/stringslite.IndexByte (what strings.IndexByte calls): IT RETURNS 'Lib.indexByte s c'; the world is as it was. -/
theorem Tryd.stringslite_IndexByte (s : ByteArray) (c : Int) (w : World) :
    Calls Tryd.prog 111 #[.string s, .int .u8 c] w fun e w' => e = .returned (.int .i64 (Lib.indexByte s.data.toList c.toNat.toUInt8)) ∧ w' = w := by
  go_enter Tryd.func111, Tryd.ntmps111
  go_wp2
  rw [run_callFunc_extern Tryd.func117 (by kernel_rfl) (by kernel_rfl) (by kernel_rfl) (e := Extern.BytealgIndexByte.indexByte) (by kernel_rfl), Lib.run_indexByteString]
  simp only [Result.andThen]
  rw [Oper.upon_value]
  go_wp2
  go_ret
  exact ⟨rfl, rfl⟩

end Go.Proofs
/-
  DERIVED: LAID BY THE SHELF's contract.sh OFF ITS TEMPLATE 'internal/stringslite.Index' FOR THE PROGRAM 'Tryd' (the function's number there: 107). THE LIBRARY's OWN TEXT IS WALKED: nothing is assumed of it. ✋ AT A substr OF ONE BYTE ALONE (the everyday 'strings.Contains(s, ",")'): of a longer one this contract says nothing. Behind the contract: ONE FALSE NEIGHBOUR, a contract that says a little too much, REFUTED. (The template: an AI agent of the authors' house; Sun.)
-/
namespace Go.Proofs

set_option maxHeartbeats 2000000 in
set_option maxRecDepth 100000 in
/-- internal/stringslite.Index (what strings.Index calls) AT A substr OF ONE BYTE c: IT RETURNS 'Lib.indexByte s c'; the world is as it was. -/
theorem Tryd.stringslite_Index_one (s : ByteArray) (c : UInt8) (w : World) :
    Calls Tryd.prog 107 #[.string s, .string ⟨#[c]⟩] w fun e w' => e = .returned (.int .i64 (Lib.indexByte s.data.toList c)) ∧ w' = w := by
  go_enter Tryd.func107, Tryd.ntmps107
  go_wp2_with (go_at_call 111; refine (Tryd.stringslite_IndexByte _ _ _).mono ?_; rintro e w' ⟨rfl, rfl⟩)
  · have h : ([c] == s.toList) = true := by assumption
    go_ret
    refine ⟨?_, rfl⟩
    have e : s.data.toList = [c] := by rw [← Lib.toList_data]; exact (beq_iff_eq.1 h).symm
    rw [e]
    simp [Lib.indexByte]
  · go_ret
    exact ⟨rfl, rfl⟩

/-- A LITTLE TOO MUCH: 'the index of the LAST instance': falls at "aa", "a". -/
theorem Tryd.stringslite_Index_one_not : ¬ ∀ (s : ByteArray) (c : UInt8) (w : World),
    Calls Tryd.prog 107 #[.string s, .string ⟨#[c]⟩] w fun e w' => e = .returned (.int .i64 ((s.size : Int) - 1 - Lib.indexByte s.data.toList.reverse c)) ∧ w' = w := by
  intro h
  have e := Lib.agree (by kernel_rfl) (Tryd.stringslite_Index_one ⟨#[97, 97]⟩ 97 default) (h ⟨#[97, 97]⟩ 97 default)
  injection e with _ e
  revert e
  decide

end Go.Proofs
/-
  DERIVED: LAID BY THE SHELF's contract.sh OFF ITS TEMPLATE 'strings.Index' FOR THE PROGRAM 'Tryd' (the function's number there: 100). THE LIBRARY's OWN TEXT IS WALKED: nothing is assumed of it. ✋ AT A substr OF ONE BYTE ALONE (the everyday 'strings.Index(s, ",")'): of a longer one this contract says nothing. Behind the contract: ONE FALSE NEIGHBOUR, a contract that says a little too much, REFUTED. (The template: an AI agent of the authors' house; Sun.)
-/
namespace Go.Proofs

set_option maxHeartbeats 1000000 in
/-- strings.Index: "Index returns the index of the first instance of substr in s, or -1 if substr is not present in s.": AT A substr OF ONE BYTE c: IT RETURNS 'Lib.indexByte s c'; the world is as it was. -/
theorem Tryd.strings_Index_one (s : ByteArray) (c : UInt8) (w : World) :
    Calls Tryd.prog 100 #[.string s, .string ⟨#[c]⟩] w fun e w' => e = .returned (.int .i64 (Lib.indexByte s.data.toList c)) ∧ w' = w := by
  go_enter Tryd.func100, Tryd.ntmps100
  go_wp2_with (go_at_call 107; refine (Tryd.stringslite_Index_one _ _ _).mono ?_; rintro e w' ⟨rfl, rfl⟩)
  go_ret
  exact ⟨rfl, rfl⟩

/-- A LITTLE TOO MUCH: 'the index of the LAST instance': falls at "aa", "a". -/
theorem Tryd.strings_Index_one_not : ¬ ∀ (s : ByteArray) (c : UInt8) (w : World),
    Calls Tryd.prog 100 #[.string s, .string ⟨#[c]⟩] w fun e w' => e = .returned (.int .i64 ((s.size : Int) - 1 - Lib.indexByte s.data.toList.reverse c)) ∧ w' = w := by
  intro h
  have e := Lib.agree (by kernel_rfl) (Tryd.strings_Index_one ⟨#[97, 97]⟩ 97 default) (h ⟨#[97, 97]⟩ 97 default)
  injection e with _ e
  revert e
  decide

end Go.Proofs
/-
  DERIVED: LAID BY THE SHELF's contract.sh OFF ITS TEMPLATE 'strings.Contains' FOR THE PROGRAM 'Tryd' (the function's number there: 76). THE LIBRARY's OWN TEXT IS WALKED: nothing is assumed of it. ✋ AT A substr OF ONE BYTE ALONE (the everyday 'strings.Contains(s, ",")'): of a longer one this contract says nothing. Behind the contract: ONE FALSE NEIGHBOUR, a contract that says a little too much, REFUTED. (The template: an AI agent of the authors' house; Sun.)
-/
namespace Go.Proofs

set_option maxHeartbeats 1000000 in
/-- strings.Contains: "Contains reports whether substr is within s.": AT A substr OF ONE BYTE c: IT RETURNS 'decide (0 ≤ Lib.indexByte s c)'; the world is as it was. -/
theorem Tryd.strings_Contains_one (s : ByteArray) (c : UInt8) (w : World) :
    Calls Tryd.prog 76 #[.string s, .string ⟨#[c]⟩] w fun e w' => e = .returned (.bool (decide (0 ≤ Lib.indexByte s.data.toList c))) ∧ w' = w := by
  go_enter Tryd.func76, Tryd.ntmps76
  go_wp2_with (go_at_call 100; refine (Tryd.strings_Index_one _ _ _).mono ?_; rintro e w' ⟨rfl, rfl⟩)
  go_ret
  exact ⟨rfl, rfl⟩

/-- A LITTLE TOO MUCH: 'true of every string that is not empty': falls at "a", "b". -/
theorem Tryd.strings_Contains_one_not : ¬ ∀ (s : ByteArray) (c : UInt8) (w : World),
    Calls Tryd.prog 76 #[.string s, .string ⟨#[c]⟩] w fun e w' => e = .returned (.bool (decide (0 < s.size))) ∧ w' = w := by
  intro h
  have e := Lib.agree (by kernel_rfl) (Tryd.strings_Contains_one ⟨#[97]⟩ 98 default) (h ⟨#[97]⟩ 98 default)
  injection e with e
  revert e
  decide

end Go.Proofs
namespace Go.Abs.A09
open Go Go.Abs Go.Proofs
set_option maxRecDepth 100000
set_option linter.unusedVariables false
set_option linter.unusedSimpArgs false
attribute [local simp ↓] awp_skip awp_seq awp_cond awp_block awp_exit awp_ret awp_reg awp_draw awp_ghost awp_loop awp_rfun awpR_nil awpR_cons awpX_nil awpX_0 awpX_1 awpX_2 awpI_eq awpI_t awpI_f awpStep_eq
attribute [local simp] condL_true condL_false condL_dec evDel evV evN evS evA initFr Ghost.app Fr.var Fr.blk Fr.ff FF.val Abs.look Fr.app Fr.erase Fr.noSlot AV.noSlot AV.noSlotL Blk.noSlot Fr.spoken AV.fz AV.fzL Blk.fz binV binI shI binS unV fillA FF.parts FF.vals headO intO boundO lenV scalarEq leavesEq AV.aggc AV.cells FF.read FF.rows AV.one PV.one chunk freshB newS pickV retK evRs evRl evR resOf mkTup mkAgg allP cloOf okP_nil okX_p okX okP addN Del.noSlot Del.owners Rnd reify_p normM insM Fr.back Fr.backV Fr.setPs normV insV
/-! ### strings as lists of bytes -/
def ba (l : List UInt8) : ByteArray := ⟨l.toArray⟩
theorem ba_eta (s : ByteArray) : s = ba s.data.toList := by cases s; simp [ba]
theorem ba_size (l : List UInt8) : (ba l).size = l.length := by simp [ba, ByteArray.size]
theorem ba_get (l : List UInt8) (i : Nat) : (ba l)[i]? = l[i]? := by
  by_cases h : i < l.length
  · rw [List.getElem?_eq_getElem h, getElem?_pos (ba l) i (by rw [ba_size]; exact h)]
    simp [ba, ByteArray.getElem_eq_getElem_data]
  · rw [List.getElem?_eq_none (by omega), getElem?_neg (ba l) i (by rw [ba_size]; omega)]
theorem ba_list (l : List UInt8) : (ba l).toList = l := by rw [ByteArray.toList_eq]; simp [ba]
theorem ba_extract (l : List UInt8) (i j : Nat) : (ba l).extract i j = ba ((l.take j).drop i) := by
  have : ((ba l).extract i j).data.toList = (l.take j).drop i := by
    rw [ByteArray.data_extract, List.drop_take]
    simp [ba]
  rw [ba_eta ((ba l).extract i j), this]
theorem nil_list : (⟨#[]⟩ : ByteArray).toList = [] := by rw [ByteArray.toList_eq]
/-- A table of 256 marks. -/
def tabB (p : Nat → Bool) : List PV := (List.range 256).map fun i => .bool (p i)
def tabA (p : Nat → Bool) : List AV := (List.range 256).map fun i => .p (.bool (p i))
theorem tabB_len (p : Nat → Bool) : (tabB p).length = 256 := by simp [tabB]
theorem tabA_len (p : Nat → Bool) : (tabA p).length = 256 := by simp [tabA]
theorem tabB_map (p : Nat → Bool) : (tabB p).map AV.p = tabA p := by simp [tabB, tabA]
theorem tabA_rep : (List.replicate 256 (PV.bool false)).map AV.p = tabA fun _ => false := by
  simp only [tabA, List.map_const', List.length_range, List.map_replicate]
theorem tabA_rep' : List.replicate 256 (AV.p (PV.bool false)) = tabA fun _ => false := by
  simp only [tabA, List.map_const', List.length_range]
theorem allP_map : ∀ l : List PV, allP (l.map AV.p) = some l
  | [] => rfl
  | p :: l => by simp [allP, allP_map l]
theorem tabA_allP (p : Nat → Bool) : allP (tabA p) = some (tabB p) := by rw [← tabB_map]; exact allP_map _
theorem tabA_one (p : Nat → Bool) : (tabA p).all AV.one = true := by simp [tabA, AV.one, PV.one]
theorem tabA_get (p : Nat → Bool) {i : Nat} (h : i < 256) : (tabA p)[i]? = some (.p (.bool (p i))) := by simp [tabA, h]
theorem tabB_drop (p : Nat → Bool) {i : Nat} (h : i < 256) : (tabB p).drop i = .bool (p i) :: (tabB p).drop (i + 1) := by
  rw [List.drop_eq_getElem_cons (by rw [tabB_len]; exact h)]
  simp [tabB]
theorem tabA_drop (p : Nat → Bool) {i : Nat} (h : 256 ≤ i) : (tabA p).drop i = [] := by rw [List.drop_eq_nil_iff, tabA_len]; exact h
theorem tabA_take (p : Nat → Bool) {i : Nat} (h : 256 ≤ i) : (tabA p).take i = tabA p := List.take_of_length_le (by rw [tabA_len]; exact h)
theorem tabA_set (p : Nat → Bool) {i : Nat} (h : i < 256) : (tabA p).take i ++ AV.p (.bool true) :: (tabA p).drop (i + 1) = tabA fun j => p j || j == i := by
  apply List.ext_getElem?
  intro j
  have h1 : ((tabA p).take i).length = i := by simp [tabA_len]; omega
  rcases Nat.lt_trichotomy j i with hj | hj | hj
  · rw [List.getElem?_append_left (by omega), List.getElem?_take, if_pos hj, tabA_get p (by omega), tabA_get _ (by omega)]
    have : (j == i) = false := by simp; omega
    simp [this]
  · subst hj
    rw [List.getElem?_append_right (by omega), h1]
    simp [tabA_get _ h]
  · rw [List.getElem?_append_right (by omega), h1]
    obtain ⟨m, rfl⟩ : ∃ m, j = i + 1 + m := ⟨j - i - 1, by omega⟩
    have e : i + 1 + m - i = m + 1 := by omega
    rw [e, List.getElem?_cons_succ, List.getElem?_drop]
    by_cases hl : i + 1 + m < 256
    · rw [tabA_get p hl, tabA_get _ hl]
      have : (i + 1 + m == i) = false := by simp; omega
      simp [this]
    · rw [List.getElem?_eq_none (by rw [tabA_len]; omega), List.getElem?_eq_none (by rw [tabA_len]; omega)]
theorem tabA_reify (F : FF) (n : Nat) (p : Nat → Bool) : (tabA p).mapM (F.reify n) = some (tabB p) := by
  rw [← tabB_map]
  induction tabB p with
  | nil => rfl
  | cons x l ih => simp [List.mapM_cons, reify_p, ih]
attribute [local simp high] ba_get
attribute [local simp] ba_size ba_list ba_extract nil_list tabB_len tabA_len tabB_map tabA_rep tabA_rep' tabA_allP tabA_one tabA_reify
theorem b103 (p : Nat → Bool) {c : UInt8} : Best Tryd.prog 103 [.ro (tabB p), .int .u8 c.toNat] (.p (.bool (p c.toNat))) := by
  refine best mixed fn103 ok103 (by simp) ?_
  have h : c.toNat < 256 := c.toNat_lt
  have e := tabB_drop p h
  have h' : (c.toNat : Int) < 256 := by omega
  simp -dsimp [ac103, h, h', e]
/-- How many of the first bytes are marked. -/
def tw (p : Nat → Bool) (l : List UInt8) : Nat := (l.takeWhile fun b => p b.toNat).length
theorem tw_hit {p : Nat → Bool} : ∀ {l : List UInt8} {k : Nat} {y : UInt8}, (∀ b ∈ l.take k, p b.toNat = true) → l[k]? = some y → p y.toNat = false → tw p l = k
  | [], k, y, _, h, _ => by simp at h
  | b :: l, 0, y, h1, h2, h3 => by
    simp at h2; subst h2
    simp [tw, List.takeWhile_cons, h3]
  | b :: l, k + 1, y, h1, h2, h3 => by
    have hb : p b.toNat = true := h1 b (by simp)
    have := tw_hit (l := l) (k := k) (fun b hb => h1 b (by simp [hb])) (by simpa using h2) h3
    simp only [tw] at this ⊢
    simp [List.takeWhile_cons, hb, this]
theorem tw_all {p : Nat → Bool} : ∀ {l : List UInt8}, (∀ b ∈ l, p b.toNat = true) → tw p l = l.length
  | [], _ => rfl
  | b :: l, h => by
    have := tw_all (l := l) fun b hb => h b (by simp [hb])
    simp only [tw] at this ⊢
    simp [List.takeWhile_cons, h b (by simp), this]
theorem b96 (p : Nat → Bool) (l : List UInt8) (hl : l.length ≤ 9223372036854775807) : Best Tryd.prog 96 [.str (ba l), .ro (tabB p)] (.p (.str (ba (l.drop (tw p l))))) := by
  refine best mixed fn96 ok96 (by simp) ?_
  simp -dsimp [ac96]
  refine loopC l.length (fun k => ⟨[(0, .p (.str (ba (l.drop k)))), (1, .p (.ro (tabB p)))], []⟩) (fun k => ∀ b ∈ l.take k, p b.toNat = true) (fun k hk hall => ?_) (by simp) (by simp)
  by_cases h : k < l.length
  · obtain ⟨x, ex⟩ : ∃ x, l[k] = x := ⟨_, rfl⟩
    have hx : l[k]? = some x := by rw [List.getElem?_eq_getElem h, ex]
    have hd : (0 : Int) < ((l.length - k : Nat) : Int) := by omega
    have hd' : 0 < l.length - k := by omega
    have hx0 : (l.drop k)[0]? = some x := by rw [List.getElem?_drop]; simpa using hx
    have hle : (1 : Int) ≤ ((l.length - k : Nat) : Int) := by omega
    have hle' : 1 ≤ l.length - k := by omega
    simp -dsimp [hd', hx0, hx, h, ex]
    refine call_p (b103 p (c := x)) rfl (by simp) ?_
    cases hp : p x.toNat with
    | true =>
      have := take_succ_all (p := fun b : UInt8 => p b.toNat = true) hx hall hp
      have e : List.drop 1 (List.take (l.length - k) (l.drop k)) = l.drop (k + 1) := by
        rw [List.take_of_length_le (by simp), List.drop_drop]
      simp -dsimp [hle, h, e]
      exact this
    | false =>
      simp -dsimp [tw_hit hall hx hp]
  · have : k = l.length := by omega
    subst this
    rw [List.take_length] at hall
    simp -dsimp [tw_all hall]
theorem b97 (p : Nat → Bool) (l : List UInt8) (hl : l.length ≤ 9223372036854775807) : Best Tryd.prog 97 [.str (ba l), .ro (tabB p)] (.p (.str (ba (l.take (l.length - tw p l.reverse))))) := by
  refine best mixed fn97 ok97 (by simp) ?_
  simp -dsimp [ac97]
  refine loopC l.length (fun k => ⟨[(0, .p (.str (ba (l.take (l.length - k))))), (1, .p (.ro (tabB p)))], []⟩) (fun k => ∀ b ∈ l.reverse.take k, p b.toNat = true) (fun k hk hall => ?_) (by simp) (by simp)
  by_cases h : k < l.length
  · obtain ⟨x, ex⟩ : ∃ x, l[l.length - k - 1] = x := ⟨_, rfl⟩
    have hx' : l[l.length - k - 1]? = some x := by rw [List.getElem?_eq_getElem (by omega), ex]
    have hx : l.reverse[k]? = some x := by
      rw [List.getElem?_reverse h, ← hx']; congr 1; omega
    have hd' : 0 < l.length - k := by omega
    have hm : min (l.length - k) l.length = l.length - k := by omega
    have w1 : R (((l.length - k : Nat) : Int) - 1) := ⟨by omega, by omega⟩
    have c1 : (0 : Int) ≤ ((l.length - k : Nat) : Int) - 1 := by omega
    have c2 : (((l.length - k : Nat) : Int) - 1).toNat = l.length - k - 1 := by omega
    have c3 : (1 : Int) ≤ ((l.length - k : Nat) : Int) := by omega
    have hx0 : (l.take (l.length - k))[l.length - k - 1]? = some x := by rw [List.getElem?_take, if_pos (by omega)]; exact hx'
    simp -dsimp [hd', hm, wr w1, c1, c2, c3, hx0, hx', h]
    refine call_p (b103 p (c := x)) rfl (by simp) ?_
    cases hp : p x.toNat with
    | true =>
      have := take_succ_all (p := fun b : UInt8 => p b.toNat = true) hx hall hp
      have e : min (l.length - k - 1) (l.length - k) = l.length - (k + 1) := by omega
      have e2 : l.length - k - 1 = l.length - (k + 1) := by omega
      have c4 : ((l.length - k : Nat) : Int) - 1 ≤ ((l.length - k : Nat) : Int) := by omega
      have e3 : min (l.length - (k + 1)) (l.length - k) = l.length - (k + 1) := by omega
      simp -dsimp [hm, wr w1, c1, c2, c3, c4, h, e, e2, e3, List.take_take]
      exact this
    | false =>
      simp -dsimp [tw_hit hall hx hp]
  · have : k = l.length := by omega
    subst this
    rw [← List.length_reverse, List.take_length] at hall
    have := tw_all hall
    rw [List.length_reverse] at this
    simp -dsimp [this]
end Go.Abs.A09
namespace Go.Abs.A09
open Go Go.Abs Go.Proofs
set_option maxRecDepth 100000
set_option linter.unusedVariables false
set_option linter.unusedSimpArgs false
attribute [local simp ↓] awp_skip awp_seq awp_cond awp_block awp_exit awp_ret awp_reg awp_draw awp_ghost awp_loop awp_rfun awpR_nil awpR_cons awpX_nil awpX_0 awpX_1 awpX_2 awpI_eq awpI_t awpI_f awpStep_eq
attribute [local simp] condL_true condL_false condL_dec evDel evV evN evS evA initFr Ghost.app Fr.var Fr.blk Fr.ff FF.val Abs.look Fr.app Fr.erase Fr.noSlot AV.noSlot AV.noSlotL Blk.noSlot Fr.spoken AV.fz AV.fzL Blk.fz binV binI shI binS unV fillA FF.parts FF.vals headO intO boundO lenV scalarEq leavesEq AV.aggc AV.cells FF.read FF.rows AV.one PV.one chunk freshB newS pickV retK evRs evRl evR resOf mkTup mkAgg allP cloOf okP_nil okX_p okX okP addN Del.noSlot Del.owners Rnd reify_p normM insM Fr.back Fr.backV Fr.setPs normV insV
attribute [local simp high] ba_get
attribute [local simp] ba_size ba_list ba_extract nil_list tabB_len tabA_len tabB_map tabA_rep tabA_rep' tabA_allP tabA_one tabA_reify
/-- The marks of a text's bytes. -/
def inT (cs : List UInt8) (i : Nat) : Bool := cs.any fun c => c.toNat == i
theorem inT_succ {cs : List UInt8} {k : Nat} {x : UInt8} (h : cs[k]? = some x) : inT (cs.take (k + 1)) = fun j => inT (cs.take k) j || j == x.toNat := by
  funext j
  rw [List.take_add_one, h]
  simp [inT, Bool.beq_comm, eq_comm]
theorem b95 (cs : List UInt8) (hl : cs.length ≤ 9223372036854775807) (hc : ∀ c ∈ cs, c.toNat < 128) : Best Tryd.prog 95 [.str (ba cs)] (.p (.tup [.agg (tabB (inT cs)), .bool true])) := by
  refine best mixed fn95 ok95 (by simp) ?_
  simp -dsimp [ac95, -List.reduceReplicate]
  refine loopC cs.length (fun k => ⟨[(0, .p (.str (ba cs))), (2, .ptr (2, 0) 256 0 0), (4, .p (.int .i64 k))], [((2, 0), .box (tabA (inT (cs.take k))))]⟩) (fun _ => True) (fun k hk _ => ?_) trivial ?_
  · by_cases h : k < cs.length
    · obtain ⟨x, ex⟩ : ∃ x, cs[k] = x := ⟨_, rfl⟩
      have hx : cs[k]? = some x := by rw [List.getElem?_eq_getElem h, ex]
      have w : R ((k : Int) + 1) := ⟨by omega, by omega⟩
      have h128 := hc x (List.mem_of_getElem? hx)
      have c1 : ¬ ((128 : Int) ≤ (x.toNat : Int)) := by omega
      have c2 : (x.toNat : Int) < 256 := by omega
      have c3 : x.toNat + 1 ≤ 256 := by omega
      have ht := tabA_set (inT (cs.take k)) (i := x.toNat) (by omega)
      rw [← inT_succ hx] at ht
      simp -dsimp [h, hx, ex, wr w, c1, c2, c3, ht]
    · have : k = cs.length := by omega
      subst this
      have d1 := tabA_drop (inT cs) (i := 256) (by omega)
      have d2 := tabA_take (inT cs) (i := 256) (by omega)
      simp -dsimp [d1, d2]
  · simp -dsimp
    rfl
end Go.Abs.A09
namespace Go.Abs.A09
open Go Go.Abs Go.Proofs
set_option maxRecDepth 100000
set_option linter.unusedVariables false
set_option linter.unusedSimpArgs false
attribute [local simp ↓] awp_skip awp_seq awp_cond awp_block awp_exit awp_ret awp_reg awp_draw awp_ghost awp_loop awp_rfun awpR_nil awpR_cons awpX_nil awpX_0 awpX_1 awpX_2 awpI_eq awpI_t awpI_f awpStep_eq
attribute [local simp] condL_true condL_false condL_dec evDel evV evN evS evA initFr Ghost.app Fr.var Fr.blk Fr.ff FF.val Abs.look Fr.app Fr.erase Fr.noSlot AV.noSlot AV.noSlotL Blk.noSlot Fr.spoken AV.fz AV.fzL Blk.fz binV binI shI binS unV fillA FF.parts FF.vals headO intO boundO lenV scalarEq leavesEq AV.aggc AV.cells FF.read FF.rows AV.one PV.one chunk freshB newS pickV retK evRs evRl evR resOf mkTup mkAgg allP cloOf okP_nil okX_p okX okP addN Del.noSlot Del.owners Rnd reify_p normM insM Fr.back Fr.backV Fr.setPs normV insV
attribute [local simp high] ba_get
attribute [local simp] ba_size ba_list ba_extract nil_list tabB_len tabA_len tabB_map tabA_rep tabA_rep' tabA_allP tabA_one tabA_reify FF.reify FF.reifyL PV.flat
def trimL (cs l : List UInt8) : List UInt8 := let r := l.take (l.length - tw (inT cs) l.reverse); r.drop (tw (inT cs) r)
theorem b75 (l cs : List UInt8) (hl : l.length ≤ 9223372036854775807) (hcl : cs.length ≤ 9223372036854775807) (hc : ∀ c ∈ cs, c.toNat < 128) (h1 : 1 < cs.length) (h0 : l ≠ []) : Best Tryd.prog 75 [.str (ba l), .str (ba cs)] (.p (.str (ba (trimL cs l)))) := by
  refine best mixed fn75 ok75 (by simp) ?_
  have e1 : (l == []) = false := by cases l <;> simp_all
  have e2 : (cs == []) = false := by cases cs <;> simp_all
  have e3 : ¬ (cs.length = 1) := by omega
  have e3' : ¬ ((cs.length : Int) = 1) := by omega
  simp -dsimp [ac75, -List.reduceReplicate, e1, e2, e3, e3', h0]
  refine call_p (b95 cs hcl hc) rfl (by simp) ?_
  have d1 := tabA_drop (fun _ => false) (i := 256) (by omega)
  simp -dsimp [-List.reduceReplicate, d1]
  refine call_f (b97 (inT cs) l hl) (by simp) rfl (by simp) ?_
  simp -dsimp
  refine call_f (b96 (inT cs) (l.take (l.length - tw (inT cs) l.reverse)) (by rw [List.length_take]; omega)) (by simp) rfl (by simp) ?_
  simp -dsimp [trimL]

theorem tw_lt {p : Nat → Bool} : ∀ {l : List UInt8}, (∃ b ∈ l, p b.toNat = false) → tw p l < l.length
  | [], h => by simp at h
  | b :: l, h => by
    cases hp : p b.toNat with
    | false => simp [tw, List.takeWhile_cons, hp]
    | true =>
      have := tw_lt (p := p) (l := l) (by
        obtain ⟨x, h1, h2⟩ := h
        simp at h1
        rcases h1 with rfl | h1
        · rw [hp] at h2; simp at h2
        · exact ⟨x, h1, h2⟩)
      simp only [tw] at this ⊢
      simp [List.takeWhile_cons, hp]; omega
theorem tw_le {p : Nat → Bool} : ∀ {l : List UInt8}, tw p l ≤ l.length
  | [] => Nat.le_refl _
  | b :: l => by
    have := tw_le (p := p) (l := l)
    cases hp : p b.toNat <;> simp [tw, List.takeWhile_cons, hp] at this ⊢; omega
theorem tw_get {p : Nat → Bool} : ∀ {l : List UInt8} {x : UInt8}, l[tw p l]? = some x → p x.toNat = false
  | [], x, h => by simp at h
  | b :: l, x, h => by
    cases hp : p b.toNat with
    | false => simp [tw, List.takeWhile_cons, hp] at h; subst h; exact hp
    | true =>
      refine tw_get (l := l) ?_
      simp only [tw] at h ⊢
      simpa [List.takeWhile_cons, hp] using h
theorem trim_nil {cs l : List UInt8} : trimL cs l = [] ↔ ∀ b ∈ l, inT cs b.toNat = true := by
  constructor
  · intro h b hb
    cases hp : inT cs b.toNat with
    | true => rfl
    | false =>
      exfalso
      have h1 := tw_lt (p := inT cs) (l := l.reverse) ⟨b, by simpa using hb, hp⟩
      have h1' : tw (inT cs) l.reverse < l.length := by simpa using h1
      obtain ⟨x, hx⟩ : ∃ x, l.reverse[tw (inT cs) l.reverse]? = some x := ⟨_, List.getElem?_eq_getElem h1⟩
      have hpx := tw_get hx
      have hmem : x ∈ l.take (l.length - tw (inT cs) l.reverse) := by
        rw [List.getElem?_reverse h1'] at hx
        refine List.mem_of_getElem? (i := l.length - 1 - tw (inT cs) l.reverse) ?_
        rw [List.getElem?_take, if_pos (by omega)]
        exact hx
      have h2 := tw_lt (p := inT cs) (l := l.take (l.length - tw (inT cs) l.reverse)) ⟨x, hmem, hpx⟩
      have : (trimL cs l).length = 0 := by rw [h]; rfl
      simp only [trimL, List.length_drop] at this
      omega
  · intro h
    have e : tw (inT cs) l.reverse = l.length := by rw [tw_all (by simpa using h)]; simp
    simp [trimL, e]
end Go.Abs.A09
namespace Go.Abs.A09
open Go Go.Abs Go.Proofs
set_option maxRecDepth 100000
set_option linter.unusedVariables false
set_option linter.unusedSimpArgs false
attribute [local simp ↓] awp_skip awp_seq awp_cond awp_block awp_exit awp_ret awp_reg awp_draw awp_ghost awp_loop awp_rfun awpR_nil awpR_cons awpX_nil awpX_0 awpX_1 awpX_2 awpI_eq awpI_t awpI_f awpStep_eq
attribute [local simp] condL_true condL_false condL_dec evDel evV evN evS evA initFr Ghost.app Fr.var Fr.blk Fr.ff FF.val Abs.look Fr.app Fr.erase Fr.noSlot AV.noSlot AV.noSlotL Blk.noSlot Fr.spoken AV.fz AV.fzL Blk.fz binV binI shI binS unV fillA FF.parts FF.vals headO intO boundO lenV scalarEq leavesEq AV.aggc AV.cells FF.read FF.rows AV.one PV.one chunk freshB newS pickV retK evRs evRl evR resOf mkTup mkAgg allP cloOf okP_nil okX_p okX okP addN Del.noSlot Del.owners Rnd reify_p normM insM Fr.back Fr.backV Fr.setPs normV insV
attribute [local simp high] ba_get
attribute [local simp] ba_size ba_list ba_extract nil_list
theorem factOf_fn {P : Program} {f : FuncId} {x : AC × List RO × Nat} (h : factOf P f = some x) : ∃ fn, P.funcs[f]? = some fn ∧ fn.body.isSome = true ∧ (fn.name == "runtime.NumGoroutine") = false := by
  unfold factOf at h
  split at h
  · rename_i fn h1
    split at h
    · rename_i h2
      split at h
      · rename_i ac rs h3 h4
        simp only [Option.bind_eq_some_iff] at h3
        obtain ⟨c, h5, _⟩ := h3
        exact ⟨fn, h1, by rw [h5]; rfl, h2⟩
      · simp at h
    · simp at h
  · simp at h
/-- A contract of the kit, for strings, that turns nothing. -/
theorem best_str2 {P : Program} {f : FuncId} {a b : ByteArray} {v : PV} {x : Value} (hf : ∃ fn, P.funcs[f]? = some fn ∧ fn.body.isSome = true ∧ (fn.name == "runtime.NumGoroutine") = false) (hv : ∀ S, PRel S v x) (h : ∀ w, Calls P f #[.string a, .string b] w fun e w' => e = .returned x ∧ w' = w) : Best P f [.str a, .str b] (.p v) := by
  refine ⟨hf, fun S w xs hS hx => ?_⟩
  obtain ⟨hl, hh⟩ := hx
  match xs, hl with
  | [x1, x2], _ =>
    have h1 := hh 0 _ x1 rfl rfl
    have h2 := hh 1 _ x2 rfl rfl
    cases h1
    cases h2
    refine (h w).mono ?_
    rintro e w' ⟨rfl, rfl⟩
    exact ⟨x, S, rfl, Keep.refl _, fun _ _ q => q, hS, fun _ _ q => .inl q, hv S⟩
def ltB (b : UInt8) : Bool := decide (97 ≤ b.toNat) && decide (b.toNat ≤ 122)
def dgB (b : UInt8) : Bool := decide (48 ≤ b.toNat) && decide (b.toNat ≤ 57)
def lettersL : List UInt8 := [97, 98, 99, 100, 101, 102, 103, 104, 105, 106, 107, 108, 109, 110, 111, 112, 113, 114, 115, 116, 117, 118, 119, 120, 121, 122]
def nameL : List UInt8 := [97, 98, 99, 100, 101, 102, 103, 104, 105, 106, 107, 108, 109, 110, 111, 112, 113, 114, 115, 116, 117, 118, 119, 120, 121, 122, 48, 49, 50, 51, 52, 53, 54, 55, 56, 57]
theorem inT_name (b : UInt8) : inT nameL b.toNat = (ltB b || dgB b) := by
  have h : ∀ n : Fin 256, inT nameL (UInt8.ofNat n.val).toNat = (ltB (UInt8.ofNat n.val) || dgB (UInt8.ofNat n.val)) := by decide +kernel
  have := h ⟨b.toNat, b.toNat_lt⟩
  simpa using this
theorem idx_letters (b : UInt8) : decide (0 ≤ Lib.indexByte lettersL b) = ltB b := by
  have h : ∀ n : Fin 256, decide (0 ≤ Lib.indexByte lettersL (UInt8.ofNat n.val)) = ltB (UInt8.ofNat n.val) := by decide +kernel
  have := h ⟨b.toNat, b.toNat_lt⟩
  simpa using this
theorem b76 (b : UInt8) : Best Tryd.prog 76 [.str (ba lettersL), .str (ba [b])] (.p (.bool (ltB b))) :=
  best_str2 (x := .bool (ltB b)) (factOf_fn fn76) (fun S => .bool _) fun w => by
    have := Tryd.strings_Contains_one (ba lettersL) b w
    have e : (ba lettersL).data.toList = lettersL := by simp [ba]
    rw [e, idx_letters] at this
    exact this
/-- Is it a name? -/
def nmB (l : List UInt8) : Bool := match l with
  | [] => false
  | b :: t => decide ((b :: t).length ≤ 12) && (ltB b && (b :: t).all fun c => ltB c || dgB c)
theorem b44 (l : List UInt8) : Best Tryd.prog 44 [.str (ba l)] (.p (.bool (nmB l))) := by
  refine best mixed fn44 ok44 (by simp) ?_
  match l with
  | [] => simp -dsimp [ac44, nmB]
  | b :: t =>
    by_cases h1 : t.length + 1 ≤ 12
    rotate_left
    · have h1' : ¬ ((t.length : Int) + 1 ≤ 12) := by omega
      have : nmB (b :: t) = false := by simp [nmB, h1]
      simp -dsimp [ac44, h1', this]
    have h0 : (0 : Int) < (t.length : Int) + 1 := by omega
    have h1' : (t.length : Int) + 1 ≤ 12 := by omega
    have hT := b75 (b :: t) nameL (by simp; omega) (by simp [nameL]) (by decide) (by decide) (by simp)
    have e : (trimL nameL (b :: t) == []) = (b :: t).all fun c => ltB c || dgB c := by
      have := trim_nil (cs := nameL) (l := b :: t)
      cases hA : (b :: t).all fun c => ltB c || dgB c with
      | true =>
        rw [List.all_eq_true] at hA
        rw [this.2 fun c hc => by rw [inT_name]; exact hA c hc]; rfl
      | false =>
        cases hB : trimL nameL (b :: t) == [] with
        | false => rfl
        | true =>
          have hB := this.1 (by simpa using hB)
          rw [List.all_eq_false] at hA
          obtain ⟨x, hx, hx2⟩ := hA
          have := hB x hx
          rw [inT_name] at this
          exact absurd this hx2
    simp -dsimp [ac44, h0, h1']
    refine call_p hT rfl (by simp) ?_
    cases hA : (b :: t).all fun c => ltB c || dgB c with
    | false =>
      rw [hA] at e
      have : nmB (b :: t) = false := by simp only [nmB, hA, Bool.and_false]
      have e' : ¬ trimL nameL (b :: t) = [] := by simpa using e
      simp -dsimp [e, e', this]
    | true =>
      rw [hA] at e
      have : nmB (b :: t) = ltB b := by
        simp only [nmB, hA, Bool.and_true]
        rw [decide_eq_true (by simpa using h1)]; simp
      have e' : trimL nameL (b :: t) = [] := by simpa using e
      have h1'' : (1 : Int) ≤ (t.length : Int) + 1 := by omega
      simp -dsimp [e, e', h1'']
      refine call_p (b76 b) rfl (by simp) ?_
      simp -dsimp [this]
theorem allnm {l : List UInt8} {k : Nat} {x : UInt8} (hx : l[k]? = some x) (h : (ltB x || dgB x) = false) : nmB l = false := by
  match l with
  | [] => rfl
  | b :: t =>
    have : ((b :: t).all fun c => ltB c || dgB c) = false := by
      rw [List.all_eq_false]
      exact ⟨x, List.mem_of_getElem? hx, by simp [h]⟩
    simp only [nmB, this, Bool.and_false]
theorem b48 (l : List UInt8) (hl : l.length ≤ 9223372036854775807) : Best Tryd.prog 48 [.str (ba l)] (.p (.bool (nmB l))) := by
  refine best mixed fn48 ok48 (by simp) ?_
  by_cases h1 : (l.length : Int) < 1
  · have : l = [] := by cases l <;> simp_all; omega
    subst this
    simp -dsimp [ac48, nmB]
  by_cases h2 : (12 : Int) < l.length
  · have : nmB l = false := by
      match l with
      | [] => rfl
      | b :: t => simp only [nmB]; rw [decide_eq_false (by simp at h2 ⊢; omega)]; rfl
    simp -dsimp [ac48, h1, h2, this]
  obtain ⟨x, t, rfl⟩ : ∃ x t, l = x :: t := by
    match l with
    | [] => simp at h1
    | b :: t => exact ⟨b, t, rfl⟩
  by_cases h3 : (x.toNat : Int) < 97
  · have : nmB (x :: t) = false := by
      have : ltB x = false := by unfold ltB; rw [decide_eq_false (by omega)]; rfl
      simp [nmB, this]
    simp only [List.length_cons, Int.natCast_add, Int.natCast_one] at h1 h2
    simp -dsimp [ac48, h1, h2, h3, this]
  by_cases h4 : (122 : Int) < x.toNat
  · have : nmB (x :: t) = false := by
      have : ltB x = false := by unfold ltB; rw [Bool.and_eq_false_iff]; right; exact decide_eq_false (by omega)
      simp [nmB, this]
    simp only [List.length_cons, Int.natCast_add, Int.natCast_one] at h1 h2
    simp -dsimp [ac48, h1, h2, h3, h4, this]
  have hlt : ltB x = true := by unfold ltB; rw [decide_eq_true (by omega), decide_eq_true (by omega)]; rfl
  have h1' : ¬ ((t.length : Int) + 1 < 1) := by omega
  have h2' : ¬ ((12 : Int) < (t.length : Int) + 1) := by simp only [List.length_cons, Int.natCast_add, Int.natCast_one] at h2; exact h2
  have h12 : t.length + 1 ≤ 12 := by omega
  simp -dsimp [ac48, h1', h2', h3, h4]
  refine loopC (t.length + 1) (fun k => ⟨[(0, .p (.str (ba (x :: t)))), (3, .p (.int .i64 k))], []⟩) (fun k => ∀ b ∈ (x :: t).take k, (ltB b || dgB b) = true) (fun k hk hall => ?_) (by simp) (by simp)
  by_cases h : k < t.length + 1
  · obtain ⟨y, ey⟩ : ∃ y, (x :: t)[k] = y := ⟨_, rfl⟩
    have hy : (x :: t)[k]? = some y := by rw [List.getElem?_eq_getElem (by simpa using h), ey]
    have w : R ((k : Int) + 1) := ⟨by omega, by omega⟩
    have c0 : (k : Int) < (t.length : Int) + 1 := by omega
    have no := fun h => allnm hy h
    have go : (ltB y || dgB y) = true → _ := fun h => take_succ_all (p := fun b : UInt8 => (ltB b || dgB b) = true) hy hall h
    have hk0 : ¬ ((k : Int) < 0) := by omega
    by_cases q1 : (97 : Int) ≤ y.toNat
    · by_cases q2 : (y.toNat : Int) ≤ 122
      · have : ltB y = true := by unfold ltB; rw [decide_eq_true (by omega), decide_eq_true (by omega)]; rfl
        have q3 : ¬ (y.toNat : Int) ≤ 57 := by omega
        have q4 : (48 : Int) ≤ y.toNat := by omega
        have go := go (by rw [this]; rfl)
        simp -dsimp [c0, hy, ey, q1, q2, q3, q4, wr w, h]
        simpa using go
      · have q3 : ¬ (y.toNat : Int) ≤ 57 := by omega
        have q4 : (48 : Int) ≤ y.toNat := by omega
        have no := no (by unfold ltB dgB; rw [decide_eq_false (by omega : ¬ y.toNat ≤ 122), decide_eq_false (by omega : ¬ y.toNat ≤ 57)]; simp)
        simp -dsimp [c0, hy, ey, q1, q2, q3, q4, no]
    · by_cases q2 : (48 : Int) ≤ y.toNat
      · by_cases q3 : (y.toNat : Int) ≤ 57
        · have : dgB y = true := by unfold dgB; rw [decide_eq_true (by omega), decide_eq_true (by omega)]; rfl
          have go := go (by rw [this]; simp)
          simp -dsimp [c0, hy, ey, q1, q2, q3, wr w, h]
          simpa using go
        · have no := no (by unfold ltB dgB; rw [decide_eq_false (by omega : ¬ 97 ≤ y.toNat), decide_eq_false (by omega : ¬ y.toNat ≤ 57)]; simp)
          simp -dsimp [c0, hy, ey, q1, q2, q3, no]
      · have no := no (by unfold ltB dgB; rw [decide_eq_false (by omega : ¬ 97 ≤ y.toNat), decide_eq_false (by omega : ¬ 48 ≤ y.toNat)]; simp)
        simp -dsimp [c0, hy, ey, q1, q2, no]
  · have : k = t.length + 1 := by omega
    subst this
    have hall : ∀ b ∈ x :: t, (ltB b || dgB b) = true := by
      have e : (x :: t).take (t.length + 1) = x :: t := by simp
      rwa [e] at hall
    have : nmB (x :: t) = true := by
      simp only [nmB]
      rw [decide_eq_true (by simpa using h12), hlt, List.all_eq_true.2 hall]; rfl
    simp -dsimp [this]
end Go.Abs.A09
namespace Go.Abs.A09
open Go Go.Abs Go.Proofs
set_option maxRecDepth 100000
set_option linter.unusedVariables false
set_option linter.unusedSimpArgs false
attribute [local simp ↓] awp_skip awp_seq awp_cond awp_block awp_exit awp_ret awp_reg awp_draw awp_ghost awp_loop awp_rfun awpR_nil awpR_cons awpX_nil awpX_0 awpX_1 awpX_2 awpI_eq awpI_t awpI_f awpStep_eq
attribute [local simp] condL_true condL_false condL_dec evDel evV evN evS evA initFr Ghost.app Fr.var Fr.blk Fr.ff FF.val Abs.look Fr.app Fr.erase Fr.noSlot AV.noSlot AV.noSlotL Blk.noSlot Fr.spoken AV.fz AV.fzL Blk.fz binV binI shI binS unV fillA FF.parts FF.vals headO intO boundO lenV scalarEq leavesEq AV.aggc AV.cells FF.read FF.rows AV.one PV.one chunk freshB newS pickV retK evRs evRl evR resOf mkTup mkAgg allP cloOf okP_nil okX_p okX okP addN Del.noSlot Del.owners Rnd reify_p normM insM Fr.back Fr.backV Fr.setPs normV insV
theorem b77 (m : List (Int × Int)) (v : Int × Int) (hl : m.length ≤ 9223372036854775807) : Best Tryd.prog 77 [.sl 2 (m.map pRow), .agg (pRow v)] (.p (.int .i64 (idxS (fun p => decide (v.1 = p.1) && decide (v.2 = p.2)) m))) := by
  refine best mixed fn77 ok77 (by simp) ?_
  obtain ⟨v1, v2⟩ := v
  simp -dsimp [ac77, pRow]
  refine loopC m.length (fun k => ⟨[(0, .p (.sl 2 (m.map pRow))), (3, .ptr (3, 0) 2 0 0), (7, .p (.int .i64 m.length)), (8, .p (.int .i64 k))], [((3, 0), .box [.p (.int .i64 v1), .p (.int .i64 v2)])]⟩) (fun k => ∀ y ∈ m.take k, (decide (v1 = y.1) && decide (v2 = y.2)) = false) (fun k hk hall => ?_) (by simp) (by simp)
  by_cases h : k < m.length
  · obtain ⟨⟨x1, x2⟩, ex⟩ : ∃ x, m[k] = x := ⟨_, rfl⟩
    have hx : m[k]? = some (x1, x2) := by rw [List.getElem?_eq_getElem h, ex]
    have w : R ((k : Int) + 1) := ⟨by omega, by omega⟩
    have hit := fun h2 => idxS_hit (q := fun p : Int × Int => decide (v1 = p.1) && decide (v2 = p.2)) hx hall h2
    have go := fun h2 => take_succ_all (p := fun y : Int × Int => (decide (v1 = y.1) && decide (v2 = y.2)) = false) hx hall h2
    by_cases q1 : v1 = x1
    · by_cases q2 : v2 = x2
      · have := hit (by simp [q1, q2])
        subst q1 q2
        simp -dsimp [h, ex, pRow, this]
      · have := go (by simp [q2])
        subst q1
        simp -dsimp [h, ex, pRow, q2, wr w]
        simpa using this
    · have := go (by simp [q1])
      simp -dsimp [h, ex, pRow, q1, wr w]
      simpa using this
  · have : k = m.length := by omega
    subst this
    rw [List.take_length] at hall
    simp -dsimp [idxS_none hall]
theorem b45 (m : List (Int × Int)) (v : Int × Int) (hl : m.length ≤ 9223372036854775807) : Best Tryd.prog 45 [.sl 2 (m.map pRow), .agg (pRow v)] (.p (.bool (decide (v ∈ m)))) := by
  refine best mixed fn45 ok45 (by simp) ?_
  have h7 := b77 m v hl
  have := idxS_ge (q := fun p : Int × Int => decide (v.1 = p.1) && decide (v.2 = p.2)) (l := m)
  have e : (m.any fun p => decide (v.1 = p.1) && decide (v.2 = p.2)) = decide (v ∈ m) := by
    rw [Bool.eq_iff_iff]
    simp only [List.any_eq_true, Bool.and_eq_true, decide_eq_true_eq]
    constructor
    · rintro ⟨p, h1, h2, h3⟩
      have : v = p := by ext <;> assumption
      rw [this]; exact h1
    · intro h; exact ⟨v, h, rfl, rfl⟩
  rw [e] at this
  generalize idxS (fun p : Int × Int => decide (v.1 = p.1) && decide (v.2 = p.2)) m = z at *
  generalize decide (v ∈ m) = b at *
  obtain ⟨v1, v2⟩ := v
  simp -dsimp [ac45, pRow] at h7 ⊢
  refine call_p h7 rfl (by simp) ?_
  by_cases h : 0 ≤ z <;> simp only [h, decide_true, decide_false] at this <;> simp -dsimp [h, ← this]
theorem fdiv2 (n : Int) : n.fdiv 2 = n / 2 := by rw [Int.fdiv_eq_ediv_of_nonneg _ (by omega)]
theorem wu {n : Int} (h1 : 0 ≤ n) (h2 : n ≤ 18446744073709551615) : IntKind.u64.wrap n = n := by
  have e : IntKind.u64.wrap n = n % 18446744073709551616 := by
    unfold IntKind.wrap
    have h1 : IntKind.u64.signed = false := rfl
    have h2 : (2 : Int) ^ IntKind.u64.bits = 18446744073709551616 := by decide
    simp only [h1, h2, Bool.false_and, Bool.false_eq_true, if_false]
  rw [e]; omega
theorem b50 {f : FuncId} {ca : List PV} {q : Nat → Bool} {n : Nat} (hn : n < 4611686018427387904) (hq : ∀ i, i < n → Best Tryd.prog f (.int .i64 i :: ca) (.p (.bool (q i)))) {k0 : Nat} (hk : k0 ≤ n) (h1 : ∀ i, i < k0 → q i = false) (h2 : ∀ i, k0 ≤ i → i < n → q i = true) : Best Tryd.prog 50 [.int .i64 n, .clo (.func f) [] ca] (.p (.int .i64 k0)) := by
  refine best mixed fn50 ok50 (by simp) ?_
  simp -dsimp [ac50]
  refine loopL_rule (fun m F => ∃ i j : Nat, m = j - i ∧ i ≤ k0 ∧ k0 ≤ j ∧ j ≤ n ∧ (Ghost.keep [1, 5, 6]).app F = some ⟨[(1, .p (.clo (.func f) [] ca)), (5, .p (.int .i64 i)), (6, .p (.int .i64 j))], []⟩) ?_ ⟨0, n, rfl, by omega, hk, by omega, by simp⟩
  rintro m F ⟨i, j, rfl, hi, hj, hjn, hF⟩
  rw [awp_ghost, hF]
  by_cases h : i < j
  · have w1 : R ((i : Int) + j) := ⟨by omega, by omega⟩
    have w2 := wu (n := (i : Int) + j) (by omega) (by omega)
    have w3 := wu (n := ((i : Int) + j) / 2) (by omega) (by omega)
    obtain ⟨c, hc⟩ : ∃ c : Nat, c = (i + j) / 2 := ⟨_, rfl⟩
    have e : ((i : Int) + j) / 2 = (c : Int) := by omega
    have w4 : R (c : Int) := ⟨by omega, by omega⟩
    have w5 : R ((c : Int) + 1) := ⟨by omega, by omega⟩
    have hcall := hq c (by omega)
    have hb : (2 : Int) ^ (min 1 IntKind.u64.bits) = 2 := by decide
    simp -dsimp [h, wr w1, w2, hb, fdiv2, e, wr w4]
    refine call_p hcall (by simp [allP, allP_map]) (by simp) ?_
    cases hqc : q c with
    | true =>
      have hle : k0 ≤ c := by
        rcases Nat.lt_or_ge c k0 with h3 | h3
        · rw [h1 c h3] at hqc; simp at hqc
        · exact h3
      simp -dsimp
      exact ⟨c - i, by omega, i, c, rfl, hi, hle, by omega, rfl, rfl⟩
    | false =>
      have hle : c < k0 := by
        rcases Nat.lt_or_ge c k0 with h3 | h3
        · exact h3
        · rw [h2 c h3 (by omega)] at hqc; simp at hqc
      simp -dsimp [wr w5]

      exact ⟨j - (c + 1), by omega, c + 1, j, rfl, by omega, hj, hjn, by simp, rfl⟩
  · have e : i = k0 := by omega
    have h' : ¬ k0 < j := by omega
    simp -dsimp [h', e]
end Go.Abs.A09
namespace Go.Abs.A09
open Go Go.Abs Go.Proofs
set_option maxRecDepth 100000
set_option linter.unusedVariables false
set_option linter.unusedSimpArgs false
attribute [local simp ↓] awp_skip awp_seq awp_cond awp_block awp_exit awp_ret awp_reg awp_draw awp_ghost awp_loop awp_rfun awpR_nil awpR_cons awpX_nil awpX_0 awpX_1 awpX_2 awpI_eq awpI_t awpI_f awpStep_eq
attribute [local simp] condL_true condL_false condL_dec evDel evV evN evS evA initFr Ghost.app Fr.var Fr.blk Fr.ff FF.val Abs.look Fr.app Fr.erase Fr.noSlot AV.noSlot AV.noSlotL Blk.noSlot Fr.spoken AV.fz AV.fzL Blk.fz binV binI shI binS unV fillA FF.parts FF.vals headO intO boundO lenV scalarEq leavesEq AV.aggc AV.cells FF.read FF.rows AV.one PV.one chunk freshB newS pickV retK evRs evRl evR resOf mkTup mkAgg allP cloOf okP_nil okX_p okX okP addN Del.noSlot Del.owners Rnd reify_p normM insM Fr.back Fr.backV Fr.setPs normV insV
/-! ### ranges -/
def RG (l : List (Int × Int)) (n : Int) : Prop := 0 ≤ n ∧ n ≤ 3 ∧ l.length = n ∧ ∀ p ∈ l, CO p.1 ∧ CO p.2 ∧ p.1 ≤ p.2
instance {l : List (Int × Int)} {n : Int} : Decidable (RG l n) := inferInstanceAs (Decidable (_ ∧ _ ∧ _ ∧ _))
def PG (p : Int × Int) : Prop := CO p.1 ∧ CO p.2 ∧ p.1 ≤ p.2
instance {p : Int × Int} : Decidable (PG p) := inferInstanceAs (Decidable (_ ∧ _ ∧ _))
theorem b69 (x : Int × Int) : Best Tryd.prog 69 [.agg (pRow x)] (.p (.bool (!decide (PG x)))) := by
  obtain ⟨a, b⟩ := x
  refine best mixed fn69 ok69 (by simp) ?_
  simp -dsimp [ac69, pRow]
  refine call_p (b47' a) rfl (by simp) ?_
  by_cases h1 : CO a
  rotate_left
  · have : ¬ PG (a, b) := fun h => h1 h.1
    simp -dsimp [h1, this]
  simp -dsimp [h1]
  refine call_p (b47' b) rfl (by simp) ?_
  by_cases h2 : CO b
  rotate_left
  · have : ¬ PG (a, b) := fun h => h2 h.2.1
    simp -dsimp [h2, this]
  by_cases h3 : a ≤ b
  · have : PG (a, b) := ⟨h1, h2, h3⟩
    have h3' : ¬ b < a := by omega
    simp -dsimp [h2, h3', this]
  · have : ¬ PG (a, b) := fun h => h3 h.2.2
    have h3' : b < a := by omega
    simp -dsimp [h2, h3', this]
theorem anyPG (r : List (Int × Int)) : (r.any fun x => !decide (PG x)) = !decide (∀ t ∈ r, PG t) := by
  by_cases h : ∀ t ∈ r, PG t
  · rw [decide_eq_true h, List.any_eq_false.2 (fun x hx => by simp [h x hx])]; rfl
  · rw [decide_eq_false h, List.any_eq_true.2 ?_]
    · rfl
    · simpa using h
theorem b32 (r : List (Int × Int)) (n : Int) (hl : r.length ≤ 9223372036854775807) : Best Tryd.prog 32 [.sl 2 (r.map pRow), .int .i64 n] (.p (.bool (decide (RG r n)))) := by
  refine best mixed fn32 ok32 (by simp) ?_
  by_cases h1 : 0 ≤ n
  rotate_left
  · have : ¬ RG r n := fun h => h1 h.1
    simp -dsimp [ac32, h1, this]
  by_cases h2 : n ≤ 3
  rotate_left
  · have : ¬ RG r n := fun h => h2 h.2.1
    simp -dsimp [ac32, h1, h2, this]
  by_cases h3 : (r.length : Int) = n
  rotate_left
  · have : ¬ RG r n := fun h => h3 h.2.2.1
    simp -dsimp [ac32, h1, h2, h3, this]
  have hc := b70 b69 r hl
  rw [anyPG] at hc
  have e : decide (RG r n) = decide (∀ t ∈ r, PG t) := decide_eq_decide.2 ⟨fun h => h.2.2.2, fun h => ⟨h1, h2, h3, h⟩⟩
  rw [e]
  generalize decide (∀ t ∈ r, PG t) = b at *
  simp -dsimp [ac32, h1, h2, h3]
  refine call_p hc rfl (by simp) ?_
  simp -dsimp
theorem b33 (r : List (Int × Int)) (n : Int) : Best Tryd.prog 33 [.sl 2 (r.map pRow), .int .i64 n] (.p (.bool (decide (RG r n)))) := by
  refine best mixed fn33 ok33 (by simp) ?_
  by_cases h1 : n < 0
  · have : ¬ RG r n := fun h => by have := h.1; omega
    simp -dsimp [ac33, h1, this]
  by_cases h2 : 3 < n
  · have : ¬ RG r n := fun h => by have := h.2.1; omega
    simp -dsimp [ac33, h1, h2, this]
  by_cases h3 : (r.length : Int) = n
  rotate_left
  · have : ¬ RG r n := fun h => h3 h.2.2.1
    simp -dsimp [ac33, h1, h2, h3, this]
  subst h3
  have h1' : ¬ ((r.length : Int) < 0) := by omega
  simp -dsimp [ac33, h1', h2]
  refine loopC r.length (fun k => ⟨[(0, .p (.sl 2 (r.map pRow))), (1, .p (.int .i64 r.length)), (5, .p (.int .i64 k))], []⟩) (fun k => ∀ y ∈ r.take k, PG y) (fun k hk hall => ?_) (by simp) (by simp)
  by_cases h : k < r.length
  · obtain ⟨x, ex⟩ : ∃ x, r[k] = x := ⟨_, rfl⟩
    have hx : r[k]? = some x := by simp [h, ex]
    have w : R ((k : Int) + 1) := ⟨by omega, by omega⟩
    have no : ¬ PG x → ¬ RG r r.length := fun h2 h4 => h2 (h4.2.2.2 x (List.mem_of_getElem? hx))
    have go : PG x → ∀ y ∈ r.take (k + 1), PG y := fun h2 => take_succ_all (p := PG) hx hall h2
    obtain ⟨a, b⟩ := x
    simp -dsimp [h, ex, pRow]
    refine call_p (b19' a) rfl (by simp) ?_
    simp -dsimp [h, ex, pRow]
    refine call_p (b19' b) rfl (by simp) ?_
    by_cases q1 : CO a
    rotate_left
    · have := no fun h => q1 h.1
      simp -dsimp [q1, this]
    by_cases q2 : CO b
    rotate_left
    · have := no fun h => q2 h.2.1
      simp -dsimp [q1, q2, this]
    by_cases q3 : b < a
    · have := no fun h => by have := h.2.2; dsimp only at this; omega
      simp -dsimp [q1, q2, q3, h, ex, pRow, this]
    · have := go ⟨q1, q2, by dsimp only; omega⟩
      simp -dsimp [q1, q2, q3, h, ex, pRow, wr w]
      exact fun a b => this (a, b)
  · have : k = r.length := by omega
    subst this
    rw [List.take_length] at hall
    have : RG r r.length := ⟨by omega, by omega, rfl, hall⟩
    simp -dsimp [this]
end Go.Abs.A09
namespace Go.Abs.A09
open Go Go.Abs Go.Proofs
set_option maxRecDepth 100000
set_option linter.unusedVariables false
set_option linter.unusedSimpArgs false
attribute [local simp ↓] awp_skip awp_seq awp_cond awp_block awp_exit awp_ret awp_reg awp_draw awp_ghost awp_loop awp_rfun awpR_nil awpR_cons awpX_nil awpX_0 awpX_1 awpX_2 awpI_eq awpI_t awpI_f awpStep_eq
attribute [local simp] condL_true condL_false condL_dec evDel evV evN evS evA initFr Ghost.app Fr.var Fr.blk Fr.ff FF.val Abs.look Fr.app Fr.erase Fr.noSlot AV.noSlot AV.noSlotL Blk.noSlot Fr.spoken AV.fz AV.fzL Blk.fz binV binI shI binS unV fillA FF.parts FF.vals headO intO boundO lenV scalarEq leavesEq AV.aggc AV.cells FF.read FF.rows AV.one PV.one chunk freshB newS pickV retK evRs evRl evR resOf mkTup mkAgg allP cloOf okP_nil okX_p okX okP addN Del.noSlot Del.owners Rnd reify_p normM insM Fr.back Fr.backV Fr.setPs normV insV
def WI (a : List Int) (l : List (Int × Int)) : Prop := RG l a.length ∧ ∀ x ∈ a.zip l, x.2.1 ≤ x.1 ∧ x.1 ≤ x.2.2
instance {a : List Int} {l : List (Int × Int)} : Decidable (WI a l) := inferInstanceAs (Decidable (_ ∧ _))
theorem zip_get {α β : Type} {a : List α} {b : List β} {k : Nat} {x : α} {y : β} (h1 : a[k]? = some x) (h2 : b[k]? = some y) : (a.zip b)[k]? = some (x, y) := by
  simp [List.zip, List.getElem?_zipWith, h1, h2]
theorem zipS_inv {α β : Type} {f : α → PV} {g : β → PV} {a : List α} {b : List β} {k : Nat} {z : List PV} (h : (zipS f g a b)[k]? = some z) : ∃ x y, (a.zip b)[k]? = some (x, y) ∧ z = [f x, g y] := by
  simp only [zipS, List.getElem?_map, Option.map_eq_some_iff] at h
  obtain ⟨⟨x, y⟩, h1, h2⟩ := h
  exact ⟨x, y, h1, h2.symm⟩
theorem b34 (a : List Int) (l : List (Int × Int)) (ha : a.length ≤ 9223372036854775807) (hl : l.length ≤ 9223372036854775807) : Best Tryd.prog 34 [.sl 1 (a.map intRow), .sl 2 (l.map pRow)] (.p (.bool (decide (WI a l)))) := by
  refine best mixed fn34 ok34 (by simp) ?_
  simp -dsimp [ac34]
  refine call_p (b32 l a.length hl) rfl (by simp) ?_
  by_cases h1 : RG l a.length
  rotate_left
  · have : ¬ WI a l := fun h => h1 h.1
    simp -dsimp [h1, this]
  simp -dsimp [h1]
  refine call_p (b71 (a.map intRow) (l.map pRow)) rfl (by simp) ?_
  simp -dsimp
  refine rfunL_rule rfl rfl (g90 a l ha) (fun k F => F = ⟨[(4, .ptr (4, 0) 1 0 0), (14, .p (.clo (.func 90) [] [.ro [.sl 1 (a.map intRow)], .ro [.sl 2 (l.map pRow)]]))], [((4, 0), .box [.p (.bool false)])]⟩ ∧ ∀ x ∈ (a.zip l).take k, x.2.1 ≤ x.1 ∧ x.1 ≤ x.2.2) ?_ ?_ ⟨by simp, by simp⟩
  · rintro k z F hz ⟨hF, hall⟩
    obtain ⟨x, ⟨y1, y2⟩, hxy, rfl⟩ := zipS_inv hz
    refine ⟨by simp, ?_⟩
    have no : ¬ (y1 ≤ x ∧ x ≤ y2) → ¬ WI a l := fun h1 h2 => h1 (h2.2 _ (List.mem_of_getElem? hxy))
    have go : y1 ≤ x ∧ x ≤ y2 → ∀ z ∈ (a.zip l).take (k + 1), z.2.1 ≤ z.1 ∧ z.1 ≤ z.2.2 := fun h => take_succ_all (p := fun z : Int × Int × Int => z.2.1 ≤ z.1 ∧ z.1 ≤ z.2.2) hxy hall h
    by_cases q1 : x < y1
    · have := no (by omega)
      subst hF; simp -dsimp [vI, vP, pRow, q1, this]
    by_cases q2 : y2 < x
    · have := no (by omega)
      subst hF; simp -dsimp [vI, vP, pRow, q1, q2, this]
    have := go (by omega)
    subst hF
    simp -dsimp [vI, vP, pRow, q1, q2]; exact fun a b c => this (a, b, c)
  · rintro F ⟨hF, hall⟩
    have hz : (zipS vI vP a l).length = (a.zip l).length := by simp [zipS]
    rw [hz, List.take_length] at hall
    have : WI a l := ⟨h1, hall⟩
    subst hF; simp -dsimp [this]
end Go.Abs.A09
namespace Go.Abs.A09
open Go Go.Abs Go.Proofs
set_option maxRecDepth 100000
set_option linter.unusedVariables false
set_option linter.unusedSimpArgs false
attribute [local simp ↓] awp_skip awp_seq awp_cond awp_block awp_exit awp_ret awp_reg awp_draw awp_ghost awp_loop awp_rfun awpR_nil awpR_cons awpX_nil awpX_0 awpX_1 awpX_2 awpI_eq awpI_t awpI_f awpStep_eq
attribute [local simp] condL_true condL_false condL_dec evDel evV evN evS evA initFr Ghost.app Fr.var Fr.blk Fr.ff FF.val Abs.look Fr.app Fr.erase Fr.noSlot AV.noSlot AV.noSlotL Blk.noSlot Fr.spoken AV.fz AV.fzL Blk.fz binV binI shI binS unV fillA FF.parts FF.vals headO intO boundO lenV scalarEq leavesEq AV.aggc AV.cells FF.read FF.rows AV.one PV.one chunk freshB newS pickV retK evRs evRl evR resOf mkTup mkAgg allP cloOf okP_nil okX_p okX okP addN Del.noSlot Del.owners Rnd reify_p normM insM Fr.back Fr.backV Fr.setPs normV insV
structure Ax where
  nm : List UInt8
  lo : Int
  df : Int
  hi : Int
  m : List (Int × Int)
def axC (a : Ax) : List PV := [.str (ba a.nm), .int .i64 a.lo, .int .i64 a.df, .int .i64 a.hi, .sl 2 (a.m.map pRow)]
/-- Two points, one behind the other. -/
def UP (x y : Int × Int) : Prop := x.1 < y.1 ∧ x.2 ≤ y.2
instance {x y : Int × Int} : Decidable (UP x y) := inferInstanceAs (Decidable (_ ∧ _))
structure AXP (a : Ax) : Prop where
  b1 : -10000 ≤ a.lo
  b2 : a.lo ≤ a.df
  b3 : a.df ≤ a.hi
  b4 : a.hi ≤ 10000
  n1 : 1 ≤ a.m.length
  n2 : a.m.length ≤ 6
  f0 : (a.m.getD 0 (0, 0)).1 = a.lo
  fl : (a.m.getD (a.m.length - 1) (0, 0)).1 = a.hi
  dm : (a.df, 0) ∈ a.m
  up : ∀ x ∈ a.m.zip a.m.tail, UP x.1 x.2
  co : ∀ p ∈ a.m, CO p.2
open Classical in
noncomputable def chkS (a : Ax) : Int := if nmB a.nm = false then 36 else if AXP a then 0 else 10
theorem chk_name {a : Ax} (h : nmB a.nm = false) : chkS a = 36 := if_pos h
theorem chk_no {a : Ax} (h : nmB a.nm = true) (h2 : ¬ AXP a) : chkS a = 10 := by unfold chkS; rw [if_neg (by simp [h]), if_neg h2]
theorem chk_ok {a : Ax} (h : nmB a.nm = true) (h2 : AXP a) : chkS a = 0 := by unfold chkS; rw [if_neg (by simp [h]), if_pos h2]
theorem chk_zero {a : Ax} : chkS a = 0 ↔ nmB a.nm = true ∧ AXP a := by
  unfold chkS
  cases h : nmB a.nm <;> simp
/-- Coordinates that increase are all such, if the first and the last ones are. -/
theorem up_get {m : List (Int × Int)} (hup : ∀ x ∈ m.zip m.tail, UP x.1 x.2) {i : Nat} {x y : Int × Int} (h1 : m[i]? = some x) (h2 : m[i + 1]? = some y) : UP x y := by
  have : (m.zip m.tail)[i]? = some (x, y) := zip_get h1 (by rw [List.getElem?_tail]; exact h2)
  exact hup _ (List.mem_of_getElem? this)
theorem up_le {m : List (Int × Int)} (hup : ∀ x ∈ m.zip m.tail, UP x.1 x.2) : ∀ {j i : Nat} {x y : Int × Int}, i ≤ j → m[i]? = some x → m[j]? = some y → x.1 ≤ y.1 ∧ x.2 ≤ y.2 ∧ (i < j → x.1 < y.1)
  | 0, i, x, y, hij, h1, h2 => by
    have : i = 0 := by omega
    subst this
    rw [h1] at h2; simp at h2; subst h2
    exact ⟨Int.le_refl _, Int.le_refl _, fun h => by omega⟩
  | j + 1, i, x, y, hij, h1, h2 => by
    by_cases he : i = j + 1
    · subst he
      rw [h1] at h2; simp at h2; subst h2
      exact ⟨Int.le_refl _, Int.le_refl _, fun h => by omega⟩
    · have hlt : j < m.length := by have := (List.getElem?_eq_some_iff.1 h2).1; omega
      obtain ⟨z, hz⟩ : ∃ z, m[j]? = some z := ⟨_, List.getElem?_eq_getElem hlt⟩
      have a1 := up_le hup (j := j) (i := i) (by omega) h1 hz
      have a2 := up_get hup hz h2
      unfold UP at a2
      exact ⟨by omega, by omega, fun _ => by omega⟩
theorem co_all {m : List (Int × Int)} (hup : ∀ x ∈ m.zip m.tail, UP x.1 x.2) {x y : Int × Int} (h1 : m[0]? = some x) (h2 : m[m.length - 1]? = some y) (hx : CO x.2) (hy : CO y.2) : ∀ p ∈ m, CO p.2 := by
  intro p hp
  obtain ⟨i, hi⟩ := List.getElem?_of_mem hp
  have hlt := (List.getElem?_eq_some_iff.1 hi).1
  have a1 := up_le hup (Nat.zero_le i) h1 hi
  have a2 := up_le hup (by omega : i ≤ m.length - 1) hi h2
  unfold CO at *
  omega
set_option maxHeartbeats 2000000 in
theorem b14 (a : Ax) (hl : a.m.length ≤ 9223372036854775807) : Best Tryd.prog 14 [.agg (axC a)] (.p (.int .i64 (chkS a))) := by
  refine best mixed fn14 ok14 (by simp) ?_
  obtain ⟨nm, lo, df, hi, m⟩ := a
  dsimp only at hl
  simp -dsimp [ac14, axC]
  refine call_p (b44 nm) rfl (by simp) ?_
  cases hn : nmB nm with
  | false =>
    have := chk_name (a := ⟨nm, lo, df, hi, m⟩) hn
    simp -dsimp [this]
  | true =>
  have no : ¬ AXP ⟨nm, lo, df, hi, m⟩ → chkS ⟨nm, lo, df, hi, m⟩ = 10 := chk_no hn
  by_cases q1 : lo < -10000
  · have := no fun h => by have := h.b1; dsimp only at this; omega
    simp -dsimp [q1, this]
  by_cases q2 : df < lo
  · have := no fun h => by have := h.b2; dsimp only at this; omega
    simp -dsimp [q1, q2, this]
  by_cases q3 : hi < df
  · have := no fun h => by have := h.b3; dsimp only at this; omega
    simp -dsimp [q1, q2, q3, this]
  by_cases q4 : 10000 < hi
  · have := no fun h => by have := h.b4; dsimp only at this; omega
    simp -dsimp [q1, q2, q3, q4, this]
  by_cases q5 : (m.length : Int) < 1
  · have := no fun h => by have := h.n1; dsimp only at this; omega
    simp -dsimp [q1, q2, q3, q4, q5, this]
  by_cases q6 : 6 < (m.length : Int)
  · have := no fun h => by have := h.n2; dsimp only at this; omega
    simp -dsimp [q1, q2, q3, q4, q5, q6, this]
  have hm0 : 0 < m.length := by omega
  obtain ⟨⟨x1, x2⟩, ex⟩ : ∃ x, m[0] = x := ⟨_, rfl⟩
  have hx : m[0]? = some (x1, x2) := by rw [List.getElem?_eq_getElem hm0, ex]
  obtain ⟨⟨y1, y2⟩, ey⟩ : ∃ x, m[m.length - 1] = x := ⟨_, rfl⟩
  have hy : m[m.length - 1]? = some (y1, y2) := by rw [List.getElem?_eq_getElem (by omega), ey]
  have g0 : m.getD 0 (0, 0) = (x1, x2) := by simp [List.getD, hx]
  have gl : m.getD (m.length - 1) (0, 0) = (y1, y2) := by simp [List.getD, hy]
  by_cases q7 : x1 = lo
  rotate_left
  · have := no fun h => by have := h.f0; dsimp only at this; rw [g0] at this; exact q7 this
    simp -dsimp [q1, q2, q3, q4, q5, q6, hm0, ex, pRow, q7, this]
  have w1 : R ((m.length : Int) - 1) := ⟨by omega, by omega⟩
  have c1 : (0 : Int) ≤ (m.length : Int) - 1 := by omega
  have c2 : ((m.length : Int) - 1).toNat = m.length - 1 := by omega
  have c3 : m.length - 1 < m.length := by omega
  have c4 : (1 : Int) ≤ (m.length : Int) := by omega
  by_cases q8 : y1 = hi
  rotate_left
  · have := no fun h => by have := h.fl; dsimp only at this; rw [gl] at this; exact q8 this
    simp -dsimp [q1, q2, q3, q4, q5, q6, hm0, ex, pRow, q7, wr w1, c1, c2, c3, c4, ey, hy, q8, this]
  simp -dsimp [q1, q2, q3, q4, q5, q6, hm0, ex, pRow, q7, wr w1, c1, c2, c3, c4, ey, hy, q8]
  refine call_p (b45 m (df, 0) hl) rfl (by simp) ?_
  by_cases q9 : (df, (0 : Int)) ∈ m
  rotate_left
  · have := no fun h => q9 h.dm
    simp -dsimp [q9, this]
  have ht : (m.map pRow).tail = m.tail.map pRow := by cases m <;> rfl
  have htk : List.take m.length (m.map pRow) = m.map pRow := List.take_of_length_le (by simp)
  obtain ⟨T, hT⟩ : ∃ T, (m.map pRow).tail = T := ⟨_, rfl⟩
  simp -dsimp [q9, c4, hT, htk]
  refine call_p (b46 (m.map pRow) T) rfl (by simp) ?_
  simp -dsimp
  rw [ht] at hT
  subst hT
  refine rfunL_rule rfl rfl (g78 m m.tail hl) (fun k F => F = ⟨[(1, .ptr (1, 0) 5 0 0), (2, .ptr (2, 0) 1 0 0), (3, .p (.int .i64 m.length)), (66, .p (.clo (.func 78) [] [.ro [.sl 2 (m.map pRow)], .ro [.sl 2 (m.tail.map pRow)]]))], [((1, 0), .box [.p (.str (ba nm)), .p (.int .i64 lo), .p (.int .i64 df), .p (.int .i64 hi), .p (.sl 2 (m.map pRow))]), ((2, 0), .box [.p (.int .i64 0)])]⟩ ∧ ∀ x ∈ (m.zip m.tail).take k, UP x.1 x.2) ?_ ?_ ⟨by simp, by simp⟩
  · rintro k z F hz ⟨rfl, hall⟩
    obtain ⟨⟨u1, u2⟩, ⟨v1, v2⟩, hxy, rfl⟩ := zipS_inv hz
    refine ⟨by simp, ?_⟩
    have bad : ¬ UP (u1, u2) (v1, v2) → chkS ⟨nm, lo, df, hi, m⟩ = 10 := fun h1 => no fun h2 => h1 (h2.up _ (List.mem_of_getElem? hxy))
    have go : UP (u1, u2) (v1, v2) → ∀ z ∈ (m.zip m.tail).take (k + 1), UP z.1 z.2 := fun h => take_succ_all (p := fun z : (Int × Int) × Int × Int => UP z.1 z.2) hxy hall h
    by_cases r1 : v1 ≤ u1
    · have := bad fun h => by have := h.1; dsimp only at this; omega
      simp -dsimp [vP, pRow, r1, this]
    by_cases r2 : v2 < u2
    · have := bad fun h => by have := h.2; dsimp only at this; omega
      simp -dsimp [vP, pRow, r1, r2, this]
    have := go ⟨by dsimp only; omega, by dsimp only; omega⟩
    simp -dsimp [vP, pRow, r1, r2]
    exact fun a b c d => this ((a, b), c, d)
  · rintro F ⟨rfl, hall⟩
    have hz : (zipS vP vP m m.tail).length = (m.zip m.tail).length := by simp [zipS]
    rw [hz, List.take_length] at hall
    simp -dsimp [hm0, hx, ex, pRow]
    refine call_p (b47' x2) rfl (by simp) ?_
    by_cases s1 : CO x2
    rotate_left
    · have := no fun h => s1 (h.co _ (List.mem_of_getElem? hx))
      simp -dsimp [s1, this]
    simp -dsimp [s1, wr w1, c1, c2, c3, c4, ey, hy, pRow]
    refine call_p (b47' y2) rfl (by simp) ?_
    by_cases s2 : CO y2
    rotate_left
    · have := no fun h => s2 (h.co _ (List.mem_of_getElem? hy))
      simp -dsimp [s2, this]
    have : chkS ⟨nm, lo, df, hi, m⟩ = 0 := chk_ok hn ⟨by dsimp only; omega, by dsimp only; omega, by dsimp only; omega, by dsimp only; omega, by dsimp only; omega, by dsimp only; omega, by dsimp only; rw [g0]; exact q7, by dsimp only; rw [gl]; exact q8, q9, hall, co_all hall hx hy s1 s2⟩
    simp -dsimp [s2, this]
end Go.Abs.A09
