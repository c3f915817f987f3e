/- A part of the proof: an abstract reading of the model, contracts of functions. -/
import Derived.Test.YtnonjaonklngpaaDoorC2
import Derived.IntWalk
import Derived.Test.YtnonjaonklngpaaDoorProg
namespace Go.Abs
open Go
set_option linter.unusedSimpArgs false
set_option linter.unusedVariables false

/-! ### rules for runs -/
theorem awpStep_mono {P : Program} {G : FF} {i : AB} {ok : Del → Bool} {K K' : Del → Prop} (h : ∀ δ, K δ → K' δ) (e : awpStep P G i ok K) : awpStep P G i ok K' := by
  unfold awpStep at *
  split at e
  · split at e
    · obtain ⟨δ, h1, h2, h3⟩ := e; exact ⟨δ, h1, h2, h δ h3⟩
    · exact e
  · split at e
    · split at e
      · obtain ⟨δ, h1, h2, h3⟩ := e; exact ⟨δ, h1, h2, h δ h3⟩
      · exact e
    · exact e
  · split at e
    · exact ⟨e.1, h _ e.2⟩
    · exact e
theorem awpI_mono {P : Program} {G : FF} {i : AB} {ok : Del → Bool} {K K' : Del → Prop} (h : ∀ δ, K δ → K' δ) (e : awpI P G i ok K) : awpI P G i ok K' := by
  unfold awpI at *
  split at e
  · exact awpStep_mono h e
  · split at e
    · exact ⟨fun q => awpStep_mono h (e.1 q), fun q => h _ (e.2 q)⟩
    · exact h _ e
    · exact e
theorem awpR_mono {P : Program} {K K' : Fr → Prop} (h : ∀ F, K F → K' F) : ∀ {l : List AB} {F : Fr}, awpR P l K F → awpR P l K' F
  | [], F, e => h F e
  | i :: l, F, e => awpI_mono (fun δ e => awpR_mono h e) e
theorem awpX_mono {P : Program} {F0 : Fr} {K K' : Fr → Prop} (h : ∀ F, K F → K' F) : ∀ {l : List AI} {k : Nat} {hist : List Del} {hn : List (Nat × List Slot)} {F : Fr}, awpX P F0 k hist hn l K F → awpX P F0 k hist hn l K' F
  | [], _, _, _, F, e => h F e
  | ⟨b, dr, ds, ks, na, pl⟩ :: l, _, _, _, F, e => by
    match pl with
    | 0 => exact awpI_mono (fun δ e => awpX_mono h e) e
    | 1 => exact awpI_mono (fun δ e => awpX_mono h e) e
    | n + 2 => exact awpI_mono (fun δ e => awpX_mono h e) e
def Mono (b : APT) : Prop := ∀ (K K' : AE → Fr → Prop) (F : Fr), (∀ e F, K e F → K' e F) → b K F → b K' F
theorem lp_mono {b : APT} (hb : Mono b) {K K' : AE → Fr → Prop} (h : ∀ e F, K e F → K' e F) : ∀ {n : Nat} {F : Fr}, lp b n K F → lp b n K' F
  | 0, F, e => e
  | n + 1, F, e => hb _ _ F (fun e F q => by
    cases e with
    | normal => exact lp_mono hb h (n := n) q
    | exit i => exact h _ _ q
    | ret => exact h _ _ q) e
theorem rounds_mono {A B : APT} (hA : Mono A) (hB : Mono B) {ps dd : List Nat} : ∀ {xs : List (List PV)} {K K' : AE → Fr → Prop} {F : Fr}, (∀ e F, K e F → K' e F) → rounds A B ps dd xs K F → rounds A B ps dd xs K' F
  | [], K, K', F, h, e => h _ _ e
  | x :: xs, K, K', F, h, e => by
    refine ⟨e.1, hA _ _ _ (fun e F1 q => ?_) e.2⟩
    cases e with
    | normal =>
      refine hB _ _ _ (fun e F2 q => ?_) q
      cases e with
      | normal => exact rounds_mono hA hB h q
      | exit i => exact h _ _ q
      | ret => exact h _ _ q
    | exit i => exact q
    | ret => exact q
theorem awp_mono {P : Program} : ∀ {ac : AC} {K K' : AE → Fr → Prop} {F : Fr}, (∀ e F, K e F → K' e F) → awp P ac K F → awp P ac K' F := by
  intro ac
  induction ac with
  | skip => intro K K' F h e; exact h _ _ e
  | seq x y ihx ihy =>
    intro K K' F h e
    refine ihx (fun e F q => ?_) e
    cases e with
    | normal => exact ihy h q
    | exit i => exact h _ _ q
    | ret => exact h _ _ q
  | cond c x y ihx ihy =>
    intro K K' F h e
    simp only [awp] at e ⊢
    split at e
    · exact ⟨fun q => ihx h (e.1 q), fun q => ihy h (e.2 q)⟩
    · exact e
  | block id x ih =>
    intro K K' F h e
    refine ih (fun e F q => ?_) e
    cases e with
    | exit i => dsimp only at q ⊢; split <;> (rename_i hi; simp only [hi] at q; exact h _ _ (by simpa using q))
    | normal => exact h _ _ q
    | ret => exact h _ _ q
  | loop x ih => intro K K' F h e; obtain ⟨n, hn⟩ := e; exact ⟨n, lp_mono (b := awp P x) (fun K K' F h e => ih h e) h hn⟩
  | exit id => intro K K' F h e; exact h _ _ e
  | ret => intro K K' F h e; exact h _ _ e
  | reg l => intro K K' F h e; exact awpR_mono (fun F q => h _ _ q) e
  | draw l => intro K K' F h e; exact awpX_mono (fun F q => h _ _ q) e
  | ghost g x ih =>
    intro K K' F h e
    simp only [awp] at e ⊢
    split at e
    · exact ih h e
    · exact e
  | rfun g ps dd x y ihx ihy =>
    intro K K' F h e
    simp only [awp] at e ⊢
    split at e
    · split at e
      · obtain ⟨fi', ca', xs, h1, h2, h3, h4⟩ := e
        exact ⟨fi', ca', xs, h1, h2, h3, rounds_mono (A := awp P x) (B := awp P y) (fun K K' F h e => ihx h e) (fun K K' F h e => ihy h e) h h4⟩
      · exact e
    · exact e

theorem lp_le {b : APT} (hb : Mono b) {K : AE → Fr → Prop} : ∀ {n m : Nat} {F : Fr}, n ≤ m → lp b n K F → lp b m K F
  | 0, m, F, h, e => e.elim
  | n + 1, 0, F, h, e => by omega
  | n + 1, m + 1, F, h, e => hb _ _ F (fun e F q => by
    cases e with
    | normal => exact lp_le hb (n := n) (m := m) (by omega) q
    | exit i => exact q
    | ret => exact q) e

/-- What is to be shown of a round. -/
def Rnd (I : Fr → Prop) (K : AE → Fr → Prop) : AE → Fr → Prop := fun e F => match e with | .normal => I F | e => K e F

/-- A loop by a relation and a measure. -/
theorem loop_rule {P : Program} {x : AC} {K : AE → Fr → Prop} (I : Nat → Fr → Prop) (step : ∀ n F, I n F → awp P x (Rnd (fun F' => ∃ m, m < n ∧ I m F') K) F) {n : Nat} {F : Fr} (h : I n F) : awp P (.loop x) K F := by
  have key : ∀ n F, I n F → lp (awp P x) (n + 1) K F := by
    intro n
    induction n using Nat.strongRecOn with
    | _ n ih =>
      intro F hI
      refine awp_mono (fun e F' q => ?_) (step n F hI)
      cases e with
      | normal =>
        obtain ⟨m, h1, h2⟩ := q
        exact lp_le (b := awp P x) (fun K K' F h e => awp_mono h e) (n := m + 1) (m := n) h1 (ih m h1 F' h2)
      | exit i => exact q
      | ret => exact q
  exact ⟨n + 1, key n F h⟩

/-- Rounds by a relation on the frames between them. -/
theorem rounds_rule {A B : APT} (hA : Mono A) (hB : Mono B) {ps dd : List Nat} {xs : List (List PV)} {K : AE → Fr → Prop} (I : Nat → Fr → Prop) (step : ∀ k x F, xs[k]? = some x → I k F → x.length = ps.length ∧ A (fun e F1 => match e with
      | .normal => B (fun e F2 => match e with
        | .normal => I (k + 1) (F2.back dd)
        | e => K e (F2.back dd)) F1
      | _ => False) (F.setPs ps x)) (hend : ∀ F, I xs.length F → K .normal F) {F : Fr} (h : I 0 F) : rounds A B ps dd xs K F := by
  have key : ∀ (m k : Nat) (F : Fr), k + m = xs.length → I k F → rounds A B ps dd (xs.drop k) K F := by
    intro m
    induction m with
    | zero =>
      intro k F hk hI
      have : xs.drop k = [] := by rw [List.drop_eq_nil_iff]; omega
      rw [this]
      have hk' : k = xs.length := by omega
      exact hend F (hk' ▸ hI)
    | succ m ih =>
      intro k F hk hI
      have hlt : k < xs.length := by omega
      rw [List.drop_eq_getElem_cons hlt]
      obtain ⟨h1, h2⟩ := step k _ F (List.getElem?_eq_getElem hlt) hI
      refine ⟨h1, hA _ _ _ (fun e F1 q => ?_) h2⟩
      cases e with
      | normal =>
        refine hB _ _ _ (fun e F2 q => ?_) q
        cases e with
        | normal => exact ih (k + 1) _ (by omega) q
        | exit i => exact q
        | ret => exact q
      | exit i => exact q
      | ret => exact q
  simpa using key xs.length 0 F (by omega) h
theorem awp_Mono {P : Program} {ac : AC} : Mono (awp P ac) := fun _ _ _ h e => awp_mono h e

/-- A loop whose frames are known, round by round. -/
theorem loop_frames {P : Program} {x : AC} {K : AE → Fr → Prop} (I : Nat → Fr) (n : Nat) (step : ∀ k, k ≤ n → awp P x (Rnd (fun F' => k < n ∧ F' = I (k + 1)) K) (I k)) {k : Nat} (hk : k ≤ n) {F : Fr} (hF : F = I k) : awp P (.loop x) K F := by
  subst hF
  refine loop_rule (fun m F => ∃ k, k ≤ n ∧ m = n - k ∧ F = I k) (fun m F h => ?_) (n := n - k) ⟨k, hk, rfl, rfl⟩
  obtain ⟨k, h1, rfl, rfl⟩ := h
  refine awp_mono (fun e F' q => ?_) (step k h1)
  cases e with
  | normal => exact ⟨n - (k + 1), by have := q.1; omega, k + 1, by have := q.1; omega, rfl, q.2⟩
  | exit i => exact q
  | ret => exact q

/-! ### how far simp may look -/
/-- Two things that simp is to leave as they are. -/
structure Tag {α β : Type} (x : α) (y : β) : Type
def callL (P : Program) (ok : Del → Bool) (K : Del → Prop) (G : FF) (t : Tag (ok, G) K) (d : Nat) (f : FuncId) (vs : List AV) : Prop := callK P G d f vs ok K
def loopL (P : Program) (x : AC) (K : AE → Fr → Prop) (t : Tag x K) (F : Fr) : Prop := awp P (.loop x) K F
def rfunL (P : Program) (x y : AC) (ps dd : List Nat) (K : AE → Fr → Prop) (t : Tag (x, y) (ps, dd, K)) (F : Fr) (f : FuncId) (fi ca : List AV) : Prop :=
  ∃ fi' ca' xs, allP fi = some fi' ∧ allP ca = some ca' ∧ Gens P f fi' ca' xs ∧ rounds (awp P x) (awp P y) ps dd xs K F

theorem callK_eq {P : Program} {ok : Del → Bool} {K : Del → Prop} {G : FF} {d : Nat} {f : FuncId} {vs : List AV} : callK P G d f vs ok K = callL P ok K G {} d f vs := Eq.trans rfl rfl
theorem awp_loop {P : Program} {x : AC} {K : AE → Fr → Prop} {F : Fr} : awp P (.loop x) K F = loopL P x K {} F := Eq.trans rfl rfl
theorem awp_rfun {P : Program} {g : Opd} {x y : AC} {ps dd : List Nat} {K : AE → Fr → Prop} {F : Fr} : awp P (.rfun g ps dd x y) K F = (match F.ff.val g with
    | some u => match cloOf u with
      | some (f, fi, ca) => rfunL P x y ps dd K {} F f fi ca
      | none => False
    | none => False) := Eq.trans rfl rfl
theorem awpR_nil {P : Program} {K : Fr → Prop} {F : Fr} : awpR P [] K F = K F := Eq.trans rfl rfl
theorem awpR_cons {P : Program} {i : AB} {l : List AB} {K : Fr → Prop} {F : Fr} : awpR P (i :: l) K F = awpI P F.ff i (freshB F i.op) (fun δ => awpR P l K (F.app i.dst δ)) := Eq.trans rfl rfl
theorem awpX_nil {P : Program} {F0 F : Fr} {k : Nat} {hist : List Del} {hn : List (Nat × List Slot)} {K : Fr → Prop} : awpX P F0 k hist hn [] K F = K F := Eq.trans rfl rfl
theorem awpX_0 {P : Program} {F0 F : Fr} {k : Nat} {hist : List Del} {hn : List (Nat × List Slot)} {b : AB} {dr ds ks na : List Nat} {l : List AI} {K : Fr → Prop} : awpX P F0 k hist hn (⟨b, dr, ds, ks, na, 0⟩ :: l) K F = awpI P (F.erase dr ds).ff b (okX F0 hist hn ⟨b, dr, ds, ks, na, 0⟩) (fun δ => awpX P F0 (k + 1) (δ :: hist) (addN k (newS b.op δ) hn) l K (F.app b.dst δ)) := Eq.trans rfl rfl
theorem awpX_1 {P : Program} {F0 F : Fr} {k : Nat} {hist : List Del} {hn : List (Nat × List Slot)} {b : AB} {dr ds ks na : List Nat} {l : List AI} {K : Fr → Prop} : awpX P F0 k hist hn (⟨b, dr, ds, ks, na, 1⟩ :: l) K F = awpI P F.ff b (okX F0 hist hn ⟨b, dr, ds, ks, na, 1⟩) (fun δ => awpX P F0 (k + 1) (δ :: hist) (addN k (newS b.op δ) hn) l K (F.app b.dst δ)) := Eq.trans rfl rfl
theorem awpX_2 {P : Program} {F0 F : Fr} {k : Nat} {hist : List Del} {hn : List (Nat × List Slot)} {b : AB} {dr ds ks na : List Nat} {l : List AI} {K : Fr → Prop} : awpX P F0 k hist hn (⟨b, dr, ds, ks, na, 2⟩ :: l) K F = awpI P F.ff b (okP hn na) (fun δ => awpX P F0 (k + 1) (δ :: hist) hn l K (F.app b.dst δ)) := Eq.trans rfl rfl
theorem awpStep_eq {P : Program} {G : FF} {i : AB} {ok : Del → Bool} {K : Del → Prop} : awpStep P G i ok K = (match i.op with
  | .call f args => match G.vals args with
    | some vs => callL P ok K G {} (i.dst.getD 0) f vs
    | none => False
  | .callv x args => match G.val x, G.vals args with
    | some u, some vs => match cloOf u with
      | some (f, fi, ca) => callL P ok K G {} (i.dst.getD 0) f (fi ++ vs ++ ca)
      | none => False
    | _, _ => False
  | op => match evDel G (i.dst.getD 0) op with
    | some δ => ok δ = true ∧ K δ
    | none => False) := Eq.trans rfl rfl
theorem awpI_eq {P : Program} {G : FF} {d : Option Nat} {op : AOp} {a : List Nat} {ok : Del → Bool} {K : Del → Prop} : awpI P G ⟨d, op, none, a⟩ ok K = awpStep P G ⟨d, op, none, a⟩ ok K := Eq.trans rfl rfl
/-- A branch; simp is to look at what decides first. -/
def condL (A B : Prop) (t : Tag A B) (b : Bool) : Prop := (b = true → A) ∧ (b = false → B)
theorem condL_true {A B : Prop} {t : Tag A B} : condL A B t true = A := by simp [condL]
theorem condL_false {A B : Prop} {t : Tag A B} : condL A B t false = B := by simp [condL]
theorem condL_dec {A B p : Prop} {t : Tag A B} [Decidable p] : condL A B t (decide p) = ((p → A) ∧ (¬ p → B)) := by simp [condL]
theorem awpI_t {P : Program} {G : FF} {d : Option Nat} {op : AOp} {t : Nat} {a : List Nat} {ok : Del → Bool} {K : Del → Prop} : awpI P G ⟨d, op, some (t, true), a⟩ ok K = (match G.var t with
    | some (.p (.bool b)) => condL (awpStep P G ⟨d, op, some (t, true), a⟩ ok K) (K ⟨.p (.tup []), [], []⟩) {} b
    | some (.p (.tup [])) => K ⟨.p (.tup []), [], []⟩
    | _ => False) := by
  simp only [awpI]
  cases G.var t with
  | none => rfl
  | some v => cases v with
    | p q => cases q with
      | bool b => cases b <;> simp [condL]
      | tup l => cases l <;> rfl
      | _ => rfl
    | _ => rfl
theorem awpI_f {P : Program} {G : FF} {d : Option Nat} {op : AOp} {t : Nat} {a : List Nat} {ok : Del → Bool} {K : Del → Prop} : awpI P G ⟨d, op, some (t, false), a⟩ ok K = (match G.var t with
    | some (.p (.bool b)) => condL (K ⟨.p (.tup []), [], []⟩) (awpStep P G ⟨d, op, some (t, false), a⟩ ok K) {} b
    | some (.p (.tup [])) => K ⟨.p (.tup []), [], []⟩
    | _ => False) := by
  simp only [awpI]
  cases G.var t with
  | none => rfl
  | some v => cases v with
    | p q => cases q with
      | bool b => cases b <;> simp [condL]
      | tup l => cases l <;> rfl
      | _ => rfl
    | _ => rfl
section
variable {P : Program} {K : AE → Fr → Prop} {F : Fr}
theorem awp_skip : awp P .skip K F = K .normal F := Eq.trans rfl rfl
theorem awp_seq {x y : AC} : awp P (.seq x y) K F = awp P x (fun e F' => match e with | .normal => awp P y K F' | e => K e F') F := Eq.trans rfl rfl
theorem awp_cond {c : Opd} {x y : AC} : awp P (.cond c x y) K F = (match F.ff.val c with
    | some (.p (.bool b)) => condL (awp P x K F) (awp P y K F) {} b
    | _ => False) := Eq.trans rfl rfl
theorem awp_block {id : Nat} {x : AC} : awp P (.block id x) K F = awp P x (fun e F' => match e with | .exit i => if i = id then K .normal F' else K (.exit i) F' | e => K e F') F := Eq.trans rfl rfl
theorem awp_exit {id : Nat} : awp P (.exit id) K F = K (.exit id) F := Eq.trans rfl rfl
theorem awp_ret : awp P .ret K F = K .ret F := Eq.trans rfl rfl
theorem awp_reg {l : List AB} : awp P (.reg l) K F = awpR P l (K .normal) F := Eq.trans rfl rfl
theorem awp_draw {l : List AI} : awp P (.draw l) K F = awpX P F 0 [] [] l (K .normal) F := Eq.trans rfl rfl
theorem awp_ghost {g : Ghost} {x : AC} : awp P (.ghost g x) K F = (match g.app F with
    | some F' => awp P x K F'
    | none => False) := Eq.trans rfl rfl
end

theorem call_p {P : Program} {G : FF} {d : Nat} {f : FuncId} {vs : List AV} {ok : Del → Bool} {K : Del → Prop} {ps : List PV} {v : PV} (h : Best P f ps (.p v)) (ha : allP vs = some ps) (hok : ok ⟨.p v, [], []⟩ = true) (hK : K ⟨.p v, [], []⟩) : callL P ok K G {} d f vs :=
  ⟨_, .inl ⟨ps, .p v, ha, h, rfl⟩, hok, hK⟩
theorem call_f {P : Program} {G : FF} {d : Nat} {f : FuncId} {vs : List AV} {ok : Del → Bool} {K : Del → Prop} {ps : List PV} {v : PV} (h : Best P f ps (.p v)) (ha : G.reifyL vs = some ps) (hf : v.flat = true) (hok : ok ⟨.p v, [], []⟩ = true) (hK : K ⟨.p v, [], []⟩) : callL P ok K G {} d f vs :=
  ⟨_, .inr ⟨ps, v, ha, h, hf, rfl⟩, hok, hK⟩
theorem call_o {P : Program} {G : FF} {d : Nat} {f : FuncId} {vs : List AV} {ok : Del → Bool} {K : Del → Prop} {ps : List PV} {v : Slot → AV} {k : Blk} (h : Best P f ps (.own v k)) (ha : allP vs = some ps) (hok : ok ⟨v (d, 0), [((d, 0), k)], []⟩ = true) (hK : K ⟨v (d, 0), [((d, 0), k)], []⟩) : callL P ok K G {} d f vs :=
  ⟨_, .inl ⟨ps, .own v k, ha, h, rfl⟩, hok, hK⟩

theorem loopL_rule {P : Program} {x : AC} {K : AE → Fr → Prop} {t : Tag x K} (I : Nat → Fr → Prop) (step : ∀ n F, I n F → awp P x (Rnd (fun F' => ∃ m, m < n ∧ I m F') K) F) {n : Nat} {F : Fr} (h : I n F) : loopL P x K t F := loop_rule I step h
theorem loopL_frames {P : Program} {x : AC} {K : AE → Fr → Prop} {t : Tag x K} (I : Nat → Fr) (n : Nat) (step : ∀ k, k ≤ n → awp P x (Rnd (fun F' => k < n ∧ F' = I (k + 1)) K) (I k)) {k : Nat} (hk : k ≤ n) {F : Fr} (hF : F = I k) : loopL P x K t F := loop_frames I n step hk hF
theorem rfunL_rule {P : Program} {x y : AC} {ps dd : List Nat} {K : AE → Fr → Prop} {t : Tag (x, y) (ps, dd, K)} {F : Fr} {f : FuncId} {fi ca : List AV} {fi' ca' : List PV} {xs : List (List PV)} (h1 : allP fi = some fi') (h2 : allP ca = some ca') (hG : Gens P f fi' ca' xs) (I : Nat → Fr → Prop)
    (step : ∀ k z F, xs[k]? = some z → I k F → z.length = ps.length ∧ awp P x (fun e F1 => match e with
      | .normal => awp P y (fun e F2 => match e with
        | .normal => I (k + 1) (F2.back dd)
        | e => K e (F2.back dd)) F1
      | _ => False) (F.setPs ps z)) (hend : ∀ F, I xs.length F → K .normal F) (h : I 0 F) : rfunL P x y ps dd K t F f fi ca :=
  ⟨fi', ca', xs, h1, h2, hG, rounds_rule awp_Mono awp_Mono I step hend h⟩

theorem reify_p {F : FF} {n : Nat} {v : PV} : F.reify n (.p v) = some v := by cases n <;> rfl
theorem Best.args {P : Program} {f : FuncId} {ps ps' : List PV} {r : Res} (h : ∀ S xs, Ps S ps' xs → Ps S ps xs) (b : Best P f ps r) : Best P f ps' r := ⟨b.1, fun S w xs hS hx => b.2 S w xs hS (h S xs hx)⟩
theorem PRel.nsl_sl {S : Snap} {v : Value} (h : PRel S .nsl v) (n : Nat) : PRel S (.sl n []) v := by
  cases h
  exact .sl n [] none 0 (fun _ _ => undef) (Nat.le_refl _) (by simp) (by simp) (by simp)
theorem Ps.cons_imp {S : Snap} {p p' : PV} {ps ps' : List PV} {xs : List Value} (h1 : ∀ v, PRel S p' v → PRel S p v) (h2 : ∀ xs, Ps S ps' xs → Ps S ps xs) (h : Ps S (p' :: ps') xs) : Ps S (p :: ps) xs := by
  obtain ⟨hl, hh⟩ := h
  cases xs with
  | nil => simp at hl
  | cons x xs =>
    have t := h2 xs ⟨by simpa using hl, fun j q v e1 e2 => hh (j + 1) q v (by simpa using e1) (by simpa using e2)⟩
    refine ⟨by simp [t.1], fun j q v e1 e2 => ?_⟩
    cases j with
    | zero =>
      simp at e1 e2
      subst e1 e2
      exact h1 _ (hh 0 _ _ (by simp) (by simp))
    | succ j => exact t.2 j q v (by simpa using e1) (by simpa using e2)
/-- A loop that counts: its frames at its head are known, round by round. -/
theorem loopC {P : Program} {g : Ghost} {x : AC} {K : AE → Fr → Prop} {t : Tag (AC.ghost g x) K} (n : Nat) (fr : Nat → Fr) (Q : Nat → Prop) (step : ∀ k, k ≤ n → Q k → awp P x (Rnd (fun F' => k < n ∧ Q (k + 1) ∧ g.app F' = some (fr (k + 1))) K) (fr k)) {F : Fr} (h0 : Q 0) (hF : g.app F = some (fr 0)) : loopL P (.ghost g x) K t F := by
  refine loop_rule (fun m F => ∃ k, k ≤ n ∧ m = n - k ∧ Q k ∧ g.app F = some (fr k)) (fun m F h => ?_) (n := n) ⟨0, Nat.zero_le _, by simp, h0, hF⟩
  obtain ⟨k, h1, rfl, h2, h3⟩ := h
  rw [awp_ghost, h3]
  refine awp_mono (fun e F' q => ?_) (step k h1 h2)
  cases e with
  | normal => exact ⟨n - (k + 1), by have := q.1; omega, k + 1, by have := q.1; omega, rfl, q.2⟩
  | exit i => exact q
  | ret => exact q

theorem wrap_i64 {n : Int} (h1 : -9223372036854775808 ≤ n) (h2 : n ≤ 9223372036854775807) : IntKind.i64.wrap n = n := by
  rw [IntKind.wrap_i64]; omega

end Go.Abs
namespace Go.Abs
open Go
set_option linter.unusedSimpArgs false
set_option linter.unusedVariables false

/-! ### generators -/
section
variable {P : Program} {r : Option Nat} {n : Nat}

/-- The first operations in the plain layer, the others in the fenced one. -/
theorem toInT {D : Nat → Prop} {ops : Array Oper} {X : Act → World → Prop} {Q : Exit → Act → World → Prop} {a0 : Act} {l2 : List Nat} (hD : Dsts D ops) (hn : NoDefer ops) (hX : ∀ a w, X a w → Same D a0 a → wpOpsIn (Fz r) n P ops Q l2 a w) :
    ∀ (l : List Nat) (a : Act) (w : World), wpOps P ops (Qn X) l a w → Same D a0 a → wpOpsIn (Fz r) n P ops Q (l ++ l2) a w
  | [], a, w, h, hs => hX a w h hs
  | i :: l, a, w, h, hs => by
    simp only [wpOps, wpOpsIn, List.cons_append] at h ⊢
    split
    · rename_i hi; rw [hi] at h; exact toInT hD hn hX l a w h hs
    · rename_i o hi
      rw [hi] at h
      simp only at h
      split
      · rename_i hw
        rw [if_pos hw] at h
        rcases h with h | h
        · exact wpIn_same (hD i o hi) hs (wp_fz (hn i o hi) h) fun a w h1 h2 => toInT hD hn hX l a w h2 h1
        · obtain ⟨_, _, _, q⟩ := h; exact q.elim
      · rename_i hw
        rw [if_neg hw] at h
        exact ⟨fun _ _ => trivial, toInT hD hn hX l _ w h (hs.trans (.put (hD i o hi)))⟩

def lst (c m : Nat) : Array Bool := Array.replicate c true ++ Array.replicate m false
theorem lst_get (c m k : Nat) : (lst c m).getD k false = decide (k < c) := by
  simp only [lst, Array.getD_eq_getD_getElem?, Array.getElem?_append, Array.size_replicate, Array.getElem?_replicate]
  by_cases h : k < c
  · simp [h]
  · simp only [h, if_false, decide_false]
    split <;> rfl
theorem lst_set (c m : Nat) : (lst c (m + 1)).setIfInBounds c true = lst (c + 1) m := by
  refine Array.ext_getElem? fun i => ?_
  simp only [lst, Array.getElem?_setIfInBounds, Array.getElem?_append, Array.size_append, Array.size_replicate, Array.getElem?_replicate]
  by_cases h1 : c = i
  · subst h1
    simp
  · rw [if_neg h1]
    repeat' split
    all_goals first | rfl | (exfalso; omega)

theorem getD_or {l : Array Bool} {k : Nat} (h : k < l.size) : l.getD k true = l.getD k false := by simp [Array.getD, h]

/-- A region whose operations wait for one another from some place on. -/
theorem chainIn {ops : Array Oper} {Q : Exit → Act → World → Prop} {c : Nat} (hch : ∀ (k : Nat) (o : Oper), c ≤ k → ops[k]? = some o → (∀ e ∈ afterOf o, e < k) ∧ (c < k → k - 1 ∈ afterOf o)) :
    ∀ (m j : Nat), c ≤ j → j + m = ops.size → ∀ a w, wpOpsIn (Fz r) n P ops Q (List.range' j m) a w → wpAnyIn (Fz r) n P .any ops Q m (lst j m) a w
  | 0, j, hj, hs, a, w, h => by
    refine ⟨?_, h⟩
    rw [List.eq_nil_iff_forall_not_mem]
    intro k hk
    obtain ⟨h1, h2, _⟩ := ready_iff.1 hk
    rw [getD_or (by simp [lst]; omega), lst_get] at h2
    simp at h2; omega
  | m + 1, j, hj, hs, a, w, h => by
    have hjlt : j < ops.size := by omega
    have hoj : ops[j]? = some ops[j] := by simp [hjlt]
    refine ⟨fun hr => ?_, fun i hi => ?_⟩
    · exfalso
      have : j ∈ Region.ready .any ops (lst j (m + 1)) := by
        refine ready_iff.2 ⟨hjlt, by rw [getD_or (by simp [lst]), lst_get]; simp, ops[j], hoj, fun e he => ?_⟩
        rw [lst_get]; simpa using (hch j _ hj hoj).1 e he
      rw [hr] at this; simp at this
    · obtain ⟨h1, h2, o, h3, h4⟩ := ready_iff.1 hi
      have hij : i = j := by
        rw [getD_or (by simp [lst]; omega), lst_get] at h2
        simp at h2
        by_cases hlt : j < i
        · have := h4 _ ((hch i o (by omega) h3).2 (by omega))
          rw [lst_get] at this; simp at this; omega
        · omega
      subst hij
      rw [lst_set]
      rw [List.range'_succ, wpOpsIn_cons] at h
      exact wpOpIn_mono (fun a w h => chainIn hch m (i + 1) (by omega) (by omega) a w h) h

/-- What comes ahead of the place in whatever order. -/
theorem preIn {D : Nat → Prop} {ops opsP : Array Oper} {X : Act → World → Prop} {Q : Exit → Act → World → Prop} {a0 : Act} {c m : Nat} (hD : Dsts D ops) (hn : NoDefer ops) (hcs : opsP.size = c) (hsz : ops.size = c + m) (hm0 : 0 < m)
    (hP : ∀ (k : Nat) (o : Oper), opsP[k]? = some o → ops[k]? = some o ∧ (∀ e ∈ afterOf o, e < k) ∧ ∀ j w, o.guard = some (j, w) → j < c)
    (hC : ∀ listed : Array Bool, listed.size = c → (∀ (k : Nat) (o : Oper), opsP[k]? = some o → listed.getD k false = true → ∀ e ∈ afterOf o, listed.getD e false = true) → ∀ o, ops[c]? = some o → (∀ e ∈ afterOf o, listed.getD e false = true) → ∀ j, j < c → listed.getD j false = true)
    (hch : ∀ (k : Nat) (o : Oper), c < k → ops[k]? = some o → k - 1 ∈ afterOf o)
    (hX : ∀ a w, X a w → Same D a0 a → wpAnyIn (Fz r) n P .any ops Q m (lst c m) a w) :
    ∀ (fuel : Nat) (listed : Array Bool) (a : Act) (w : World), listed.size = c → ((List.range c).filter fun j => !(listed.getD j false)).length = fuel →
      (∀ (k : Nat) (o : Oper), opsP[k]? = some o → listed.getD k false = true → ∀ e ∈ afterOf o, listed.getD e false = true) →
      wpAny P .any opsP (Qn X) fuel listed a w → Same D a0 a → wpAnyIn (Fz r) n P .any ops Q (fuel + m) (listed ++ Array.replicate m false) a w := by
  have app : ∀ (listed : Array Bool), listed.size = c → ∀ k, (listed ++ Array.replicate m false).getD k false = listed.getD k false := by
    intro listed hl k
    simp only [Array.getD_eq_getD_getElem?, Array.getElem?_append, Array.getElem?_replicate]
    split
    · rfl
    · rename_i h
      rw [Array.getElem?_eq_none (by omega)]
      split <;> rfl
  have hget : ∀ k, k < c → ∃ o, opsP[k]? = some o := fun k hk => ⟨opsP[k], by simp⟩
  intro fuel
  induction fuel with
  | zero =>
    intro listed a w hl hf hcl h hs
    have hall : ∀ j, j < c → listed.getD j false = true := by
      intro j hj
      have := List.eq_nil_of_length_eq_zero hf
      rw [List.filter_eq_nil_iff] at this
      have := this j (by simpa using hj)
      simpa using this
    have : listed = Array.replicate c true := by
      apply Array.ext
      · simp [hl]
      · intro i h1 h2
        have := hall i (by omega)
        simpa [Array.getD, h1] using this
    rw [this, Nat.zero_add]
    exact hX a w h.2 hs
  | succ fuel ih =>
    intro listed a w hl hf hcl h hs
    have hex : ∃ j, (j < c ∧ listed.getD j false = false) ∧ ∀ i, i < j → ¬ (i < c ∧ listed.getD i false = false) := by
      have : ((List.range c).filter fun j => !(listed.getD j false)) ≠ [] := by intro q; rw [q] at hf; simp at hf
      obtain ⟨j, hj⟩ := List.exists_mem_of_ne_nil _ this
      simp only [List.mem_filter, List.mem_range, Bool.not_eq_true'] at hj
      exact least (p := fun j => j < c ∧ listed.getD j false = false) ⟨j, hj⟩
    obtain ⟨j, ⟨hj1, hj2⟩, hj3⟩ := hex
    rw [Nat.succ_add]
    refine ⟨fun hr => ?_, fun i hi => ?_⟩
    · exfalso
      obtain ⟨o, ho⟩ := hget j hj1
      obtain ⟨g1, g2, _⟩ := hP j o ho
      have : j ∈ Region.ready .any ops (listed ++ Array.replicate m false) := by
        refine ready_iff.2 ⟨by omega, by rw [getD_or (by simp; omega), app listed hl]; exact hj2, o, g1, fun e he => ?_⟩
        rw [app listed hl]
        have hlt := g2 e he
        cases hle : listed.getD e false with
        | true => rfl
        | false => exact absurd ⟨by omega, hle⟩ (hj3 e hlt)
      rw [hr] at this; simp at this
    · obtain ⟨h1, h2, o, h3, h4⟩ := ready_iff.1 hi
      rw [getD_or (by simp; omega), app listed hl] at h2
      have h4' : ∀ e ∈ afterOf o, listed.getD e false = true := fun e he => by have := h4 e he; rwa [app listed hl] at this
      have hic : i < c := by
        rcases Nat.lt_trichotomy i c with h5 | h5 | h5
        · exact h5
        · subst h5
          have := hC listed hl hcl o h3 h4' j hj1
          rw [hj2] at this; simp at this
        · have := h4' _ (hch i o h5 h3)
          simp only [Array.getD_eq_getD_getElem?] at this
          rw [Array.getElem?_eq_none (by omega)] at this
          simp at this
      obtain ⟨o', ho'⟩ := hget i hic
      obtain ⟨g1, g2, g3⟩ := hP i o' ho'
      have : o' = o := by rw [g1] at h3; simpa using h3
      subst this
      have hready : i ∈ Region.ready .any opsP listed := ready_iff.2 ⟨by omega, by rw [getD_or (by omega)]; exact h2, o', ho', h4'⟩
      have h5 := h.2 i hready
      have hset : (listed ++ Array.replicate m false).setIfInBounds i true = listed.setIfInBounds i true ++ Array.replicate m false := by
        rw [Array.setIfInBounds_append_left (by omega)]
      rw [hset]
      have hget' : ∀ k, (listed.setIfInBounds i true).getD k false = (k == i || listed.getD k false) := by
        intro k
        by_cases hk : k = i
        · subst hk; simp [Array.getD, hl, hic]
        · have : (k == i) = false := by simpa using hk
          rw [this, Bool.false_or]
          simp only [Array.getD_eq_getD_getElem?, Array.getElem?_setIfInBounds, if_neg (fun q : i = k => hk q.symm)]
      have hnext : ∀ a w, wpAny P .any opsP (Qn X) fuel (listed.setIfInBounds i true) a w → Same D a0 a → wpAnyIn (Fz r) n P .any ops Q (fuel + m) (listed.setIfInBounds i true ++ Array.replicate m false) a w := by
        intro a w h6 hs'
        refine ih _ a w (by simp [hl]) ?_ (fun k o hk hlk e he => ?_) h6 hs'
        · have hp : ((List.range c).filter fun j => !((listed.setIfInBounds i true).getD j false)) = ((List.range c).filter fun j => !(listed.getD j false)).erase i := by
            have hnd : ((List.range c).filter fun j => !(listed.getD j false)).Nodup := List.Pairwise.filter _ List.nodup_range
            rw [hnd.erase_eq_filter, List.filter_filter]
            congr 1
            funext k
            rw [hget' k]
            cases hjk : (k == i) <;> simp [hjk, bne]
          rw [hp, List.length_erase_of_mem (by simp only [List.mem_filter, List.mem_range, Bool.not_eq_true']; exact ⟨hic, h2⟩), hf]
          rfl
        · rw [hget'] at hlk ⊢
          simp only [Bool.or_eq_true] at hlk ⊢
          rcases hlk with hlk | hlk
          · have : k = i := by simpa using hlk
            subst this
            have : o = o' := by rw [ho'] at hk; simpa using hk.symm
            subst this
            exact .inr (h4' e he)
          · exact .inr (hcl k o hk hlk e he)
      unfold wpOp at h5
      rw [ho'] at h5
      unfold wpOpIn
      rw [g1]
      simp only at h5 ⊢
      have hyld : Region.wanted o' (yielded opsP a.tmps) = Region.wanted o' (yielded ops a.tmps) := by
        unfold Region.wanted
        cases hg : o'.guard with
        | none => rfl
        | some q =>
          obtain ⟨j', w'⟩ := q
          have hj' := g3 j' w' hg
          obtain ⟨o2, ho2⟩ := hget j' hj'
          have : yielded opsP a.tmps j' = yielded ops a.tmps j' := by
            unfold yielded
            rw [ho2, (hP j' o2 ho2).1]
          simp only [this]
      rw [hyld] at h5
      split
      · rename_i hw
        rw [if_pos hw] at h5
        rcases h5 with h5 | h5
        · exact wpIn_same (hD i o' g1) hs (wp_fz (hn i o' g1) h5) fun a w h1 h2 => hnext a w h2 h1
        · obtain ⟨_, _, _, q⟩ := h5; exact q.elim
      · rename_i hw
        rw [if_neg hw] at h5
        exact ⟨fun _ _ => trivial, hnext _ w h5 (hs.trans (.put (hD i o' g1)))⟩
end
end Go.Abs
namespace Go.Abs
open Go
set_option linter.unusedSimpArgs false
set_option linter.unusedVariables false

/-! ### the text of a generator -/
inductive AY where
  | skip
  | seq (x y : AY)
  | cond (c : Opd) (x y : AY)
  | block (id : Nat) (x : AY)
  | loop (x : AY)
  | exit (id : Nat)
  | ret
  | reg (l : List AB)
  | draw (l : List AI)
  | ghost (g : Ghost) (x : AY)
  | yield (d : Bool) (pre : List AI) (y : AB) (post : List AB)
  deriving Inhabited

def bare (b : AB) : AI := ⟨b, [], [], [], [], 0⟩
def AY.strip : AY → AC
  | .skip => .skip
  | .seq x y => .seq x.strip y.strip
  | .cond c x y => .cond c x.strip y.strip
  | .block id x => .block id x.strip
  | .loop x => .loop x.strip
  | .exit id => .exit id
  | .ret => .ret
  | .reg l => .reg l
  | .draw l => .draw (l.map fun i => bare i.b)
  | .ghost _ x => x.strip
  | .yield d pre y post => if d then .draw ((pre.map (·.b) ++ y :: post).map bare) else .reg (pre.map (·.b) ++ y :: post)

def okPre (pre : List AI) (y : AB) (post : List AB) : Bool :=
  let ms := masks (pre.map (·.b.after)) []
  (List.range pre.length).all (fun j => y.after.any fun e => e == j || (ms.getD e 0).testBit j) && y.after.all (fun e => decide (e < pre.length)) &&
  (List.range post.length).all (fun i => (post.getD i default).after.all (fun e => decide (e < pre.length + 1 + i)) && (post.getD i default).after.contains (pre.length + i)) &&
  pre.all fun i => match i.b.guard with
    | none => true
    | some (t, _) => (y :: post).all fun b => !(b.dst == some t)

def AY.okAll : AY → Bool
  | .seq x y => x.okAll && y.okAll
  | .cond _ x y => x.okAll && y.okAll
  | .block _ x => x.okAll
  | .loop x => x.okAll
  | .draw l => okMarks l && okPl l
  | .ghost _ x => x.okAll
  | .yield d pre y post => !d || (okMarks pre && okPl pre && okPre pre y post)
  | _ => true

abbrev YPT := (AE → Fr → Option Nat → Prop) → Fr → Option Nat → Prop
def lpY (b : YPT) : Nat → YPT
  | 0 => fun _ _ _ => False
  | n + 1 => fun K F p => b (fun e F' p' => match e with | .normal => lpY b n K F' p' | e => K e F' p') F p

def AV.pur : AV → AV
  | .p v => .p v
  | _ => .top
def Fr.pure (F : Fr) : Fr := ⟨F.vars.map fun x => (x.1, x.2.pur), []⟩

def coreY (P : Program) (l : Nat) (xs : List (List PV)) (x : Opd) (args : List Opd) (dst : Option Nat) (post : List AB) (K : Fr → Option Nat → Prop) (F : Fr) (p : Option Nat) : Prop :=
  F.ff.val x = some (.p (.clo (.yield l) [] [])) ∧ match F.ff.vals args with
  | some vs => match allP vs, p with
    | some it, some k => xs[k]? = some it ∧ ∀ b : Bool, awpR P post (fun F' => K F' (if b then some (k + 1) else none)) (F.pure.app dst ⟨.p (.bool b), [], []⟩)
    | _, _ => False
  | none => False

def stepY (P : Program) (l : Nat) (xs : List (List PV)) (y : AB) (post : List AB) (K : Fr → Option Nat → Prop) (F : Fr) (p : Option Nat) : Prop :=
  match y.op with
  | .callv x args => match y.guard with
    | none => coreY P l xs x args y.dst post K F p
    | some (t, want) => match F.ff.var t with
      | some (.p (.bool b)) => (b = want → coreY P l xs x args y.dst post K F p) ∧ (b ≠ want → awpR P post (fun F' => K F' p) (F.app y.dst ⟨.p (.tup []), [], []⟩))
      | _ => False
  | _ => False

def awpY (P : Program) (l : Nat) (xs : List (List PV)) : AY → YPT
  | .skip => fun K F p => K .normal F p
  | .seq x y => fun K F p => awpY P l xs x (fun e F' p' => match e with | .normal => awpY P l xs y K F' p' | e => K e F' p') F p
  | .cond c x y => fun K F p => match F.ff.val c with
    | some (.p (.bool b)) => (b = true → awpY P l xs x K F p) ∧ (b = false → awpY P l xs y K F p)
    | _ => False
  | .block id x => fun K F p => awpY P l xs x (fun e F' p' => match e with | .exit i => if i = id then K .normal F' p' else K (.exit i) F' p' | e => K e F' p') F p
  | .loop x => fun K F p => ∃ n, lpY (awpY P l xs x) n K F p
  | .exit id => fun K F p => K (.exit id) F p
  | .ret => fun K F p => K .ret F p
  | .reg ops => fun K F p => awpR P ops (fun F' => K .normal F' p) F
  | .draw ops => fun K F p => awpX P F 0 [] [] ops (fun F' => K .normal F' p) F
  | .ghost g x => fun K F p => match g.app F with
    | some F' => awpY P l xs x K F' p
    | none => False
  | .yield d pre y post => fun K F p => if d then awpX P F 0 [] [] pre (fun F1 => stepY P l xs y post (K .normal) F1 p) F else awpR P (pre.map (·.b)) (fun F1 => stepY P l xs y post (K .normal) F1 p) F

section
variable {P : Program} {N : Nat} {ι : Inj} {S : Snap} {F : FF} {a : Act} {w : World}

theorem callv_inv {op : Op} {x : Opd} {args : List Opd} (hr : resolveOp P op = some (.callv x args)) : ∃ (c : Call) (g : Operand), op = .call c ∧ c.callee = .value g ∧ rO g = some x ∧ rOs c.args.toList = some args := by
  cases hop : op with
  | call c =>
    obtain ⟨callee, cargs, argTypes⟩ := c
    simp only [hop, resolveOp, resolveCall] at hr
    split at hr
    · repeat' split at hr
      all_goals first
      | (simp at hr; done)
      | (simp only [Option.map_eq_some_iff] at hr; obtain ⟨q, h1, h2⟩ := hr; simp at h2; done)
    · split at hr
      · rename_i g1 g2
        simp at hr
        obtain ⟨rfl, rfl⟩ := hr
        exact ⟨_, _, rfl, rfl, g1, g2⟩
      · simp at hr
    all_goals (repeat' split at hr)
    all_goals first
    | (simp at hr; done)
    | (simp only [Option.map_eq_some_iff] at hr; obtain ⟨q, h1, h2⟩ := hr; simp at h2; done)
  | slice t x lo hi mx =>
    exfalso
    cases mx with
    | some m => simp [hop, resolveOp] at hr
    | none =>
      simp only [hop, resolveOp] at hr
      repeat' split at hr
      all_goals (simp at hr; done)
  | _ =>
    exfalso
    simp only [hop, resolveOp] at hr
    first
    | (simp at hr; done)
    | (simp only [Option.map_eq_some_iff] at hr; obtain ⟨q, h1, h2⟩ := hr; simp at h2; done)
    | (repeat' split at hr
       all_goals first
       | (simp at hr; done)
       | (simp only [Option.map_eq_some_iff] at hr; obtain ⟨q, h1, h2⟩ := hr; simp at h2; done))

theorem resolveI_inv {ops : Array Oper} {o : Oper} {i : AB} (hr : resolveI P N ops o = some i) : resolveOp P o.op = some i.op ∧ i.dst = o.dst ∧ (∀ d, o.dst = some d → d < N) ∧ i.after = afterOf o ∧ ((o.guard = none ∧ i.guard = none) ∨ ∃ j want t, o.guard = some (j, want) ∧ (ops[j]?).bind (·.dst) = some t ∧ i.guard = some (t, want)) := by
  unfold resolveI at hr
  split at hr
  · simp at hr
  · rename_i op h1
    split at hr
    · rename_i h2
      have hd : ∀ d, o.dst = some d → d < N := by
        intro d hd; rw [hd] at h2; simpa [dstOk] using h2
      split at hr
      · rename_i h3; simp at hr; subst hr; exact ⟨h1, rfl, hd, rfl, .inl ⟨h3, rfl⟩⟩
      · rename_i j want h3
        split at hr
        · rename_i t h4; simp at hr; subst hr; exact ⟨h1, rfl, hd, rfl, .inr ⟨j, want, t, h3, h4, rfl⟩⟩
        · simp at hr
    · simp at hr

theorem pure_var {F : Fr} {t : Nat} {v : AV} (h : F.pure.ff.var t = some v) : ∃ u, F.ff.var t = some u ∧ v = u.pur := by
  obtain ⟨u, h1, h2⟩ := look_map (g := AV.pur) (show look t (F.vars.map fun x => (x.1, x.2.pur)) = some v from h)
  exact ⟨u, h1, h2.symm⟩

/-- A state of a generator: where the last round ended, and what it has done since. -/
def GSt (N : Nat) (J : Nat → Snap → World → Prop) (E : Snap → World → Prop) (F : Fr) (p : Option Nat) (a : Act) (w : World) : Prop :=
  ∃ b ι S, b.D = [] ∧ St N b ι S F.ff a w ∧ match p with | some k => J k b.S b.w | none => E b.S b.w

def SoundY (P : Program) (N : Nat) (J : Nat → Snap → World → Prop) (E : Snap → World → Prop) (b : YPT) (c : Code) : Prop :=
  ∀ (n : Nat) (K : AE → Fr → Option Nat → Prop) (F : Fr) (p : Option Nat) (a : Act) (w : World) (Q : Exit → Act → World → Prop), b K F p → GSt N J E F p a w →
    (∀ e F' p' a' w', K e F' p' → GSt N J E F' p' a' w' → Q e.toExit a' w') → c.wpIn (Fz none) n P Q a w

variable {J : Nat → Snap → World → Prop} {E : Snap → World → Prop} {l : Nat} {xs : List (List PV)}

/-- The call of yield, and what comes behind it in its region. -/
theorem stepY_ok (hJ : ∀ k, Stab (J k)) (hround : ∀ k x S1 w1 vs, xs[k]? = some x → S1.holds w1 → J k S1 w1 → Ps S1 x vs → Round P l vs w1 S1 fun b S2 w2 => if b then J (k + 1) S2 w2 else E S2 w2)
    {ops : Array Oper} {c : Nat} {o : Oper} {y : AB} {post : List AB} (hn : NoDefer ops) (ho : ops[c]? = some o) (hy : resolveI P N ops o = some y) (hp : ∀ j i, post[j]? = some i → ∃ o, ops[c + 1 + j]? = some o ∧ resolveI P N ops o = some i)
    {n : Nat} {K : Fr → Option Nat → Prop} {F : Fr} {p : Option Nat} {a : Act} {w : World} {Q : Exit → Act → World → Prop} (h : stepY P l xs y post K F p) (hst : GSt N J E F p a w)
    (hQ : ∀ F' p' a' w', K F' p' → GSt N J E F' p' a' w' → Q .normal a' w') : wpOpsIn (Fz none) n P ops Q (c :: List.range' (c + 1) post.length) a w := by
  obtain ⟨b, ι, S, hD, hst, hpos⟩ := hst
  obtain ⟨g1, g2, g3, _, g5⟩ := resolveI_inv hy
  have rest : ∀ (F3 : Fr) (p3 : Option Nat) (b3 : Base) (ι3 : Inj) (S3 : Snap) (a3 : Act) (w3 : World), awpR P post (fun F' => K F' p3) F3 → b3.D = [] → St N b3 ι3 S3 F3.ff a3 w3 → (match p3 with | some k => J k b3.S b3.w | none => E b3.S b3.w) → wpOpsIn (Fz none) n P ops Q (List.range' (c + 1) post.length) a3 w3 := by
    intro F3 p3 b3 ι3 S3 a3 w3 h1 h2 h3 h4
    refine toIn (D := fun _ => True) (a0 := a3) (X := fun a' w' => ∃ F' ι' S', K F' p3 ∧ St N b3 ι' S' F'.ff a' w') (fun _ _ _ _ _ => trivial) hn ?_ _ a3 w3 ?_ (.refl _ _)
    · rintro a' w' ⟨F', ι', S', q1, q2⟩ _
      exact hQ F' p3 a' w' q1 ⟨b3, ι', S', h2, q2, h4⟩
    · exact awpR_ok (Q := Qn _) post (c + 1) F3 ι3 S3 a3 w3 hp h1 h3 (fun F' ι' S' a' w' hk hst' => ⟨F', ι', S', hk, hst'⟩)
  rw [wpOpsIn_cons]
  unfold wpOpIn
  rw [ho]
  simp only
  unfold stepY at h
  split at h
  · rename_i x args hop
    rw [hop] at g1
    obtain ⟨call, g, hc1, hc2, hc3, hc4⟩ := callv_inv g1
    have core : coreY P l xs x args y.dst post K F p → o.wpIn (Fz none) n P a w (wpOpsIn (Fz none) n P ops Q (List.range' (c + 1) post.length)) Q := by
      rintro ⟨e1, e2⟩
      split at e2
      · rename_i vs hvs
        split at e2
        · rename_i it k hit
          obtain ⟨e3, e4⟩ := e2
          have hclo : a.eval g = .func (.yield l) #[] #[] := by
            have := (hst.val hc3 e1).inv_p
            generalize a.eval g = yv at this
            cases this with
            | clo _ _ _ fs cs hf hc q1 q2 =>
              have h1 : fs = [] := List.eq_nil_of_length_eq_zero (by simpa using hf)
              have h2 : cs = [] := List.eq_nil_of_length_eq_zero (by simpa using hc)
              subst h1; subst h2; rfl
          have hps := (hst.vals hc4 hvs).toPs hit
          have hJk : J k S w := hJ k _ _ S w hpos hst.sle hst.snap hst.keep hst.snew
          obtain ⟨fn, tmps, assign, body, r1, r2⟩ := hround k it S w _ e3 hst.snap hJk hps
          refine ⟨fun _ _ => trivial, ?_⟩
          have hexec : (o.semAt (Fz none).round a.eval).run P w = .ok (.round l fn tmps assign body) w := by
            rw [Oper.semAt_eq _ _ _ (hn c o ho)]
            obtain ⟨callee, cargs, argTypes⟩ := call
            simp only at hc2 hc4
            subst hc2
            have e2 : cargs.map a.eval = (cargs.toList.map a.eval).toArray := by apply Array.ext'; simp
            simp only [execOp, hc1, resolve, hclo, Deferred.ofValue, Sem.run_bind, Sem.run_pure, Result.andThen_ok, invoke]
            rw [e2]
            simpa using r1
          rw [hexec]
          refine ⟨fun q => by simp [Fz, Fence.wide] at q, ?_⟩
          refine RoundIn.mono (show RoundIn (Fz none) (n - 1) P l fn tmps assign body w _ from ⟨trivial, fun c cs _ => r2.2 c cs (room_wide _)⟩) ?_
          rintro e w2 ⟨bb, S2, rfl, q1, q2, q3⟩
          simp only
          have hst2 : St N { w := w2, S := S2 } ι S2 F.pure.ff a w2 := by
            refine ⟨hst.nt, by rw [hst.df, hD], fun r o e => by simp at e, Keep.refl _, fun _ _ q => q, fun _ _ q => .inl q, q2, fun t v e => ?_, fun s k e => by simp [Fr.pure, Fr.ff, Fr.blk, look] at e, fun s k e => by simp [Fr.pure, Fr.ff, Fr.blk, look] at e, fun s s' k k' e => by simp [Fr.pure, Fr.ff, Fr.blk, look] at e⟩
            obtain ⟨u, u1, rfl⟩ := pure_var e
            obtain ⟨xv, x1, x2⟩ := hst.vars t u u1
            refine ⟨xv, x1, ?_⟩
            cases u with
            | p q => exact .p _ _ (x2.inv_p.mono q1)
            | _ => exact .top _
          have hput := hst2.put (dst := o.dst) (v := .p (.bool bb)) (x := .bool bb) (.p _ _ (.bool _)) g3
          have happ : (F.pure.app o.dst ⟨.p (.bool bb), [], []⟩).ff = { F.pure.ff with var := fun t => if o.dst = some t then some (.p (.bool bb)) else F.pure.ff.var t } := by
            rw [Fr.app_ff, FF.app_val]
          have e4 := e4 bb
          rw [g2] at e4
          refine rest (F.pure.app o.dst ⟨.p (.bool bb), [], []⟩) _ { w := w2, S := S2 } ι S2 (a.put o.dst (.bool bb)) w2 e4 rfl (by rw [happ]; exact hput) ?_
          cases bb
          · simpa using q3
          · simpa using q3
        · exact e2.elim
      · exact e2.elim
    rcases g5 with ⟨k1, k2⟩ | ⟨j, want, t, k1, k2, k3⟩
    · rw [k2] at h
      have : Region.wanted o (yielded ops a.tmps) = true := by simp [Region.wanted, k1]
      rw [if_pos this]
      exact core h
    · rw [k3] at h
      simp only at h
      split at h
      · rename_i bg hbg
        obtain ⟨xv, q4, q5⟩ := hst.vars t _ hbg
        obtain rfl := inv_bool q5
        have hyl : yielded ops a.tmps j = some bg := by simp [yielded, k2, q4]
        have hw : Region.wanted o (yielded ops a.tmps) = (bg == want) := by
          simp only [Region.wanted, k1, hyl]
          cases bg <;> cases want <;> rfl
        rw [hw]
        by_cases hb : bg = want
        · subst hb
          simp only [beq_self_eq_true, if_true]
          exact core (h.1 rfl)
        · have : (bg == want) = false := by cases bg <;> cases want <;> first | rfl | exact absurd rfl hb
          rw [this]
          simp only [Bool.false_eq_true, if_false]
          have h2 := h.2 hb
          rw [g2] at h2
          have hput := hst.put (dst := o.dst) (v := .p (.tup [])) (x := undef) (.p _ _ (.tup [] [] rfl (by simp))) g3
          refine ⟨fun _ _ => trivial, rest _ p b ι S _ w h2 hD ?_ hpos⟩
          rw [Fr.app_ff, FF.app_val]
          exact hput
      · exact h.elim
  · exact h.elim
end
end Go.Abs
namespace Go.Abs
open Go
set_option linter.unusedSimpArgs false
set_option linter.unusedVariables false

section
variable {P : Program} {N : Nat} {J : Nat → Snap → World → Prop} {E : Snap → World → Prop} {l : Nat} {xs : List (List PV)}

/-- A region with a call of yield, its order open. -/
theorem yield_draw {ops : Array Oper} {pre : List AI} {y : AB} {post : List AB} {Q : Exit → Act → World → Prop} {a : Act} {w : World} {n : Nat} (hn : NoDefer ops)
    (hr : resolveIs P N ops ops.toList = some (pre.map (·.b) ++ y :: post)) (hm : okMarks pre = true) (hk : okPre pre y post = true)
    {F : Fr} {ι : Inj} {S : Snap} {b : Base} {K : Fr → Prop} (h : awpD P F 0 [] pre K F) (hst : St N b ι S F.ff a w)
    (hX : ∀ F' ι' S' a' w', K F' → St N b ι' S' F'.ff a' w' → wpOpsIn (Fz none) n P ops Q (pre.length :: List.range' (pre.length + 1) post.length) a' w') :
    wpAnyIn (Fz none) n P .any ops Q ops.size (Array.replicate ops.size false) a w := by
  obtain ⟨q1, q2⟩ := resolveIs_get hr
  have hsz : ops.size = pre.length + (post.length + 1) := by have := q1; simp at this; omega
  simp only [okPre, Bool.and_eq_true] at hk
  obtain ⟨⟨⟨k1, k2⟩, k3⟩, k4⟩ := hk
  have getP : ∀ k, k < pre.length → ∃ o, ops[k]? = some o ∧ resolveI P N ops o = some (pre.getD k default).b := by
    intro k hk
    obtain ⟨o, h1, h2⟩ := q2 k (pre.getD k default).b (by rw [List.getElem?_append_left (by simpa using hk)]; simp [hk])
    exact ⟨o, by simpa using h1, h2⟩
  have getQ : ∀ k, k < post.length → ∃ o, ops[pre.length + 1 + k]? = some o ∧ resolveI P N ops o = some (post.getD k default) := by
    intro k hk
    obtain ⟨o, h1, h2⟩ := q2 (pre.length + 1 + k) (post.getD k default) (by
      rw [List.getElem?_append_right (by simp; omega)]
      have : pre.length + 1 + k - (pre.map (·.b)).length = k + 1 := by simp; omega
      rw [this]; simp [hk])
    exact ⟨o, by simpa using h1, h2⟩
  obtain ⟨oy, hy1, hy2⟩ : ∃ o, ops[pre.length]? = some o ∧ resolveI P N ops o = some y := by
    obtain ⟨o, h1, h2⟩ := q2 pre.length y (by rw [List.getElem?_append_right (by simp)]; simp)
    exact ⟨o, by simpa using h1, h2⟩
  have hmk := List.all_eq_true.1 hm
  have hafter : ∀ k, k < pre.length → ∀ e ∈ (pre.getD k default).b.after, e < k := by
    intro k hk e he
    have := hmk k (by simpa using hk)
    simp only [Bool.and_eq_true] at this
    have := List.all_eq_true.1 this.1 e he
    simpa using this
  -- the operations ahead of it
  let opsP := ops.extract 0 pre.length
  have hPs : opsP.size = pre.length := by simp only [opsP, Array.size_extract]; omega
  have hPg : ∀ (k : Nat) (o : Oper), opsP[k]? = some o → k < pre.length ∧ ops[k]? = some o := by
    intro k o e
    have hlt : k < pre.length := by have := (Array.getElem?_eq_some_iff.1 e).1; omega
    refine ⟨hlt, ?_⟩
    simp only [opsP, Array.getElem?_extract] at e
    rw [if_pos (by omega)] at e
    simpa using e
  have hPg' : ∀ k, k < pre.length → opsP[k]? = ops[k]? := by
    intro k hk
    simp only [opsP, Array.getElem?_extract]
    rw [if_pos (by omega)]
    simp
  have hguard : ∀ k, k < pre.length → ∀ o, ops[k]? = some o → ∀ j w, o.guard = some (j, w) → j < pre.length := by
    intro k hk o ho j wt hg
    obtain ⟨o', h1, h2⟩ := getP k hk
    rw [ho] at h1; simp at h1; subst h1
    obtain ⟨_, _, _, _, g5⟩ := resolveI_inv h2
    rcases g5 with ⟨g6, _⟩ | ⟨j', w', t, g6, g7, g8⟩
    · rw [g6] at hg; simp at hg
    · rw [g6] at hg; simp at hg
      obtain ⟨rfl, rfl⟩ := hg
      have k4' := List.all_eq_true.1 k4 (pre.getD k default) (by simp [List.getD, hk])
      rw [g8] at k4'
      simp only [List.all_cons, Bool.and_eq_true, Bool.not_eq_true', List.all_eq_true] at k4'
      simp only [Option.bind_eq_some_iff] at g7
      obtain ⟨oj, g9, g10⟩ := g7
      rcases Nat.lt_trichotomy j' pre.length with h3 | h3 | h3
      · exact h3
      · subst h3
        rw [hy1] at g9; simp at g9; subst g9
        have := (resolveI_inv hy2).2.1
        have h4 := k4'.1
        rw [this, g10] at h4; simp at h4
      · have hlt : j' < ops.size := (Array.getElem?_eq_some_iff.1 g9).1
        obtain ⟨o3, h4, h5⟩ := getQ (j' - (pre.length + 1)) (by omega)
        have : pre.length + 1 + (j' - (pre.length + 1)) = j' := by omega
        rw [this, g9] at h4; simp at h4; subst h4
        have h6 := (resolveI_inv h5).2.1
        have h7 := k4'.2 (post.getD (j' - (pre.length + 1)) default) (by
          have hlt' : j' - (pre.length + 1) < post.length := by omega
          simp [List.getD, hlt'])
        rw [h6, g10] at h7; simp at h7
  have hresP : ∀ (k : Nat) (i : AI), pre[k]? = some i → ∃ o, opsP[k]? = some o ∧ resolveI P N opsP o = some i.b := by
    intro k i e
    have hlt := (List.getElem?_eq_some_iff.1 e).1
    obtain ⟨o, h1, h2⟩ := getP k hlt
    have hi : pre.getD k default = i := by simp [List.getD, e]
    rw [hi] at h2
    refine ⟨o, by rw [hPg' k hlt]; exact h1, ?_⟩
    rw [← h2]
    unfold resolveI
    cases hg : o.guard with
    | none => rfl
    | some q =>
      obtain ⟨j, wt⟩ := q
      simp only [hPg' j (hguard k hlt o h1 j wt hg)]
  have hany := awpD_ok (Q := Qn (fun a' w' => ∃ F' ι' S', K F' ∧ St N b ι' S' F'.ff a' w')) (ops := opsP) (by rw [hPs]) hresP hm h hst (fun F' ι' S' a' w' hk hst' => ⟨F', ι', S', hk, hst'⟩)
  rw [hPs] at hany
  have := preIn (r := none) (n := n) (D := fun _ => True) (a0 := a) (m := post.length + 1) (Q := Q) (fun _ _ _ _ _ => trivial) hn hPs hsz (by omega) ?_ ?_ ?_ ?_ pre.length (Array.replicate pre.length false) a w (by simp) ?_ ?_ hany (.refl _ _)
  · rw [hsz]
    have e : Array.replicate (pre.length + (post.length + 1)) false = Array.replicate pre.length false ++ Array.replicate (post.length + 1) false := by simp
    rw [e]; exact this
  · intro k o e
    obtain ⟨h1, h2⟩ := hPg k o e
    refine ⟨h2, ?_, hguard k h1 o h2⟩
    obtain ⟨o', h3, h4⟩ := getP k h1
    rw [h2] at h3; simp at h3; subst h3
    rw [← (resolveI_inv h4).2.2.2.1]
    exact hafter k h1
  · intro listed hls hcl o ho hre j hj
    rw [hy1] at ho; simp at ho; subst ho
    rw [← (resolveI_inv hy2).2.2.2.1] at hre
    have h1 := List.all_eq_true.1 k1 j (by simpa using hj)
    rw [List.any_eq_true] at h1
    obtain ⟨e, he, h2⟩ := h1
    simp only [Bool.or_eq_true, beq_iff_eq] at h2
    rcases h2 with rfl | h2
    · exact hre _ he
    · have hspec := masks_spec (pre.map (·.b.after)) [] [] rfl (by simp) (by
        intro k hk e he
        simp only [List.nil_append, List.length_map] at hk he
        exact hafter k hk e (by simpa [List.getD, hk] using he))
      simp only [List.nil_append, List.length_map] at hspec
      have hlt := List.all_eq_true.1 k2 e he
      have hlt : e < pre.length := by simpa using hlt
      have hdep : ∀ k, k < pre.length → listed.getD k false = true → ∀ j, ((masks (pre.map (·.b.after)) []).getD k 0).testBit j = true → listed.getD j false = true := by
        intro k
        induction k using Nat.strongRecOn with
        | _ k ih =>
          intro hk hlk j hj
          obtain ⟨e', h3, h4⟩ := hspec.2 k hk j hj
          have h3 : e' ∈ (pre.getD k default).b.after := by simpa [List.getD, hk] using h3
          obtain ⟨o2, g1, g2⟩ := getP k hk
          have h5 : listed.getD e' false = true := hcl k o2 (by rw [hPg' k hk]; exact g1) hlk e' (by rw [← (resolveI_inv g2).2.2.2.1]; exact h3)
          rcases h4 with rfl | ⟨h4, h6⟩
          · exact h5
          · exact ih e' h4 (by omega) h5 j h6
      exact hdep e hlt (hre e he) j h2
  · intro k o hck ho
    have hlt : k < ops.size := (Array.getElem?_eq_some_iff.1 ho).1
    obtain ⟨o', h1, h2⟩ := getQ (k - (pre.length + 1)) (by omega)
    have e : pre.length + 1 + (k - (pre.length + 1)) = k := by omega
    rw [e, ho] at h1; simp at h1; subst h1
    rw [← (resolveI_inv h2).2.2.2.1]
    have h3 := List.all_eq_true.1 k3 (k - (pre.length + 1)) (by simp; omega)
    simp only [Bool.and_eq_true, List.contains_iff_mem] at h3
    have e2 : pre.length + (k - (pre.length + 1)) = k - 1 := by omega
    rw [e2] at h3
    exact h3.2
  · rintro a' w' ⟨F', ι', S', hk, hst'⟩ _
    refine chainIn (c := pre.length) (fun k o hck ho => ?_) (post.length + 1) pre.length (Nat.le_refl _) (by omega) a' w' ?_
    · have hlt : k < ops.size := (Array.getElem?_eq_some_iff.1 ho).1
      rcases Nat.eq_or_lt_of_le hck with h1 | h1
      · subst h1
        rw [hy1] at ho; simp at ho; subst ho
        rw [← (resolveI_inv hy2).2.2.2.1]
        exact ⟨fun e he => by have := List.all_eq_true.1 k2 e he; simpa using this, fun q => by omega⟩
      · obtain ⟨o', h2, h3⟩ := getQ (k - (pre.length + 1)) (by omega)
        have e : pre.length + 1 + (k - (pre.length + 1)) = k := by omega
        rw [e, ho] at h2; simp at h2; subst h2
        rw [← (resolveI_inv h3).2.2.2.1]
        have h4 := List.all_eq_true.1 k3 (k - (pre.length + 1)) (by simp; omega)
        simp only [Bool.and_eq_true, List.contains_iff_mem] at h4
        have e2 : pre.length + (k - (pre.length + 1)) = k - 1 := by omega
        rw [e2, e] at h4
        exact ⟨fun e' he' => by have := List.all_eq_true.1 h4.1 e' he'; simpa using this, fun _ => h4.2⟩
    · rw [List.range'_succ]
      exact hX F' ι' S' a' w' hk hst'
  · have : ((List.range pre.length).filter fun j => !((Array.replicate pre.length false).getD j false)) = List.range pre.length := by
      rw [List.filter_eq_self]
      intro j hj
      have hj' : j < pre.length := by simpa using hj
      simp [Array.getD, hj']
    rw [this]; simp
  · intro k o e hl
    have : k < pre.length := (hPg k o e).1
    simp [Array.getD, this] at hl

theorem awpY_ok (hm : P.follows .mixedOrders = true) (hJ : ∀ k, Stab (J k)) (hround : ∀ k x S1 w1 vs, xs[k]? = some x → S1.holds w1 → J k S1 w1 → Ps S1 x vs → Round P l vs w1 S1 fun b S2 w2 => if b then J (k + 1) S2 w2 else E S2 w2) :
    ∀ (ay : AY) (c : Code), resolveC P N c = some ay.strip → ay.okAll = true → SoundY P N J E (awpY P l xs ay) c := by
  intro ay
  induction ay with
  | ghost g x ih =>
    intro c hr ho n K F p a w Q h hst hQ
    simp only [awpY] at h
    split at h
    · rename_i F' hF
      obtain ⟨b, ι, S, hD, hst, hpos⟩ := hst
      obtain ⟨ι', S', hst'⟩ := ghost_ok hst hF
      exact ih c hr ho n K F' p a w Q h ⟨b, ι', S', hD, hst', hpos⟩ hQ
    · exact h.elim
  | skip =>
    intro c hr ho n K F p a w Q h hst hQ
    cases c <;> simp only [resolveC, AY.strip] at hr
    · exact wpIn_skip (hQ .normal F p a w h hst)
    all_goals (try simp only [Option.map_eq_some_iff] at hr)
    all_goals (repeat' split at hr)
    all_goals (simp at hr)
  | seq x y ihx ihy =>
    intro c hr ho n K F p a w Q h hst hQ
    simp only [AY.okAll, Bool.and_eq_true] at ho
    cases c <;> simp only [resolveC, AY.strip] at hr
    case seq a' b' =>
      split at hr
      · rename_i x' y' h1 h2
        simp at hr
        obtain ⟨rfl, rfl⟩ := hr
        refine wpIn_seq (ihx _ h1 ho.1 n _ F p a w _ h hst fun e F' p' a' w' hk hst' => ?_)
        cases e with
        | normal => exact ihy _ h2 ho.2 n K F' p' a' w' Q hk hst' hQ
        | exit id => exact hQ (.exit id) F' p' a' w' hk hst'
        | ret => exact hQ .ret F' p' a' w' hk hst'
      · simp at hr
    all_goals (try simp only [Option.map_eq_some_iff] at hr)
    all_goals (repeat' split at hr)
    all_goals (simp at hr)
  | cond c' x y ihx ihy =>
    intro c hr ho n K F p a w Q h hst hQ
    simp only [AY.okAll, Bool.and_eq_true] at ho
    cases c <;> simp only [resolveC, AY.strip] at hr
    case cond c'' a' b' =>
      split at hr
      · rename_i q x' y' h1 h2 h3
        simp at hr
        obtain ⟨rfl, rfl, rfl⟩ := hr
        simp only [awpY] at h
        split at h
        · rename_i b hbv
          obtain ⟨b0, ι, S, hD, hst1, hpos⟩ := id hst
          have := inv_bool (hst1.val h1 hbv)
          refine wpIn_cond_split this (fun ht => ?_) (fun hf => ?_)
          · exact ihx _ h2 ho.1 n K F p a w Q (h.1 ht) hst hQ
          · exact ihy _ h3 ho.2 n K F p a w Q (h.2 hf) hst hQ
        · exact h.elim
      · simp at hr
    all_goals (try simp only [Option.map_eq_some_iff] at hr)
    all_goals (repeat' split at hr)
    all_goals (simp at hr)
  | block id x ih =>
    intro c hr ho n K F p a w Q h hst hQ
    cases c <;> simp only [resolveC, AY.strip] at hr
    case block id' a' =>
      simp only [Option.map_eq_some_iff, AC.block.injEq] at hr
      obtain ⟨x', h1, rfl, rfl⟩ := hr
      refine wpIn_block (ih _ h1 ho n _ F p a w _ h hst fun e F' p' a' w' hk hst' => ?_)
      cases e with
      | normal => exact hQ .normal F' p' a' w' hk hst'
      | exit i =>
        simp only [AE.toExit, Exit.inBlock]
        dsimp only at hk
        split
        · rename_i hi; rw [if_pos hi] at hk; exact hQ .normal F' p' a' w' hk hst'
        · rename_i hi; rw [if_neg hi] at hk; exact hQ (.exit i) F' p' a' w' hk hst'
      | ret => exact hQ .ret F' p' a' w' hk hst'
    all_goals (try simp only [Option.map_eq_some_iff] at hr)
    all_goals (repeat' split at hr)
    all_goals (simp at hr)
  | loop x ih =>
    intro c hr ho n K F p a w Q h hst hQ
    cases c <;> simp only [resolveC, AY.strip] at hr
    case loop a0 =>
      simp only [Option.map_eq_some_iff, AC.loop.injEq] at hr
      obtain ⟨x', h1, rfl⟩ := hr
      let I : Act → World → Nat → Prop := fun a' w' n => ∃ F p, lpY (awpY P l xs x) n K F p ∧ GSt N J E F p a' w'
      refine wpIn_loop (fun a w => ∃ n, I a w n) (fun a w => leastOf (I a w)) ?_ ?_
      · obtain ⟨n, hn⟩ := h; exact ⟨n, F, p, hn, hst⟩
      · intro a1 w1 hI
        obtain ⟨⟨F1, p1, hlp, hst1⟩, hmin⟩ := leastOf_spec hI
        generalize hn : leastOf (I a1 w1) = n' at *
        cases n' with
        | zero => exact hlp.elim
        | succ m =>
          refine ih _ h1 ho n _ F1 p1 a1 w1 _ hlp hst1 fun e F' p' a' w' hk hst' => ?_
          cases e with
          | normal =>
            have hJ' : I a' w' m := ⟨F', p', hk, hst'⟩
            refine ⟨⟨m, hJ'⟩, ?_⟩
            have := (leastOf_spec ⟨m, hJ'⟩).2 m hJ'
            omega
          | exit id => exact hQ (.exit id) F' p' a' w' hk hst'
          | ret => exact hQ .ret F' p' a' w' hk hst'
    all_goals (try simp only [Option.map_eq_some_iff] at hr)
    all_goals (repeat' split at hr)
    all_goals (simp at hr)
  | exit id =>
    intro c hr ho n K F p a w Q h hst hQ
    cases c <;> simp only [resolveC, AY.strip] at hr
    case exit id' =>
      simp at hr; subst hr
      exact wpIn_exit (hQ (.exit id') F p a w h hst)
    all_goals (try simp only [Option.map_eq_some_iff] at hr)
    all_goals (repeat' split at hr)
    all_goals (simp at hr)
  | ret =>
    intro c hr ho n K F p a w Q h hst hQ
    cases c <;> simp only [resolveC, AY.strip] at hr
    case ret => exact wpIn_ret (hQ .ret F p a w h hst)
    all_goals (try simp only [Option.map_eq_some_iff] at hr)
    all_goals (repeat' split at hr)
    all_goals (simp at hr)
  | reg ops0 =>
    intro c hr ho n K F p a w Q h hst hQ
    cases c <;> simp only [resolveC, AY.strip] at hr
    case region id ops d =>
      split at hr
      · rename_i l' h1
        cases d with
        | true => simp at hr
        | false =>
          simp at hr; subst hr
          obtain ⟨q1, q2⟩ := resolveIs_get h1
          obtain ⟨q3, q4⟩ := resolveIs_ops h1
          obtain ⟨b, ι, S, hD, hst, hpos⟩ := hst
          refine wpIn_region ?_
          have : List.range ops.size = List.range' 0 l'.length := by rw [q1, List.range_eq_range']; simp
          rw [this]
          refine toIn (D := fun _ => True) (a0 := a) (X := fun a' w' => ∃ F' ι' S', K .normal F' p ∧ St N b ι' S' F'.ff a' w') (fun _ _ _ _ _ => trivial) q3 ?_ _ a w ?_ (.refl _ _)
          · rintro a' w' ⟨F', ι', S', g1, g2⟩ g3
            exact hQ .normal F' p a' w' g1 ⟨b, ι', S', hD, g2, hpos⟩
          · exact awpR_ok (Q := Qn _) l' 0 F ι S a w (fun j i hj => by simpa using q2 j i hj) h hst (fun F' ι' S' a' w' hk hst' => ⟨F', ι', S', hk, hst'⟩)
      · simp at hr
    all_goals (try simp only [Option.map_eq_some_iff] at hr)
    all_goals (repeat' split at hr)
    all_goals (simp at hr)
  | draw ops0 =>
    intro c hr ho n K F p a w Q h hst hQ
    cases c <;> simp only [resolveC, AY.strip] at hr
    case region id ops d =>
      split at hr
      · rename_i l' h1
        cases d with
        | false => simp at hr
        | true =>
          simp only [if_true, Option.some.injEq, AC.draw.injEq] at hr
          obtain ⟨q1, q2⟩ := resolveIs_get h1
          obtain ⟨q3, q4⟩ := resolveIs_ops h1
          have hb' : l' = ops0.map (·.b) := by
            have := congrArg (List.map (·.b)) hr
            simpa [List.map_map, Function.comp_def, bare] using this
          obtain ⟨b, ι, S, hD, hst, hpos⟩ := hst
          refine wpIn_region_any hm ?_
          refine toAny (D := fun _ => True) (a0 := a) (X := fun a' w' => ∃ F' ι' S', K .normal F' p ∧ St N b ι' S' F'.ff a' w') (fun _ _ _ _ _ => trivial) q3 ?_ _ _ a _ ?_ (.refl _ _)
          · rintro a' w' ⟨F', ι', S', g1, g2⟩ g3
            exact hQ .normal F' p a' w' g1 ⟨b, ι', S', hD, g2, hpos⟩
          refine awpD_ok (Q := Qn _) (F0 := F) (l := ops0) ?_ (fun k i hk => ?_) (Bool.and_eq_true _ _ ▸ ho).1 (awpX_D (Bool.and_eq_true _ _ ▸ ho).2 h) (hst.step0 (S' := S) (Keep.drew w) (fun _ _ q => q) (fun x v q => hst.snap x v q) (fun x v q => .inl q)) (fun F' ι' S' a' w' hk hst' => ⟨F', ι', S', hk, hst'⟩)
          · rw [hb'] at q1; simpa using q1
          · obtain ⟨o, h2, h3⟩ := q2 k i.b (by rw [hb']; simp [hk])
            exact ⟨o, by simpa using h2, h3⟩
      · simp at hr
    all_goals (try simp only [Option.map_eq_some_iff] at hr)
    all_goals (repeat' split at hr)
    all_goals (simp at hr)
  | yield dr pre y post =>
    intro c hr ho n K F p a w Q h hst hQ
    simp only [AY.strip] at hr
    cases c
    case region id ops d =>
      simp only [resolveC] at hr
      split at hr
      · rename_i l' h1
        obtain ⟨q3, q4⟩ := resolveIs_ops h1
        cases dr with
        | false =>
          cases d with
          | true => simp at hr
          | false =>
            simp only [Bool.false_eq_true, if_false, Option.some.injEq, AC.reg.injEq] at hr
            subst hr
            obtain ⟨q1, q2⟩ := resolveIs_get h1
            obtain ⟨b, ι, S, hD, hst, hpos⟩ := hst
            refine wpIn_region ?_
            have hlist : List.range ops.size = List.range' 0 (pre.map (·.b)).length ++ (pre.length :: List.range' (pre.length + 1) post.length) := by
              have : ops.size = pre.length + (post.length + 1) := by have := q1; simp at this; omega
              rw [this, List.range_eq_range', ← List.range'_append_1, Nat.zero_add, List.range'_succ]
              simp
            rw [hlist]
            simp only [awpY, Bool.false_eq_true, if_false] at h
            refine toInT (D := fun _ => True) (a0 := a) (X := fun a' w' => ∃ F' ι' S', stepY P l xs y post (K .normal) F' p ∧ St N b ι' S' F'.ff a' w') (fun _ _ _ _ _ => trivial) q3 ?_ _ a w ?_ (.refl _ _)
            · rintro a' w' ⟨F', ι', S', g1, g2⟩ _
              obtain ⟨oy, hy1, hy2⟩ := q2 pre.length y (by rw [List.getElem?_append_right (by simp)]; simp)
              refine stepY_ok hJ hround q3 (by simpa using hy1) hy2 (fun j i hj => ?_) g1 ⟨b, ι', S', hD, g2, hpos⟩ (fun F' p' a' w' k1 k2 => hQ .normal F' p' a' w' k1 k2)
              obtain ⟨o, h2, h3⟩ := q2 (pre.length + 1 + j) i (by
                rw [List.getElem?_append_right (by simp; omega)]
                have : pre.length + 1 + j - (pre.map (·.b)).length = j + 1 := by simp; omega
                rw [this]; simpa using hj)
              exact ⟨o, by simpa using h2, h3⟩
            · exact awpR_ok (Q := Qn (fun a' w' => ∃ F' ι' S', stepY P l xs y post (K .normal) F' p ∧ St N b ι' S' F'.ff a' w')) (pre.map (·.b)) 0 F ι S a w (fun j i hj => by
                obtain ⟨o, h2, h3⟩ := q2 j i (by rw [List.getElem?_append_left (List.getElem?_eq_some_iff.1 hj).1]; exact hj)
                exact ⟨o, by simpa using h2, h3⟩) h hst (fun F' ι' S' a' w' hk hst' => ⟨F', ι', S', hk, hst'⟩)
        | true =>
          cases d with
          | false => simp at hr
          | true =>
            simp only [if_true, Option.some.injEq, AC.draw.injEq] at hr
            have hb' : l' = pre.map (·.b) ++ y :: post := by
              have := congrArg (List.map (·.b)) hr
              simpa [List.map_map, Function.comp_def, bare] using this
            subst hb'
            obtain ⟨q1, q2⟩ := resolveIs_get h1
            simp only [AY.okAll, Bool.not_true, Bool.false_or, Bool.and_eq_true] at ho
            obtain ⟨b, ι, S, hD, hst, hpos⟩ := hst
            simp only [awpY, if_true] at h
            refine wpIn_region_any hm ?_
            refine yield_draw (N := N) q3 h1 ho.1.1 ho.2 (awpX_D ho.1.2 h) (hst.step0 (S' := S) (Keep.drew w) (fun _ _ q => q) (fun x v q => hst.snap x v q) (fun x v q => .inl q)) fun F' ι' S' a' w' g1 g2 => ?_
            obtain ⟨oy, hy1, hy2⟩ := q2 pre.length y (by rw [List.getElem?_append_right (by simp)]; simp)
            refine stepY_ok hJ hround q3 (by simpa using hy1) hy2 (fun j i hj => ?_) g1 ⟨b, ι', S', hD, g2, hpos⟩ (fun F' p' a' w' k1 k2 => hQ .normal F' p' a' w' k1 k2)
            obtain ⟨o, h2, h3⟩ := q2 (pre.length + 1 + j) i (by
              rw [List.getElem?_append_right (by simp; omega)]
              have : pre.length + 1 + j - (pre.map (·.b)).length = j + 1 := by simp; omega
              rw [this]; simpa using hj)
            exact ⟨o, by simpa using h2, h3⟩
      · simp at hr
    all_goals (exfalso; cases dr <;> simp only [resolveC] at hr)
    all_goals (try simp only [Option.map_eq_some_iff] at hr)
    all_goals (repeat' split at hr)
    all_goals (simp at hr)

/-- A generator's contract out of its text. -/
theorem gens (hm : P.follows .mixedOrders = true) {f : FuncId} {ay : AY} {n : Nat} (hf : factOf P f = some (ay.strip, [], n)) (ho : ay.okAll = true) {fi ca : List PV} {xs : List (List PV)} (hl : fi.length + 1 + ca.length ≤ n)
    (h : ∀ l, awpY P l xs ay (fun e _ p => (match e with | .exit _ => False | _ => True) ∧ (p = none ∨ p = some xs.length)) (initFr (fi ++ [.clo (.yield l) [] []] ++ ca)) (some 0)) : Gens P f fi ca xs := by
  unfold factOf at hf
  split at hf
  · rename_i fn h1
    split at hf
    · rename_i h2
      split at hf
      · rename_i ac' rs' h3 h4
        simp only [Option.some.injEq, Prod.mk.injEq] at hf
        obtain ⟨rfl, rfl, rfl⟩ := hf
        simp only [Option.bind_eq_some_iff] at h3
        obtain ⟨c, h5, h6⟩ := h3
        refine ⟨⟨fn, h1, by simp [h5], h2⟩, fun S w fs cs hS hfs hcs l J E sJ sE hround h0 => ?_⟩
        refine callsIn_fz' (r := none) (n := 0) (callsIn_of_wp_marks (F := Fence.wide) (n := 0) h1 h5 trivial ?_)
        have hargs : Ps S (fi ++ [.clo (.yield l) [] []] ++ ca) (fs ++ [Value.func (.yield l) #[] #[]] ++ cs) := by
          have app : ∀ {p1 p2 : List PV} {v1 v2 : List Value}, Ps S p1 v1 → Ps S p2 v2 → Ps S (p1 ++ p2) (v1 ++ v2) := by
            intro p1 p2 v1 v2 q1 q2
            refine ⟨by simp [q1.1, q2.1], fun j p v g1 g2 => ?_⟩
            rw [List.getElem?_append] at g1 g2
            have hl := q1.1
            by_cases hj : j < p1.length
            · rw [if_pos hj] at g1; rw [if_pos (by omega)] at g2; exact q1.2 j p v g1 g2
            · rw [if_neg hj] at g1; rw [if_neg (by omega), hl] at g2; exact q2.2 _ p v g1 g2
          have hone : Ps S [.clo (.yield l) [] []] [Value.func (.yield l) #[] #[]] := by
           refine ⟨rfl, fun j p v g1 g2 => ?_⟩
           cases j with
           | zero => simp at g1 g2; subst g1; subst g2; exact .clo (.yield l) [] [] [] [] rfl rfl (by simp) (by simp)
           | succ j => simp at g1
          exact app (app hfs hone) hcs
        generalize hA : fi ++ [.clo (.yield l) [] []] ++ ca = args at hargs
        generalize hX : fs ++ [Value.func (.yield l) #[] #[]] ++ cs = vals at hargs
        have hlen := hargs.1
        have hlen2 : args.length ≤ fn.ntmps := by rw [← hA]; simp; omega
        have hst : St fn.ntmps { w := w, S := S } (fun _ => none) S (initFr args).ff { tmps := vals.toArray ++ Array.replicate (fn.ntmps - vals.toArray.size) undef, defers := [] } w := by
          refine ⟨by simp; omega, rfl, fun r o e => by simp at e, Keep.refl w, fun _ _ q => q, fun _ _ q => .inl q, hS, fun t v e => ?_, fun s k e => by simp [initFr, Fr.ff, Fr.blk, look] at e, fun s k e => by simp [initFr, Fr.ff, Fr.blk, look] at e, fun s s' k k' e => by simp [initFr, Fr.ff, Fr.blk, look] at e⟩
          obtain ⟨p, rfl, _, h2⟩ := look_zipIdx args 0 t v e
          simp only [Nat.sub_zero] at h2
          have hlt : t < vals.length := by have := (List.getElem?_eq_some_iff.1 h2).1; omega
          refine ⟨vals[t], by simp [Array.getElem?_append, hlt], .p _ _ (hargs.2 t p _ h2 (by simp))⟩
        have hrun := h l
        rw [hA] at hrun
        refine awpY_ok hm sJ hround ay c h6 ho 0 _ (initFr args) (some 0) _ w _ hrun (show GSt fn.ntmps J E (initFr args) (some 0) _ w from ⟨{ w := w, S := S }, _, S, rfl, hst, h0⟩) fun e F' p' a' w' hk hst' => ?_
        obtain ⟨he, hp⟩ := hk
        obtain ⟨b, ι, S', hD, hst2, hpos⟩ := hst'
        have hres : ∃ v, (results fn a'.tmps).run P w' = .ok v w' := by
          obtain ⟨x, h7, _⟩ := results_ok (P := P) hst2 h4 (u := .p (.tup [])) (by simp [evRs, evRl, mkTup, allP])
          exact ⟨x, h7⟩
        have fin : LeavesInM Fence.wide 0 P fn a'.tmps (fun e w' => (∃ v, e = .returned v) ∧ ∃ S', S'.holds w' ∧ (J xs.length S' w' ∨ E S' w')) a'.defers .returning w' := by
          rw [hst2.df, hD]
          obtain ⟨v, hv⟩ := hres
          refine ⟨v, hv, ⟨v, rfl⟩, S', hst2.snap, ?_⟩
          rcases hp with rfl | rfl
          · exact .inr (sE _ _ S' w' hpos hst2.sle hst2.snap hst2.keep hst2.snew)
          · exact .inl (sJ _ _ _ S' w' hpos hst2.sle hst2.snap hst2.keep hst2.snew)
        cases e with
        | normal => exact fin
        | exit id => exact he.elim
        | ret => exact fin
      · simp at hf
    · simp at hf
  · simp at hf
end
end Go.Abs
namespace Go.Abs.A09
open Go Go.Abs Go.Proofs
set_option maxRecDepth 100000
set_option linter.unusedVariables false
def xc3z : AC := (.seq (.reg [⟨some 180, .mov (.v 7), none, []⟩,
    ⟨some 181, .mov (.v 180), none, [0]⟩,
    ⟨some 182, .load true 5 (.v 8), some (181, true), [1]⟩,
    ⟨some 183, .call 14 [.v 182], some (181, true), [2, 1, 1]⟩,
    ⟨some 184, .bin .eql (.v 183) (.c (.int .i64 0)), some (181, true), [3, 1]⟩,
    ⟨some 185, .pick (.v 181) (.v 184) (.c (.bool false)), none, [1, 4]⟩,
    ⟨some 6, .mov (.v 185), none, [5, 3, 0, 1, 2, 3, 4, 5]⟩])
  (.ghost (.keep [6]) .ret))
def xc3y : AC := (.seq (.draw [⟨⟨some 164, .load true 5 (.v 12), none, []⟩, [166], [], [], [], 2⟩,
    ⟨⟨some 165, .call 14 [.v 164], none, [0]⟩, [166], [], [165], [], 1⟩,
    ⟨⟨some 166, .load true 5 (.v 12), none, []⟩, [164, 165], [165], [], [0, 1], 0⟩,
    ⟨⟨some 167, .call 15 [.v 166], none, [2, 1]⟩, [], [], [167], [], 1⟩,
    ⟨⟨some 168, .bin .neq (.v 165) (.v 167), none, [1, 3]⟩, [], [], [], [], 2⟩,
    ⟨⟨some 169, .mov (.v 168), none, [4, 3]⟩, [], [], [], [], 2⟩,
    ⟨⟨some 170, .load true 5 (.v 12), some (169, false), [5]⟩, [171, 173, 174], [], [], [], 2⟩,
    ⟨⟨some 171, .mov (.v 14), some (169, false), [5]⟩, [170, 173, 174], [], [], [6], 2⟩,
    ⟨⟨some 172, .call 16 [.v 170, .v 171], some (169, false), [6, 7, 5, 5]⟩, [173, 174], [], [172], [], 1⟩,
    ⟨⟨some 173, .load true 5 (.v 12), some (169, false), [5]⟩, [170, 171, 172, 174], [172], [], [6, 7, 8], 0⟩,
    ⟨⟨some 174, .mov (.v 14), some (169, false), [5]⟩, [170, 171, 172, 173], [172], [], [6, 7, 8, 9], 2⟩,
    ⟨⟨some 175, .call 17 [.v 173, .v 174], some (169, false), [9, 10, 8, 5]⟩, [], [], [175], [], 1⟩,
    ⟨⟨some 176, .bin .neq (.v 172) (.v 175), some (169, false), [8, 11, 5]⟩, [], [], [], [], 2⟩,
    ⟨⟨some 177, .pick (.v 169) (.c (.bool true)) (.v 176), none, [5, 12]⟩, [], [], [], [], 2⟩])
  (.ghost (.keep [5, 7, 8, 12, 139, 140, 141, 158, 159, 160, 177]) (.cond (.v 177)
  (.seq (.reg [⟨some 6, .mov (.c (.bool false)), none, []⟩])
  (.ghost (.keep [6]) .ret))
  .skip)))
def xc3x : AC := (.seq (.reg [⟨some 161, .bin .lss (.v 160) (.v 159), none, []⟩])
  (.ghost (.keep [5, 7, 8, 12, 139, 140, 141, 158, 159, 160, 161]) (.seq (.cond (.v 161)
  .skip
  (.exit 3))
  (.ghost (.keep [5, 7, 8, 12, 139, 140, 141, 158, 159, 160]) (.seq (.block 4 (.seq (.reg [⟨some 162, .iaddr 1 (.v 158) (.v 160), none, []⟩,
    ⟨some 163, .load false 1 (.v 162), none, [0]⟩,
    ⟨some 14, .mov (.v 163), none, [1, 0, 1]⟩])
  (.ghost (.keep [5, 7, 8, 12, 14, 139, 140, 141, 158, 159, 160]) xc3y)))
  (.ghost (.keep [5, 7, 8, 12, 139, 140, 141, 158, 159, 160]) (.reg [⟨some 178, .bin .add (.v 160) (.c (.int .i64 1)), none, []⟩,
    ⟨some 160, .mov (.v 178), none, [0]⟩])))))))
def xc3w : AC := (.seq (.reg [⟨some 145, .iaddrA 1 3 (.v 5) (.c (.int .i64 2)), none, []⟩,
    ⟨some 146, .load false 1 (.v 145), none, [0]⟩,
    ⟨some 147, .faddr 1 (.v 12), none, []⟩,
    ⟨some 148, .load false 1 (.v 147), none, [2]⟩,
    ⟨some 149, .bin .sub (.v 148) (.c (.int .i64 1)), none, [3]⟩,
    ⟨some 150, .faddr 2 (.v 12), none, []⟩,
    ⟨some 151, .load false 1 (.v 150), none, [5]⟩,
    ⟨some 152, .iaddrA 1 3 (.v 5) (.c (.int .i64 2)), none, []⟩,
    ⟨some 153, .load false 1 (.v 152), none, [7]⟩,
    ⟨some 154, .bin .rem (.v 153) (.c (.int .i64 500)), none, [8]⟩,
    ⟨some 155, .bin .add (.v 151) (.v 154), none, [6, 9]⟩,
    ⟨some 156, .faddr 3 (.v 12), none, []⟩,
    ⟨some 157, .load false 1 (.v 156), none, [11]⟩,
    ⟨some 158, .bslice 3 1 4 [.int .i64 0, .int .i64 0, .int .i64 0, .int .i64 0] [(0, 1, .v 146), (1, 1, .v 149), (2, 1, .v 155), (3, 1, .v 157)], none, [1, 4, 10, 12]⟩,
    ⟨some 159, .len false (.v 158), none, [13]⟩,
    ⟨some 160, .mov (.c (.int .i64 0)), none, []⟩])
  (.ghost (.keep [5, 7, 8, 12, 139, 140, 141, 158, 159, 160]) (.block 3 (.loop (.ghost (.keep [5, 7, 8, 12, 139, 140, 141, 158, 159, 160]) xc3x)))))
def xc3v : AC := (.seq (.reg [⟨some 142, .bin .lss (.v 141) (.v 140), none, []⟩])
  (.ghost (.keep [5, 7, 8, 139, 140, 141, 142]) (.seq (.cond (.v 142)
  .skip
  (.exit 1))
  (.ghost (.keep [5, 7, 8, 139, 140, 141]) (.seq (.block 2 (.seq (.reg [⟨some 143, .iaddr 5 (.v 139) (.v 141), none, []⟩,
    ⟨some 144, .load true 5 (.v 143), none, [0]⟩,
    ⟨some 12, .alloc [.str ⟨#[]⟩, .int .i64 0, .int .i64 0, .int .i64 0, .nsl], none, []⟩,
    ⟨none, .store 5 (.v 12) (.v 144), none, [2, 1, 0, 1, 2]⟩])
  (.ghost (.keep [5, 7, 8, 12, 139, 140, 141]) xc3w)))
  (.ghost (.keep [5, 7, 8, 139, 140, 141]) (.reg [⟨some 179, .bin .add (.v 141) (.c (.int .i64 1)), none, []⟩,
    ⟨some 141, .mov (.v 179), none, [0]⟩])))))))
def xc3r : AC := (.seq (.seq (.reg [⟨some 136, .load true 5 (.v 3), none, []⟩,
    ⟨some 137, .load true 5 (.v 8), none, []⟩,
    ⟨some 138, .load true 5 (.v 9), none, []⟩,
    ⟨some 139, .bslice 24 5 3 [.str ⟨#[]⟩, .int .i64 0, .int .i64 0, .int .i64 0, .nsl, .str ⟨#[]⟩, .int .i64 0, .int .i64 0, .int .i64 0, .nsl, .str ⟨#[]⟩, .int .i64 0, .int .i64 0, .int .i64 0, .nsl] [(0, 5, .v 136), (5, 5, .v 137), (10, 5, .v 138)], none, [0, 1, 2]⟩,
    ⟨some 140, .len false (.v 139), none, [3]⟩,
    ⟨some 141, .mov (.c (.int .i64 0)), none, []⟩])
  (.ghost (.keep [5, 7, 8, 139, 140, 141]) (.block 1 (.loop (.ghost (.keep [5, 7, 8, 139, 140, 141]) xc3v)))))
  (.ghost (.keep [7, 8]) xc3z))
def xc3_8 : AC := (.cond (.v 121)
  (.seq (.reg [⟨some 123, .iaddrA 1 3 (.v 5) (.c (.int .i64 2)), none, []⟩,
    ⟨some 124, .load false 1 (.v 123), none, [0]⟩,
    ⟨some 125, .bin .rem (.v 124) (.c (.int .i64 2)), none, [1]⟩,
    ⟨some 126, .bin .add (.c (.int .i64 10000)) (.v 125), none, [2]⟩,
    ⟨some 127, .faddr 3 (.v 9), none, [0, 1, 2, 3]⟩,
    ⟨none, .store 1 (.v 127) (.v 126), none, [4, 3, 0, 1, 2, 3]⟩])
  (.ghost (.keep [3, 5, 7, 8, 9]) (.reg [⟨some 128, .faddr 4 (.v 9), none, []⟩,
    ⟨some 129, .load false 1 (.v 128), none, [0]⟩,
    ⟨some 130, .faddr 3 (.v 9), none, []⟩,
    ⟨some 131, .load false 1 (.v 130), none, [2]⟩,
    ⟨some 132, .build [.int .i64 0, .int .i64 0] [(0, 1, .v 131), (1, 1, .c (.int .i64 64))], none, [3]⟩,
    ⟨some 133, .bslice 30 2 1 [.int .i64 0, .int .i64 0] [(0, 2, .v 132)], none, [4]⟩,
    ⟨some 134, .app 30 2 16 (.v 129) (.v 133), none, [1, 5]⟩,
    ⟨some 135, .faddr 4 (.v 9), none, [0, 1, 2, 3, 4, 5, 6]⟩,
    ⟨none, .store 1 (.v 135) (.v 134), none, [7, 6, 6, 0, 1, 2, 3, 4, 5, 6]⟩])))
  .skip)
def xc3_7 : AC := (.cond (.v 106)
  (.seq (.reg [⟨some 108, .faddr 4 (.v 9), none, []⟩,
    ⟨some 109, .load false 1 (.v 108), none, [0]⟩,
    ⟨some 110, .faddr 3 (.v 9), none, []⟩,
    ⟨some 111, .load false 1 (.v 110), none, [2]⟩,
    ⟨some 112, .bin .add (.v 111) (.c (.int .i64 1)), none, [3]⟩,
    ⟨some 113, .build [.int .i64 0, .int .i64 0] [(0, 1, .v 112), (1, 1, .c (.int .i64 64))], none, [4]⟩,
    ⟨some 114, .bslice 30 2 1 [.int .i64 0, .int .i64 0] [(0, 2, .v 113)], none, [5]⟩,
    ⟨some 115, .app 30 2 16 (.v 109) (.v 114), none, [1, 6]⟩,
    ⟨some 116, .faddr 4 (.v 9), none, [0, 1, 2, 3, 4, 5, 6, 7]⟩,
    ⟨none, .store 1 (.v 116) (.v 115), none, [8, 7, 7, 0, 1, 2, 3, 4, 5, 6, 7]⟩])
  (.ghost (.keep [3, 5, 7, 8, 9]) (.reg [⟨some 117, .faddr 3 (.v 9), none, []⟩,
    ⟨some 118, .load false 1 (.v 117), none, [0]⟩,
    ⟨some 119, .bin .add (.v 118) (.c (.int .i64 1)), none, [1]⟩,
    ⟨some 120, .faddr 3 (.v 9), none, [0, 1, 2]⟩,
    ⟨none, .store 1 (.v 120) (.v 119), none, [3, 2, 0, 1, 2]⟩])))
  (.seq (.reg [⟨some 122, .bin .eql (.v 32) (.c (.int .i64 8)), none, []⟩,
    ⟨some 121, .mov (.v 122), none, [0]⟩])
  (.ghost (.keep [3, 5, 7, 8, 9, 121]) xc3_8)))
def xc3_6 : AC := (.cond (.v 99)
  (.reg [⟨some 101, .faddr 4 (.v 9), none, []⟩,
    ⟨some 102, .load false 1 (.v 101), none, [0]⟩,
    ⟨some 103, .mov (.v 10), none, []⟩,
    ⟨some 104, .slcV 2 (.v 102) none (some (.v 103)), none, [1, 2]⟩,
    ⟨some 105, .faddr 4 (.v 9), none, [0, 1, 2, 3]⟩,
    ⟨none, .store 1 (.v 105) (.v 104), none, [4, 3, 0, 1, 2, 3]⟩])
  (.seq (.reg [⟨some 107, .bin .eql (.v 32) (.c (.int .i64 7)), none, []⟩,
    ⟨some 106, .mov (.v 107), none, [0]⟩])
  (.ghost (.keep [3, 5, 7, 8, 9, 32, 106]) xc3_7)))
def xc3_5 : AC := (.cond (.v 82)
  (.draw [⟨⟨some 84, .faddr 4 (.v 9), none, []⟩, [86, 87, 88, 89, 90, 91, 92, 93, 94, 95, 96], [], [], [], 2⟩,
    ⟨⟨some 85, .load false 1 (.v 84), none, [0]⟩, [86, 87, 88, 89, 90, 91, 92, 93, 94, 95, 96], [], [], [], 2⟩,
    ⟨⟨some 86, .mov (.v 10), none, []⟩, [84, 85, 87, 88, 89, 90, 91, 92, 93, 94, 95, 96], [], [], [0, 1], 2⟩,
    ⟨⟨some 87, .faddr 4 (.v 9), none, []⟩, [84, 85, 86, 89, 93, 94, 95, 97], [], [], [0, 1, 2], 2⟩,
    ⟨⟨some 88, .load false 1 (.v 87), none, [3]⟩, [84, 85, 86, 89, 93, 94, 95, 97], [], [], [0, 1, 2], 2⟩,
    ⟨⟨some 89, .mov (.v 10), none, []⟩, [84, 85, 86, 87, 88, 93, 94, 95, 97], [], [], [0, 1, 2, 3, 4], 2⟩,
    ⟨⟨some 90, .iaddr 2 (.v 88) (.v 89), none, [4, 5]⟩, [84, 85, 86, 93, 94, 95, 97], [], [], [0, 1, 2], 2⟩,
    ⟨⟨some 91, .iaddrA 1 2 (.v 90) (.c (.int .i64 1)), none, [6]⟩, [84, 85, 86, 93, 94, 95, 97], [], [], [0, 1, 2], 2⟩,
    ⟨⟨some 92, .load false 1 (.v 91), none, [7]⟩, [84, 85, 86, 93, 94, 95, 97], [], [], [0, 1, 2], 2⟩,
    ⟨⟨some 93, .iaddrA 1 3 (.v 5) (.c (.int .i64 2)), none, []⟩, [84, 85, 86, 87, 88, 89, 90, 91, 92, 97], [], [], [0, 1, 2, 3, 4, 5, 6, 7, 8], 2⟩,
    ⟨⟨some 94, .load false 1 (.v 93), none, [9]⟩, [84, 85, 86, 87, 88, 89, 90, 91, 92, 97], [], [], [0, 1, 2, 3, 4, 5, 6, 7, 8], 2⟩,
    ⟨⟨some 95, .bin .rem (.v 94) (.c (.int .i64 70)), none, [10]⟩, [84, 85, 86, 87, 88, 89, 90, 91, 92, 97], [], [], [0, 1, 2, 3, 4, 5, 6, 7, 8], 2⟩,
    ⟨⟨some 96, .bin .add (.v 92) (.v 95), none, [8, 11]⟩, [84, 85, 86, 97], [], [], [0, 1, 2], 2⟩,
    ⟨⟨some 97, .iaddr 2 (.v 85) (.v 86), none, [1, 2]⟩, [87, 88, 89, 90, 91, 92, 93, 94, 95, 96], [], [], [3, 4, 5, 6, 7, 8, 9, 10, 11, 12], 2⟩,
    ⟨⟨some 98, .iaddrA 1 2 (.v 97) (.c (.int .i64 1)), none, [13, 0, 1, 2, 3, 4, 5, 6, 7, 8, 9, 10, 11, 12]⟩, [], [], [], [], 2⟩,
    ⟨⟨none, .store 1 (.v 98) (.v 96), none, [14, 12, 0, 1, 2, 3, 4, 5, 6, 7, 8, 9, 10, 11, 12]⟩, [], [], [15, 17, 19, 21, 114, 115, 133, 134, 139, 158, 165, 167, 172, 175, 183], [], 1⟩])
  (.seq (.reg [⟨some 100, .bin .eql (.v 32) (.c (.int .i64 6)), none, []⟩,
    ⟨some 99, .mov (.v 100), none, [0]⟩])
  (.ghost (.keep [3, 5, 7, 8, 9, 10, 32, 99]) xc3_6)))
def xc3_4 : AC := (.cond (.v 65)
  (.draw [⟨⟨some 67, .faddr 4 (.v 9), none, []⟩, [69, 70, 71, 72, 73, 74, 75, 76, 77, 78, 79], [], [], [], 2⟩,
    ⟨⟨some 68, .load false 1 (.v 67), none, [0]⟩, [69, 70, 71, 72, 73, 74, 75, 76, 77, 78, 79], [], [], [], 2⟩,
    ⟨⟨some 69, .mov (.v 10), none, []⟩, [67, 68, 70, 71, 72, 73, 74, 75, 76, 77, 78, 79], [], [], [0, 1], 2⟩,
    ⟨⟨some 70, .faddr 4 (.v 9), none, []⟩, [67, 68, 69, 72, 76, 77, 78, 80], [], [], [0, 1, 2], 2⟩,
    ⟨⟨some 71, .load false 1 (.v 70), none, [3]⟩, [67, 68, 69, 72, 76, 77, 78, 80], [], [], [0, 1, 2], 2⟩,
    ⟨⟨some 72, .mov (.v 10), none, []⟩, [67, 68, 69, 70, 71, 76, 77, 78, 80], [], [], [0, 1, 2, 3, 4], 2⟩,
    ⟨⟨some 73, .iaddr 2 (.v 71) (.v 72), none, [4, 5]⟩, [67, 68, 69, 76, 77, 78, 80], [], [], [0, 1, 2], 2⟩,
    ⟨⟨some 74, .iaddrA 1 2 (.v 73) (.c (.int .i64 0)), none, [6]⟩, [67, 68, 69, 76, 77, 78, 80], [], [], [0, 1, 2], 2⟩,
    ⟨⟨some 75, .load false 1 (.v 74), none, [7]⟩, [67, 68, 69, 76, 77, 78, 80], [], [], [0, 1, 2], 2⟩,
    ⟨⟨some 76, .iaddrA 1 3 (.v 5) (.c (.int .i64 2)), none, []⟩, [67, 68, 69, 70, 71, 72, 73, 74, 75, 80], [], [], [0, 1, 2, 3, 4, 5, 6, 7, 8], 2⟩,
    ⟨⟨some 77, .load false 1 (.v 76), none, [9]⟩, [67, 68, 69, 70, 71, 72, 73, 74, 75, 80], [], [], [0, 1, 2, 3, 4, 5, 6, 7, 8], 2⟩,
    ⟨⟨some 78, .bin .rem (.v 77) (.c (.int .i64 3)), none, [10]⟩, [67, 68, 69, 70, 71, 72, 73, 74, 75, 80], [], [], [0, 1, 2, 3, 4, 5, 6, 7, 8], 2⟩,
    ⟨⟨some 79, .bin .add (.v 75) (.v 78), none, [8, 11]⟩, [67, 68, 69, 80], [], [], [0, 1, 2], 2⟩,
    ⟨⟨some 80, .iaddr 2 (.v 68) (.v 69), none, [1, 2]⟩, [70, 71, 72, 73, 74, 75, 76, 77, 78, 79], [], [], [3, 4, 5, 6, 7, 8, 9, 10, 11, 12], 2⟩,
    ⟨⟨some 81, .iaddrA 1 2 (.v 80) (.c (.int .i64 0)), none, [13, 0, 1, 2, 3, 4, 5, 6, 7, 8, 9, 10, 11, 12]⟩, [], [], [], [], 2⟩,
    ⟨⟨none, .store 1 (.v 81) (.v 79), none, [14, 12, 0, 1, 2, 3, 4, 5, 6, 7, 8, 9, 10, 11, 12]⟩, [], [], [15, 17, 19, 21, 114, 115, 133, 134, 139, 158, 165, 167, 172, 175, 183], [], 1⟩])
  (.seq (.reg [⟨some 83, .bin .eql (.v 32) (.c (.int .i64 5)), none, []⟩,
    ⟨some 82, .mov (.v 83), none, [0]⟩])
  (.ghost (.keep [3, 5, 7, 8, 9, 10, 32, 82]) xc3_5)))
def xc3_3 : AC := (.cond (.v 56)
  (.reg [⟨some 58, .faddr 3 (.v 9), none, []⟩,
    ⟨some 59, .load false 1 (.v 58), none, [0]⟩,
    ⟨some 60, .iaddrA 1 3 (.v 5) (.c (.int .i64 2)), none, []⟩,
    ⟨some 61, .load false 1 (.v 60), none, [2]⟩,
    ⟨some 62, .bin .rem (.v 61) (.c (.int .i64 3)), none, [3]⟩,
    ⟨some 63, .bin .add (.v 59) (.v 62), none, [1, 4]⟩,
    ⟨some 64, .faddr 3 (.v 9), none, [0, 1, 2, 3, 4, 5]⟩,
    ⟨none, .store 1 (.v 64) (.v 63), none, [6, 5, 0, 1, 2, 3, 4, 5]⟩])
  (.seq (.reg [⟨some 66, .bin .eql (.v 32) (.c (.int .i64 4)), none, []⟩,
    ⟨some 65, .mov (.v 66), none, [0]⟩])
  (.ghost (.keep [3, 5, 7, 8, 9, 10, 32, 65]) xc3_4)))
def xc3_2 : AC := (.cond (.v 47)
  (.reg [⟨some 49, .faddr 2 (.v 9), none, []⟩,
    ⟨some 50, .load false 1 (.v 49), none, [0]⟩,
    ⟨some 51, .iaddrA 1 3 (.v 5) (.c (.int .i64 2)), none, []⟩,
    ⟨some 52, .load false 1 (.v 51), none, [2]⟩,
    ⟨some 53, .bin .rem (.v 52) (.c (.int .i64 300)), none, [3]⟩,
    ⟨some 54, .bin .add (.v 50) (.v 53), none, [1, 4]⟩,
    ⟨some 55, .faddr 2 (.v 9), none, [0, 1, 2, 3, 4, 5]⟩,
    ⟨none, .store 1 (.v 55) (.v 54), none, [6, 5, 0, 1, 2, 3, 4, 5]⟩])
  (.seq (.reg [⟨some 57, .bin .eql (.v 32) (.c (.int .i64 3)), none, []⟩,
    ⟨some 56, .mov (.v 57), none, [0]⟩])
  (.ghost (.keep [3, 5, 7, 8, 9, 10, 32, 56]) xc3_3)))
def xc3_1 : AC := (.cond (.v 38)
  (.reg [⟨some 40, .faddr 1 (.v 9), none, []⟩,
    ⟨some 41, .load false 1 (.v 40), none, [0]⟩,
    ⟨some 42, .iaddrA 1 3 (.v 5) (.c (.int .i64 2)), none, []⟩,
    ⟨some 43, .load false 1 (.v 42), none, [2]⟩,
    ⟨some 44, .bin .rem (.v 43) (.c (.int .i64 3)), none, [3]⟩,
    ⟨some 45, .bin .add (.v 41) (.v 44), none, [1, 4]⟩,
    ⟨some 46, .faddr 1 (.v 9), none, [0, 1, 2, 3, 4, 5]⟩,
    ⟨none, .store 1 (.v 46) (.v 45), none, [6, 5, 0, 1, 2, 3, 4, 5]⟩])
  (.seq (.reg [⟨some 48, .bin .eql (.v 32) (.c (.int .i64 2)), none, []⟩,
    ⟨some 47, .mov (.v 48), none, [0]⟩])
  (.ghost (.keep [3, 5, 7, 8, 9, 10, 32, 47]) xc3_2)))
def xc3_0 : AC := (.cond (.v 33)
  (.reg [⟨some 35, .faddr 0 (.v 3), none, []⟩,
    ⟨some 36, .load false 1 (.v 35), none, [0]⟩,
    ⟨some 37, .faddr 0 (.v 9), none, [0, 1]⟩,
    ⟨none, .store 1 (.v 37) (.v 36), none, [2, 1, 0, 1]⟩])
  (.seq (.reg [⟨some 39, .bin .eql (.v 32) (.c (.int .i64 1)), none, []⟩,
    ⟨some 38, .mov (.v 39), none, [0]⟩])
  (.ghost (.keep [3, 5, 7, 8, 9, 10, 32, 38]) xc3_1)))
def xc3q : AC := (.seq (.seq (.reg [⟨some 29, .iaddrA 1 3 (.v 5) (.c (.int .i64 0)), none, []⟩,
    ⟨some 30, .load false 1 (.v 29), none, [0]⟩,
    ⟨some 31, .bin .and (.v 30) (.c (.int .i64 65535)), none, [1]⟩,
    ⟨some 32, .bin .rem (.v 31) (.c (.int .i64 9)), none, [2]⟩])
  (.ghost (.keep [3, 5, 7, 8, 9, 10, 32]) (.block 0 (.seq (.reg [⟨some 34, .bin .eql (.v 32) (.c (.int .i64 0)), none, []⟩,
    ⟨some 33, .mov (.v 34), none, [0]⟩])
  (.ghost (.keep [3, 5, 7, 8, 9, 10, 32, 33]) xc3_0)))))
  (.ghost (.freeze (21, 1)) (.ghost (.freeze (21, 0)) (.ghost (.keep [3, 5, 7, 8, 9]) xc3r))))
def xc3 : AC := (.ghost (.keep [0, 1, 2])
  (.seq (.reg [⟨some 3, .box (.v 0), none, []⟩,
    ⟨some 5, .box (.v 2), none, []⟩,
    ⟨some 6, .mov (.c (.bool false)), none, []⟩])
  (.ghost (.keep [1, 3, 5]) (.seq (.reg [⟨some 15, .call 11 [], none, []⟩,
    ⟨some 7, .mov (.v 15), none, [0, 0, 0]⟩])
  (.ghost (.keep [1, 3, 5, 7]) (.seq (.reg [⟨some 16, .load true 5 (.v 3), none, []⟩,
    ⟨some 17, .call 12 [.v 16], none, [0]⟩,
    ⟨none, .store 5 (.v 3) (.v 17), none, [1, 1, 0, 1]⟩])
  (.ghost (.keep [1, 3, 5, 7]) (.seq (.reg [⟨some 18, .mov (.v 1), none, []⟩,
    ⟨some 19, .call 13 [.v 18, .c (.str ⟨#[97, 98, 49]⟩)], none, [0]⟩,
    ⟨some 8, .alloc [.str ⟨#[]⟩, .int .i64 0, .int .i64 0, .int .i64 0, .nsl], none, []⟩,
    ⟨none, .store 5 (.v 8) (.v 19), none, [2, 1, 1, 0, 1, 2]⟩])
  (.ghost (.freeze (19, 0)) (.ghost (.keep [1, 3, 5, 7, 8]) (.seq (.reg [⟨some 20, .mov (.v 1), none, []⟩,
    ⟨some 21, .call 13 [.v 20, .c (.str ⟨#[97, 98, 49]⟩)], none, [0]⟩,
    ⟨some 9, .alloc [.str ⟨#[]⟩, .int .i64 0, .int .i64 0, .int .i64 0, .nsl], none, []⟩,
    ⟨none, .store 5 (.v 9) (.v 21), none, [2, 1, 1, 0, 1, 2]⟩])
  (.ghost (.keep [3, 5, 7, 8, 9]) (.seq (.reg [⟨some 22, .iaddrA 1 3 (.v 5) (.c (.int .i64 1)), none, []⟩,
    ⟨some 23, .load false 1 (.v 22), none, [0]⟩,
    ⟨some 24, .bin .and (.v 23) (.c (.int .i64 65535)), none, [1]⟩,
    ⟨some 25, .faddr 4 (.v 9), none, []⟩,
    ⟨some 26, .load false 1 (.v 25), none, [3]⟩,
    ⟨some 27, .len false (.v 26), none, [4]⟩,
    ⟨some 28, .bin .rem (.v 24) (.v 27), none, [2, 5]⟩,
    ⟨some 10, .mov (.v 28), none, [6, 0, 1, 2, 3, 4, 5, 6]⟩])
  (.ghost (.keep [3, 5, 7, 8, 9, 10]) xc3q))))))))))))))
theorem xn3 : factOf Tryd.prog 3 = some (xc3.strip, [.tmp 6], 186) := by kernel_rfl
theorem xk3 : xc3.okAll = true := by kernel_rfl
end Go.Abs.A09
namespace Go.Abs.A09
open Go Go.Abs Go.Proofs
set_option maxRecDepth 100000
set_option linter.unusedVariables false
def xd13g : AC := (.seq (.reg [⟨some 97, .load true 5 (.v 6), none, []⟩,
    ⟨none, .store 5 (.v 4) (.v 97), none, [0, 0]⟩])
  (.ghost (.keep [4]) .ret))
def xd13f : AC := (.seq (.seq (.reg [⟨some 65, .mov (.v 12), none, []⟩,
    ⟨some 66, .mov (.v 8), none, []⟩,
    ⟨some 67, .bin .lss (.v 65) (.v 66), none, [0, 1]⟩])
  (.ghost (.keep [0, 4, 6, 8, 10, 12, 67]) (.cond (.v 67)
  .skip
  (.exit 2))))
  (.ghost (.keep [0, 4, 6, 8, 10, 12]) (.seq (.block 3 (.seq (.draw [⟨⟨some 70, .faddr 3 (.v 6), none, []⟩, [73, 74, 75, 76, 77], [76], [], [], 2⟩,
    ⟨⟨some 71, .load false 1 (.v 70), none, [0]⟩, [73, 74, 75, 76, 77], [76], [], [], 0⟩,
    ⟨⟨some 72, .bin .add (.v 71) (.c (.int .i64 1)), none, [1]⟩, [73, 74, 75, 76, 77], [76], [], [], 2⟩,
    ⟨⟨some 73, .mov (.v 0), none, []⟩, [70, 71, 72, 74, 75], [], [], [0, 1, 2], 2⟩,
    ⟨⟨some 74, .mov (.v 12), none, []⟩, [70, 71, 72, 73], [], [], [0, 1, 2, 3], 2⟩,
    ⟨⟨some 75, .bin .add (.c (.int .i64 7)) (.v 74), none, [4]⟩, [70, 71, 72, 73], [], [], [0, 1, 2, 3], 2⟩,
    ⟨⟨some 76, .call 43 [.v 73, .v 75], none, [3, 5]⟩, [70, 71, 72], [], [76], [0, 1, 2], 1⟩,
    ⟨⟨some 77, .bin .rem (.v 76) (.c (.int .i64 200)), none, [6]⟩, [70, 71, 72], [], [], [0, 1, 2], 2⟩,
    ⟨⟨some 78, .bin .add (.v 72) (.v 77), none, [2, 7]⟩, [], [], [], [], 2⟩,
    ⟨⟨some 79, .faddr 3 (.v 6), none, [0, 1, 2, 3, 4, 5, 6, 7, 8]⟩, [], [], [], [], 2⟩,
    ⟨⟨none, .store 1 (.v 79) (.v 78), none, [9, 8, 6, 0, 1, 2, 3, 4, 5, 6, 7, 8]⟩, [], [], [6], [], 1⟩])
  (.ghost (.keep [0, 4, 6, 8, 10, 12]) (.seq (.reg [⟨some 80, .mov (.v 10), none, []⟩,
    ⟨some 81, .mov (.v 0), none, []⟩,
    ⟨some 82, .mov (.v 12), none, []⟩,
    ⟨some 83, .bin .add (.c (.int .i64 9)) (.v 82), none, [2]⟩,
    ⟨some 84, .call 43 [.v 81, .v 83], none, [1, 3]⟩,
    ⟨some 85, .bin .rem (.v 84) (.c (.int .i64 65)), none, [4]⟩,
    ⟨some 86, .bin .add (.v 80) (.v 85), none, [0, 5]⟩,
    ⟨some 87, .mm false (.c (.int .i64 64)) (.v 86), none, [6]⟩,
    ⟨some 10, .mov (.v 87), none, [7, 4, 0, 1, 2, 3, 4, 5, 6, 7]⟩])
  (.ghost (.keep [0, 4, 6, 8, 10, 12]) (.reg [⟨some 88, .faddr 4 (.v 6), none, []⟩,
    ⟨some 89, .load false 1 (.v 88), none, [0]⟩,
    ⟨some 90, .faddr 3 (.v 6), none, []⟩,
    ⟨some 91, .load false 1 (.v 90), none, [2]⟩,
    ⟨some 92, .mov (.v 10), none, []⟩,
    ⟨some 93, .build [.int .i64 0, .int .i64 0] [(0, 1, .v 91), (1, 1, .v 92)], none, [3, 4]⟩,
    ⟨some 94, .bslice 30 2 1 [.int .i64 0, .int .i64 0] [(0, 2, .v 93)], none, [5]⟩,
    ⟨some 95, .app 30 2 16 (.v 89) (.v 94), none, [1, 6]⟩,
    ⟨some 96, .faddr 4 (.v 6), none, [0, 1, 2, 3, 4, 5, 6, 7]⟩,
    ⟨none, .store 1 (.v 96) (.v 95), none, [8, 7, 7, 0, 1, 2, 3, 4, 5, 6, 7]⟩]))))))
  (.ghost (.keep [0, 4, 6, 8, 10, 12]) (.ghost (.ren (9, 2) (9, 1)) (.reg [⟨some 68, .mov (.v 12), none, []⟩,
    ⟨some 69, .bin .add (.v 68) (.c (.int .i64 1)), none, [0]⟩,
    ⟨some 12, .mov (.v 69), none, [1, 0, 1]⟩]))))))
def xd13e : AC := (.seq (.reg [⟨some 10, .mov (.c (.int .i64 0)), none, []⟩])
  (.ghost (.keep [0, 4, 6, 8, 10]) (.seq (.seq (.reg [⟨some 12, .mov (.c (.int .i64 0)), none, []⟩])
  (.ghost (.keep [0, 4, 6, 8, 10, 12]) (.block 2 (.loop (.ghost (.keep [0, 4, 6, 8, 10, 12]) xd13f)))))
  (.ghost (.keep [4, 6]) xd13g))))
def xd13d : AC := (.seq (.reg [⟨some 59, .mov (.v 9), none, []⟩,
    ⟨some 60, .mov (.v 5), none, []⟩,
    ⟨some 61, .build [.int .i64 0, .int .i64 0] [(0, 1, .v 60), (1, 1, .c (.int .i64 0))], none, [1]⟩,
    ⟨some 62, .bslice 30 2 1 [.int .i64 0, .int .i64 0] [(0, 2, .v 61)], none, [2]⟩,
    ⟨some 63, .app 30 2 16 (.v 59) (.v 62), none, [0, 3]⟩,
    ⟨some 64, .faddr 4 (.v 6), none, [0, 1, 2, 3, 4]⟩,
    ⟨none, .store 1 (.v 64) (.v 63), none, [5, 4, 4, 0, 1, 2, 3, 4]⟩])
  (.ghost (.keep [0, 4, 6, 8]) xd13e))
def xd13c : AC := (.seq (.seq (.reg [⟨some 29, .mov (.v 11), none, []⟩,
    ⟨some 30, .mov (.v 7), none, []⟩,
    ⟨some 31, .bin .lss (.v 29) (.v 30), none, [0, 1]⟩])
  (.ghost (.keep [0, 4, 5, 6, 7, 8, 9, 10, 11, 31]) (.cond (.v 31)
  .skip
  (.exit 0))))
  (.ghost (.keep [0, 4, 5, 6, 7, 8, 9, 10, 11]) (.seq (.block 1 (.seq (.draw [⟨⟨some 34, .faddr 1 (.v 6), none, []⟩, [37, 38, 39, 40, 41], [40], [], [], 2⟩,
    ⟨⟨some 35, .load false 1 (.v 34), none, [0]⟩, [37, 38, 39, 40, 41], [40], [], [], 0⟩,
    ⟨⟨some 36, .bin .sub (.v 35) (.c (.int .i64 1)), none, [1]⟩, [37, 38, 39, 40, 41], [40], [], [], 2⟩,
    ⟨⟨some 37, .mov (.v 0), none, []⟩, [34, 35, 36, 38, 39], [], [], [0, 1, 2], 2⟩,
    ⟨⟨some 38, .mov (.v 11), none, []⟩, [34, 35, 36, 37], [], [], [0, 1, 2, 3], 2⟩,
    ⟨⟨some 39, .bin .add (.c (.int .i64 3)) (.v 38), none, [4]⟩, [34, 35, 36, 37], [], [], [0, 1, 2, 3], 2⟩,
    ⟨⟨some 40, .call 43 [.v 37, .v 39], none, [3, 5]⟩, [34, 35, 36], [], [40], [0, 1, 2], 1⟩,
    ⟨⟨some 41, .bin .rem (.v 40) (.c (.int .i64 200)), none, [6]⟩, [34, 35, 36], [], [], [0, 1, 2], 2⟩,
    ⟨⟨some 42, .bin .sub (.v 36) (.v 41), none, [2, 7]⟩, [], [], [], [], 2⟩,
    ⟨⟨some 43, .faddr 1 (.v 6), none, [0, 1, 2, 3, 4, 5, 6, 7, 8]⟩, [], [], [], [], 2⟩,
    ⟨⟨none, .store 1 (.v 43) (.v 42), none, [9, 8, 6, 0, 1, 2, 3, 4, 5, 6, 7, 8]⟩, [], [], [6], [], 1⟩])
  (.ghost (.keep [0, 4, 5, 6, 7, 8, 9, 10, 11]) (.seq (.reg [⟨some 44, .mov (.v 10), none, []⟩,
    ⟨some 45, .mov (.v 0), none, []⟩,
    ⟨some 46, .mov (.v 11), none, []⟩,
    ⟨some 47, .bin .add (.c (.int .i64 5)) (.v 46), none, [2]⟩,
    ⟨some 48, .call 43 [.v 45, .v 47], none, [1, 3]⟩,
    ⟨some 49, .bin .rem (.v 48) (.c (.int .i64 65)), none, [4]⟩,
    ⟨some 50, .bin .sub (.v 44) (.v 49), none, [0, 5]⟩,
    ⟨some 51, .mm true (.c (.int .i64 (-64))) (.v 50), none, [6]⟩,
    ⟨some 10, .mov (.v 51), none, [7, 4, 0, 1, 2, 3, 4, 5, 6, 7]⟩])
  (.ghost (.keep [0, 4, 5, 6, 7, 8, 9, 10, 11]) (.reg [⟨some 52, .faddr 1 (.v 6), none, []⟩,
    ⟨some 53, .load false 1 (.v 52), none, [0]⟩,
    ⟨some 54, .mov (.v 10), none, []⟩,
    ⟨some 55, .build [.int .i64 0, .int .i64 0] [(0, 1, .v 53), (1, 1, .v 54)], none, [1, 2]⟩,
    ⟨some 56, .bslice 30 2 1 [.int .i64 0, .int .i64 0] [(0, 2, .v 55)], none, [3]⟩,
    ⟨some 57, .mov (.v 9), none, []⟩,
    ⟨some 58, .app 30 2 16 (.v 56) (.v 57), none, [4, 5]⟩,
    ⟨some 9, .mov (.v 58), none, [6, 6, 0, 1, 2, 3, 4, 5, 6]⟩]))))))
  (.ghost (.keep [0, 4, 5, 6, 7, 8, 9, 10, 11]) (.ghost (.ren (56, 1) (9, 0)) (.reg [⟨some 32, .mov (.v 11), none, []⟩,
    ⟨some 33, .bin .add (.v 32) (.c (.int .i64 1)), none, [0]⟩,
    ⟨some 11, .mov (.v 33), none, [1, 0, 1]⟩]))))))
def xd13b : AC := (.seq (.reg [⟨some 10, .mov (.c (.int .i64 0)), none, []⟩])
  (.ghost (.keep [0, 4, 5, 6, 7, 8, 9, 10]) (.seq (.seq (.reg [⟨some 11, .mov (.c (.int .i64 0)), none, []⟩])
  (.ghost (.keep [0, 4, 5, 6, 7, 8, 9, 10, 11]) (.block 0 (.loop (.ghost (.keep [0, 4, 5, 6, 7, 8, 9, 10, 11]) xd13c)))))
  (.ghost (.keep [0, 4, 5, 6, 8, 9]) xd13d))))
def xd13 : AC := (.ghost (.keep [0, 1])
  (.seq (.reg [⟨some 4, .alloc [.str ⟨#[]⟩, .int .i64 0, .int .i64 0, .int .i64 0, .nsl], none, []⟩])
  (.ghost (.keep [0, 1, 4]) (.seq (.reg [⟨some 13, .mov (.v 0), none, []⟩,
    ⟨some 14, .call 43 [.v 13, .c (.int .i64 0)], none, [0]⟩,
    ⟨some 15, .bin .rem (.v 14) (.c (.int .i64 41)), none, [1]⟩,
    ⟨some 16, .bin .mul (.v 15) (.c (.int .i64 25)), none, [2]⟩,
    ⟨some 17, .bin .sub (.v 16) (.c (.int .i64 500)), none, [3]⟩,
    ⟨some 5, .mov (.v 17), none, [4, 1, 0, 1, 2, 3, 4]⟩])
  (.ghost (.keep [0, 1, 4, 5]) (.seq (.reg [⟨some 18, .mov (.v 1), none, []⟩,
    ⟨some 19, .mov (.v 5), none, []⟩,
    ⟨some 20, .mov (.v 5), none, []⟩,
    ⟨some 21, .mov (.v 5), none, []⟩,
    ⟨some 22, .build [.str ⟨#[]⟩, .int .i64 0, .int .i64 0, .int .i64 0, .nsl] [(0, 1, .v 18), (1, 1, .v 19), (2, 1, .v 20), (3, 1, .v 21)], none, [0, 1, 2, 3]⟩,
    ⟨some 6, .alloc [.str ⟨#[]⟩, .int .i64 0, .int .i64 0, .int .i64 0, .nsl], none, []⟩,
    ⟨none, .store 5 (.v 6) (.v 22), none, [5, 4, 0, 1, 2, 3, 4, 5]⟩])
  (.ghost (.keep [0, 4, 5, 6]) (.seq (.reg [⟨some 23, .mov (.v 0), none, []⟩,
    ⟨some 24, .call 43 [.v 23, .c (.int .i64 1)], none, [0]⟩,
    ⟨some 25, .bin .rem (.v 24) (.c (.int .i64 3)), none, [1]⟩,
    ⟨some 7, .mov (.v 25), none, [2, 1, 0, 1, 2]⟩])
  (.ghost (.keep [0, 4, 5, 6, 7]) (.seq (.reg [⟨some 26, .mov (.v 0), none, []⟩,
    ⟨some 27, .call 43 [.v 26, .c (.int .i64 2)], none, [0]⟩,
    ⟨some 28, .bin .rem (.v 27) (.c (.int .i64 3)), none, [1]⟩,
    ⟨some 8, .mov (.v 28), none, [2, 1, 0, 1, 2]⟩])
  (.ghost (.keep [0, 4, 5, 6, 7, 8]) (.seq (.reg [⟨some 9, .mov (.c .nsl), none, []⟩])
  (.ghost (.own 9 9 30 2) (.ghost (.keep [0, 4, 5, 6, 7, 8, 9]) xd13b))))))))))))))
theorem xm13 : factOf Tryd.prog 13 = some (xd13.strip, [.cell 4 true 5], 98) := by kernel_rfl
theorem xj13 : xd13.okAll = true := by kernel_rfl
end Go.Abs.A09
namespace Go.Abs.A09
open Go Go.Abs Go.Proofs
set_option maxRecDepth 100000
set_option linter.unusedVariables false
def xc13g : AC := (.seq (.reg [⟨some 97, .load true 5 (.v 6), none, []⟩,
    ⟨none, .store 5 (.v 4) (.v 97), none, [0, 0]⟩])
  (.ghost (.keep [4]) .ret))
def xc13f : AC := (.seq (.seq (.reg [⟨some 65, .mov (.v 12), none, []⟩,
    ⟨some 66, .mov (.v 8), none, []⟩,
    ⟨some 67, .bin .lss (.v 65) (.v 66), none, [0, 1]⟩])
  (.ghost (.keep [0, 4, 6, 8, 10, 12, 67]) (.cond (.v 67)
  .skip
  (.exit 2))))
  (.ghost (.keep [0, 4, 6, 8, 10, 12]) (.seq (.block 3 (.seq (.draw [⟨⟨some 70, .faddr 3 (.v 6), none, []⟩, [73, 74, 75, 76, 77], [76], [], [], 2⟩,
    ⟨⟨some 71, .load false 1 (.v 70), none, [0]⟩, [73, 74, 75, 76, 77], [76], [], [], 0⟩,
    ⟨⟨some 72, .bin .add (.v 71) (.c (.int .i64 1)), none, [1]⟩, [73, 74, 75, 76, 77], [76], [], [], 2⟩,
    ⟨⟨some 73, .mov (.v 0), none, []⟩, [70, 71, 72, 74, 75], [], [], [0, 1, 2], 2⟩,
    ⟨⟨some 74, .mov (.v 12), none, []⟩, [70, 71, 72, 73], [], [], [0, 1, 2, 3], 2⟩,
    ⟨⟨some 75, .bin .add (.c (.int .i64 7)) (.v 74), none, [4]⟩, [70, 71, 72, 73], [], [], [0, 1, 2, 3], 2⟩,
    ⟨⟨some 76, .call 43 [.v 73, .v 75], none, [3, 5]⟩, [70, 71, 72], [], [76], [0, 1, 2], 1⟩,
    ⟨⟨some 77, .bin .rem (.v 76) (.c (.int .i64 200)), none, [6]⟩, [70, 71, 72], [], [], [0, 1, 2], 2⟩,
    ⟨⟨some 78, .bin .add (.v 72) (.v 77), none, [2, 7]⟩, [], [], [], [], 2⟩,
    ⟨⟨some 79, .faddr 3 (.v 6), none, [0, 1, 2, 3, 4, 5, 6, 7, 8]⟩, [], [], [], [], 2⟩,
    ⟨⟨none, .store 1 (.v 79) (.v 78), none, [9, 8, 6, 0, 1, 2, 3, 4, 5, 6, 7, 8]⟩, [], [], [6], [], 1⟩])
  (.ghost (.keep [0, 4, 6, 8, 10, 12]) (.seq (.reg [⟨some 80, .mov (.v 10), none, []⟩,
    ⟨some 81, .mov (.v 0), none, []⟩,
    ⟨some 82, .mov (.v 12), none, []⟩,
    ⟨some 83, .bin .add (.c (.int .i64 9)) (.v 82), none, [2]⟩,
    ⟨some 84, .call 43 [.v 81, .v 83], none, [1, 3]⟩,
    ⟨some 85, .bin .rem (.v 84) (.c (.int .i64 65)), none, [4]⟩,
    ⟨some 86, .bin .add (.v 80) (.v 85), none, [0, 5]⟩,
    ⟨some 87, .mm false (.c (.int .i64 64)) (.v 86), none, [6]⟩,
    ⟨some 10, .mov (.v 87), none, [7, 4, 0, 1, 2, 3, 4, 5, 6, 7]⟩])
  (.ghost (.keep [0, 4, 6, 8, 10, 12]) (.reg [⟨some 88, .faddr 4 (.v 6), none, []⟩,
    ⟨some 89, .load false 1 (.v 88), none, [0]⟩,
    ⟨some 90, .faddr 3 (.v 6), none, []⟩,
    ⟨some 91, .load false 1 (.v 90), none, [2]⟩,
    ⟨some 92, .mov (.v 10), none, []⟩,
    ⟨some 93, .build [.int .i64 0, .int .i64 0] [(0, 1, .v 91), (1, 1, .v 92)], none, [3, 4]⟩,
    ⟨some 94, .bslice 30 2 1 [.int .i64 0, .int .i64 0] [(0, 2, .v 93)], none, [5]⟩,
    ⟨some 95, .app 30 2 16 (.v 89) (.v 94), none, [1, 6]⟩,
    ⟨some 96, .faddr 4 (.v 6), none, [0, 1, 2, 3, 4, 5, 6, 7]⟩,
    ⟨none, .store 1 (.v 96) (.v 95), none, [8, 7, 7, 0, 1, 2, 3, 4, 5, 6, 7]⟩]))))))
  (.ghost (.keep [0, 4, 6, 8, 10, 12]) (.ghost (.ren (9, 2) (9, 1)) (.reg [⟨some 68, .mov (.v 12), none, []⟩,
    ⟨some 69, .bin .add (.v 68) (.c (.int .i64 1)), none, [0]⟩,
    ⟨some 12, .mov (.v 69), none, [1, 0, 1]⟩]))))))
def xc13e : AC := (.seq (.reg [⟨some 10, .mov (.c (.int .i64 0)), none, []⟩])
  (.ghost (.keep [0, 4, 6, 8, 10]) (.seq (.seq (.reg [⟨some 12, .mov (.c (.int .i64 0)), none, []⟩])
  (.ghost (.keep [0, 4, 6, 8, 10, 12]) (.block 2 (.loop (.ghost (.keep [0, 4, 6, 8, 10, 12]) xc13f)))))
  (.ghost (.freeze (9, 1)) (.ghost (.keep [4, 6]) xc13g)))))
def xc13d : AC := (.seq (.reg [⟨some 59, .mov (.v 9), none, []⟩,
    ⟨some 60, .mov (.v 5), none, []⟩,
    ⟨some 61, .build [.int .i64 0, .int .i64 0] [(0, 1, .v 60), (1, 1, .c (.int .i64 0))], none, [1]⟩,
    ⟨some 62, .bslice 30 2 1 [.int .i64 0, .int .i64 0] [(0, 2, .v 61)], none, [2]⟩,
    ⟨some 63, .app 30 2 16 (.v 59) (.v 62), none, [0, 3]⟩,
    ⟨some 64, .faddr 4 (.v 6), none, [0, 1, 2, 3, 4]⟩,
    ⟨none, .store 1 (.v 64) (.v 63), none, [5, 4, 4, 0, 1, 2, 3, 4]⟩])
  (.ghost (.keep [0, 4, 6, 8]) xc13e))
def xc13c : AC := (.seq (.seq (.reg [⟨some 29, .mov (.v 11), none, []⟩,
    ⟨some 30, .mov (.v 7), none, []⟩,
    ⟨some 31, .bin .lss (.v 29) (.v 30), none, [0, 1]⟩])
  (.ghost (.keep [0, 4, 5, 6, 7, 8, 9, 10, 11, 31]) (.cond (.v 31)
  .skip
  (.exit 0))))
  (.ghost (.keep [0, 4, 5, 6, 7, 8, 9, 10, 11]) (.seq (.block 1 (.seq (.draw [⟨⟨some 34, .faddr 1 (.v 6), none, []⟩, [37, 38, 39, 40, 41], [40], [], [], 2⟩,
    ⟨⟨some 35, .load false 1 (.v 34), none, [0]⟩, [37, 38, 39, 40, 41], [40], [], [], 0⟩,
    ⟨⟨some 36, .bin .sub (.v 35) (.c (.int .i64 1)), none, [1]⟩, [37, 38, 39, 40, 41], [40], [], [], 2⟩,
    ⟨⟨some 37, .mov (.v 0), none, []⟩, [34, 35, 36, 38, 39], [], [], [0, 1, 2], 2⟩,
    ⟨⟨some 38, .mov (.v 11), none, []⟩, [34, 35, 36, 37], [], [], [0, 1, 2, 3], 2⟩,
    ⟨⟨some 39, .bin .add (.c (.int .i64 3)) (.v 38), none, [4]⟩, [34, 35, 36, 37], [], [], [0, 1, 2, 3], 2⟩,
    ⟨⟨some 40, .call 43 [.v 37, .v 39], none, [3, 5]⟩, [34, 35, 36], [], [40], [0, 1, 2], 1⟩,
    ⟨⟨some 41, .bin .rem (.v 40) (.c (.int .i64 200)), none, [6]⟩, [34, 35, 36], [], [], [0, 1, 2], 2⟩,
    ⟨⟨some 42, .bin .sub (.v 36) (.v 41), none, [2, 7]⟩, [], [], [], [], 2⟩,
    ⟨⟨some 43, .faddr 1 (.v 6), none, [0, 1, 2, 3, 4, 5, 6, 7, 8]⟩, [], [], [], [], 2⟩,
    ⟨⟨none, .store 1 (.v 43) (.v 42), none, [9, 8, 6, 0, 1, 2, 3, 4, 5, 6, 7, 8]⟩, [], [], [6], [], 1⟩])
  (.ghost (.keep [0, 4, 5, 6, 7, 8, 9, 10, 11]) (.seq (.reg [⟨some 44, .mov (.v 10), none, []⟩,
    ⟨some 45, .mov (.v 0), none, []⟩,
    ⟨some 46, .mov (.v 11), none, []⟩,
    ⟨some 47, .bin .add (.c (.int .i64 5)) (.v 46), none, [2]⟩,
    ⟨some 48, .call 43 [.v 45, .v 47], none, [1, 3]⟩,
    ⟨some 49, .bin .rem (.v 48) (.c (.int .i64 65)), none, [4]⟩,
    ⟨some 50, .bin .sub (.v 44) (.v 49), none, [0, 5]⟩,
    ⟨some 51, .mm true (.c (.int .i64 (-64))) (.v 50), none, [6]⟩,
    ⟨some 10, .mov (.v 51), none, [7, 4, 0, 1, 2, 3, 4, 5, 6, 7]⟩])
  (.ghost (.keep [0, 4, 5, 6, 7, 8, 9, 10, 11]) (.reg [⟨some 52, .faddr 1 (.v 6), none, []⟩,
    ⟨some 53, .load false 1 (.v 52), none, [0]⟩,
    ⟨some 54, .mov (.v 10), none, []⟩,
    ⟨some 55, .build [.int .i64 0, .int .i64 0] [(0, 1, .v 53), (1, 1, .v 54)], none, [1, 2]⟩,
    ⟨some 56, .bslice 30 2 1 [.int .i64 0, .int .i64 0] [(0, 2, .v 55)], none, [3]⟩,
    ⟨some 57, .mov (.v 9), none, []⟩,
    ⟨some 58, .app 30 2 16 (.v 56) (.v 57), none, [4, 5]⟩,
    ⟨some 9, .mov (.v 58), none, [6, 6, 0, 1, 2, 3, 4, 5, 6]⟩]))))))
  (.ghost (.keep [0, 4, 5, 6, 7, 8, 9, 10, 11]) (.ghost (.ren (56, 1) (9, 0)) (.reg [⟨some 32, .mov (.v 11), none, []⟩,
    ⟨some 33, .bin .add (.v 32) (.c (.int .i64 1)), none, [0]⟩,
    ⟨some 11, .mov (.v 33), none, [1, 0, 1]⟩]))))))
def xc13b : AC := (.seq (.reg [⟨some 10, .mov (.c (.int .i64 0)), none, []⟩])
  (.ghost (.keep [0, 4, 5, 6, 7, 8, 9, 10]) (.seq (.seq (.reg [⟨some 11, .mov (.c (.int .i64 0)), none, []⟩])
  (.ghost (.keep [0, 4, 5, 6, 7, 8, 9, 10, 11]) (.block 0 (.loop (.ghost (.keep [0, 4, 5, 6, 7, 8, 9, 10, 11]) xc13c)))))
  (.ghost (.keep [0, 4, 5, 6, 8, 9]) xc13d))))
def xc13 : AC := (.ghost (.keep [0, 1])
  (.seq (.reg [⟨some 4, .alloc [.str ⟨#[]⟩, .int .i64 0, .int .i64 0, .int .i64 0, .nsl], none, []⟩])
  (.ghost (.keep [0, 1, 4]) (.seq (.reg [⟨some 13, .mov (.v 0), none, []⟩,
    ⟨some 14, .call 43 [.v 13, .c (.int .i64 0)], none, [0]⟩,
    ⟨some 15, .bin .rem (.v 14) (.c (.int .i64 41)), none, [1]⟩,
    ⟨some 16, .bin .mul (.v 15) (.c (.int .i64 25)), none, [2]⟩,
    ⟨some 17, .bin .sub (.v 16) (.c (.int .i64 500)), none, [3]⟩,
    ⟨some 5, .mov (.v 17), none, [4, 1, 0, 1, 2, 3, 4]⟩])
  (.ghost (.keep [0, 1, 4, 5]) (.seq (.reg [⟨some 18, .mov (.v 1), none, []⟩,
    ⟨some 19, .mov (.v 5), none, []⟩,
    ⟨some 20, .mov (.v 5), none, []⟩,
    ⟨some 21, .mov (.v 5), none, []⟩,
    ⟨some 22, .build [.str ⟨#[]⟩, .int .i64 0, .int .i64 0, .int .i64 0, .nsl] [(0, 1, .v 18), (1, 1, .v 19), (2, 1, .v 20), (3, 1, .v 21)], none, [0, 1, 2, 3]⟩,
    ⟨some 6, .alloc [.str ⟨#[]⟩, .int .i64 0, .int .i64 0, .int .i64 0, .nsl], none, []⟩,
    ⟨none, .store 5 (.v 6) (.v 22), none, [5, 4, 0, 1, 2, 3, 4, 5]⟩])
  (.ghost (.keep [0, 4, 5, 6]) (.seq (.reg [⟨some 23, .mov (.v 0), none, []⟩,
    ⟨some 24, .call 43 [.v 23, .c (.int .i64 1)], none, [0]⟩,
    ⟨some 25, .bin .rem (.v 24) (.c (.int .i64 3)), none, [1]⟩,
    ⟨some 7, .mov (.v 25), none, [2, 1, 0, 1, 2]⟩])
  (.ghost (.keep [0, 4, 5, 6, 7]) (.seq (.reg [⟨some 26, .mov (.v 0), none, []⟩,
    ⟨some 27, .call 43 [.v 26, .c (.int .i64 2)], none, [0]⟩,
    ⟨some 28, .bin .rem (.v 27) (.c (.int .i64 3)), none, [1]⟩,
    ⟨some 8, .mov (.v 28), none, [2, 1, 0, 1, 2]⟩])
  (.ghost (.keep [0, 4, 5, 6, 7, 8]) (.seq (.reg [⟨some 9, .mov (.c .nsl), none, []⟩])
  (.ghost (.own 9 9 30 2) (.ghost (.keep [0, 4, 5, 6, 7, 8, 9]) xc13b))))))))))))))
theorem xn13 : factOf Tryd.prog 13 = some (xc13.strip, [.cell 4 true 5], 98) := by kernel_rfl
theorem xk13 : xc13.okAll = true := by kernel_rfl
end Go.Abs.A09
namespace Go.Abs.A09
open Go Go.Abs Go.Proofs
set_option maxRecDepth 100000
set_option linter.unusedVariables false
/-- abugida/fix.Line -/
def ac18 : AC := (.ghost (.keep [0, 1, 2])
  (.seq (.reg [⟨some 4, .box (.v 1), none, []⟩,
    ⟨some 5, .box (.v 2), none, []⟩,
    ⟨some 6, .mov (.c (.int .i64 0)), none, []⟩,
    ⟨some 7, .mov (.c (.bool false)), none, [2]⟩])
  (.ghost (.keep [0, 4, 5]) (.seq (.seq (.reg [⟨some 10, .mov (.v 0), none, []⟩,
    ⟨some 11, .iaddrA 1 2 (.v 4) (.c (.int .i64 0)), none, []⟩,
    ⟨some 12, .load false 1 (.v 11), none, [1]⟩,
    ⟨some 13, .iaddrA 1 2 (.v 4) (.c (.int .i64 1)), none, []⟩,
    ⟨some 14, .load false 1 (.v 13), none, [3]⟩,
    ⟨some 15, .iaddrA 1 2 (.v 5) (.c (.int .i64 0)), none, []⟩,
    ⟨some 16, .load false 1 (.v 15), none, [5]⟩,
    ⟨some 17, .iaddrA 1 2 (.v 5) (.c (.int .i64 1)), none, []⟩,
    ⟨some 18, .load false 1 (.v 17), none, [7]⟩,
    ⟨some 19, .bslice 3 1 5 [.int .i64 0, .int .i64 0, .int .i64 0, .int .i64 0, .int .i64 0] [(0, 1, .v 10), (1, 1, .v 12), (2, 1, .v 14), (3, 1, .v 16), (4, 1, .v 18)], none, [0, 2, 4, 6, 8]⟩,
    ⟨some 20, .call 53 [.v 19], none, [9]⟩,
    ⟨some 21, .un .not (.v 20), none, [10]⟩,
    ⟨some 22, .mov (.v 21), none, [11, 10]⟩,
    ⟨some 23, .iaddrA 1 2 (.v 4) (.c (.int .i64 0)), some (22, false), [12]⟩,
    ⟨some 24, .load false 1 (.v 23), some (22, false), [13, 12]⟩,
    ⟨some 25, .iaddrA 1 2 (.v 5) (.c (.int .i64 0)), some (22, false), [12]⟩,
    ⟨some 26, .load false 1 (.v 25), some (22, false), [15, 12]⟩,
    ⟨some 27, .bin .geq (.v 24) (.v 26), some (22, false), [14, 16, 12]⟩,
    ⟨some 28, .pick (.v 22) (.c (.bool true)) (.v 27), none, [12, 17]⟩,
    ⟨some 29, .mov (.v 28), none, [18, 12]⟩,
    ⟨some 30, .mov (.v 0), some (29, false), [19]⟩,
    ⟨some 31, .iaddrA 1 2 (.v 4) (.c (.int .i64 0)), some (29, false), [19]⟩,
    ⟨some 32, .load false 1 (.v 31), some (29, false), [21, 19]⟩,
    ⟨some 33, .bin .lss (.v 30) (.v 32), some (29, false), [20, 22, 19]⟩,
    ⟨some 34, .pick (.v 29) (.c (.bool true)) (.v 33), none, [19, 23]⟩,
    ⟨some 35, .mov (.v 34), none, [24, 19]⟩,
    ⟨some 36, .mov (.v 0), some (35, false), [25]⟩,
    ⟨some 37, .iaddrA 1 2 (.v 5) (.c (.int .i64 0)), some (35, false), [25]⟩,
    ⟨some 38, .load false 1 (.v 37), some (35, false), [27, 25]⟩,
    ⟨some 39, .bin .gtr (.v 36) (.v 38), some (35, false), [26, 28, 25]⟩,
    ⟨some 40, .pick (.v 35) (.c (.bool true)) (.v 39), none, [25, 29]⟩])
  (.ghost (.keep [0, 4, 5, 40]) (.cond (.v 40)
  (.seq (.reg [⟨some 6, .mov (.c (.int .i64 0)), none, []⟩,
    ⟨some 7, .mov (.c (.bool false)), none, [0, 0]⟩])
  (.ghost (.keep [6, 7]) .ret))
  .skip)))
  (.ghost (.keep [0, 4, 5]) (.seq (.reg [⟨some 42, .mov (.v 0), none, []⟩,
    ⟨some 43, .iaddrA 1 2 (.v 4) (.c (.int .i64 0)), none, []⟩,
    ⟨some 44, .load false 1 (.v 43), none, [1]⟩,
    ⟨some 45, .bin .sub (.v 42) (.v 44), none, [0, 2]⟩,
    ⟨some 46, .iaddrA 1 2 (.v 5) (.c (.int .i64 1)), none, []⟩,
    ⟨some 47, .load false 1 (.v 46), none, [4]⟩,
    ⟨some 48, .iaddrA 1 2 (.v 4) (.c (.int .i64 1)), none, []⟩,
    ⟨some 49, .load false 1 (.v 48), none, [6]⟩,
    ⟨some 50, .bin .sub (.v 47) (.v 49), none, [5, 7]⟩,
    ⟨some 51, .bin .mul (.v 45) (.v 50), none, [3, 8]⟩,
    ⟨some 52, .iaddrA 1 2 (.v 5) (.c (.int .i64 0)), none, []⟩,
    ⟨some 53, .load false 1 (.v 52), none, [10]⟩,
    ⟨some 54, .iaddrA 1 2 (.v 4) (.c (.int .i64 0)), none, []⟩,
    ⟨some 55, .load false 1 (.v 54), none, [12]⟩,
    ⟨some 56, .bin .sub (.v 53) (.v 55), none, [11, 13]⟩,
    ⟨some 57, .call 54 [.v 51, .v 56], none, [9, 14]⟩,
    ⟨some 41, .mov (.v 57), none, [15]⟩,
    ⟨some 58, .ext (.v 41) 0, none, [16]⟩,
    ⟨some 59, .ext (.v 41) 1, none, [16]⟩,
    ⟨some 8, .mov (.v 58), none, [17, 15, 0, 1, 2, 3, 4, 5, 6, 7, 8, 9, 10, 11, 12, 13, 14, 15, 16, 17]⟩,
    ⟨some 9, .mov (.v 59), none, [18, 19, 0, 1, 2, 3, 4, 5, 6, 7, 8, 9, 10, 11, 12, 13, 14, 15, 16, 17, 18, 19]⟩])
  (.ghost (.keep [4, 8, 9]) (.seq (.reg [⟨some 60, .iaddrA 1 2 (.v 4) (.c (.int .i64 1)), none, []⟩,
    ⟨some 61, .load false 1 (.v 60), none, [0]⟩,
    ⟨some 62, .mov (.v 8), none, []⟩,
    ⟨some 63, .bin .add (.v 61) (.v 62), none, [1, 2]⟩,
    ⟨some 64, .mov (.v 9), none, []⟩,
    ⟨some 6, .mov (.v 63), none, [3, 0, 1, 2, 3]⟩,
    ⟨some 7, .mov (.v 64), none, [4, 5, 0, 1, 2, 3, 4, 5]⟩])
  (.ghost (.keep [6, 7]) .ret)))))))))
theorem fn18 : factOf Tryd.prog 18 = some (ac18.strip, [.tmp 6, .tmp 7], 65) := by kernel_rfl
theorem ok18 : ac18.okAll = true := by kernel_rfl

/-- abugida/abugidaref09.Coord -/
def ac19 : AC := (.ghost (.keep [0])
  (.seq (.reg [⟨some 2, .mov (.c (.bool false)), none, []⟩])
  (.ghost (.keep [0]) (.seq (.reg [⟨some 3, .mov (.v 0), none, []⟩,
    ⟨some 4, .bin .geq (.v 3) (.c (.int .i64 (-64))), none, [0]⟩,
    ⟨some 5, .mov (.v 4), none, [1]⟩,
    ⟨some 6, .mov (.v 0), some (5, true), [2]⟩,
    ⟨some 7, .bin .leq (.v 6) (.c (.int .i64 64)), some (5, true), [3, 2]⟩,
    ⟨some 8, .pick (.v 5) (.v 7) (.c (.bool false)), none, [2, 4]⟩,
    ⟨some 2, .mov (.v 8), none, [5, 2, 0, 1, 2, 3, 4, 5]⟩])
  (.ghost (.keep [2]) .ret)))))
theorem fn19 : factOf Tryd.prog 19 = some (ac19.strip, [.tmp 2], 9) := by kernel_rfl
theorem ok19 : ac19.okAll = true := by kernel_rfl

/-- abugida/abugidalaw09.few -/
def ac20 : AC := (.ghost (.keep [0])
  (.seq (.reg [⟨some 1, .box (.v 0), none, []⟩,
    ⟨some 2, .alloc [.nsl], none, []⟩])
  (.ghost (.keep [1, 2]) (.seq (.reg [⟨some 3, .bslice 71 3 0 [] [], none, []⟩,
    ⟨some 4, .faddr 0 (.v 1), none, []⟩,
    ⟨some 5, .load false 1 (.v 4), none, [1]⟩,
    ⟨some 6, .faddr 0 (.v 1), none, []⟩,
    ⟨some 7, .load false 1 (.v 6), none, [3]⟩,
    ⟨some 8, .len false (.v 7), none, [4]⟩,
    ⟨some 9, .mm false (.v 8) (.c (.int .i64 5)), none, [5]⟩,
    ⟨some 10, .slcV 3 (.v 5) none (some (.v 9)), none, [2, 6]⟩,
    ⟨some 11, .app 71 3 24 (.v 3) (.v 10), none, [0, 7]⟩,
    ⟨some 12, .build [.nsl] [(0, 1, .v 11)], none, [8]⟩,
    ⟨none, .store 1 (.v 2) (.v 12), none, [9, 8, 0, 1, 2, 3, 4, 5, 6, 7, 8, 9]⟩])
  (.ghost (.keep [2]) .ret)))))
theorem fn20 : factOf Tryd.prog 20 = some (ac20.strip, [.cell 2 true 1], 13) := by kernel_rfl
theorem ok20 : ac20.okAll = true := by kernel_rfl

/-- abugida/abugidaref09.MadeAt -/
def ac22 : AC := (.ghost (.keep [0, 1])
  (.seq (.reg [⟨some 4, .mov (.c .nsl), none, []⟩])
  (.ghost (.keep [0, 1]) (.seq (.reg [⟨some 7, .mov (.v 1), none, []⟩,
    ⟨some 8, .mksl 3 1 8 [.int .i64 0] (.v 7) (.v 7), none, [0, 0]⟩,
    ⟨some 5, .mov (.v 8), none, [1, 0, 1]⟩])
  (.ghost (.keep [0, 1, 5]) (.seq (.seq (.reg [⟨some 6, .mov (.c (.int .i64 0)), none, []⟩])
  (.ghost (.keep [0, 1, 5, 6]) (.block 0 (.loop (.ghost (.keep [0, 1, 5, 6]) (.seq (.seq (.reg [⟨some 9, .mov (.v 6), none, []⟩,
    ⟨some 10, .mov (.v 1), none, []⟩,
    ⟨some 11, .bin .lss (.v 9) (.v 10), none, [0, 1]⟩])
  (.ghost (.keep [0, 1, 5, 6, 11]) (.cond (.v 11)
  .skip
  (.exit 0))))
  (.ghost (.keep [0, 1, 5, 6]) (.seq (.block 1 (.reg [⟨some 14, .mov (.v 5), none, []⟩,
    ⟨some 15, .mov (.v 6), none, []⟩,
    ⟨some 16, .mov (.v 0), none, []⟩,
    ⟨some 17, .mov (.v 6), none, []⟩,
    ⟨some 18, .call 43 [.v 16, .v 17], none, [2, 3]⟩,
    ⟨some 19, .bin .rem (.v 18) (.c (.int .i64 129)), none, [4]⟩,
    ⟨some 20, .bin .sub (.v 19) (.c (.int .i64 64)), none, [5]⟩,
    ⟨some 21, .iaddr 1 (.v 14) (.v 15), none, [0, 1, 0, 1, 2, 3, 4, 5, 6]⟩,
    ⟨none, .store 1 (.v 21) (.v 20), none, [7, 6, 4, 0, 1, 2, 3, 4, 5, 6]⟩]))
  (.ghost (.keep [0, 1, 5, 6]) (.reg [⟨some 12, .mov (.v 6), none, []⟩,
    ⟨some 13, .bin .add (.v 12) (.c (.int .i64 1)), none, [0]⟩,
    ⟨some 6, .mov (.v 13), none, [1, 0, 1]⟩]))))))))))
  (.ghost (.keep [5]) (.seq (.reg [⟨some 22, .mov (.v 5), none, []⟩,
    ⟨some 4, .mov (.v 22), none, [0, 0]⟩])
  (.ghost (.keep [4]) .ret)))))))))
theorem fn22 : factOf Tryd.prog 22 = some (ac22.strip, [.tmp 4], 23) := by kernel_rfl
theorem ok22 : ac22.okAll = true := by kernel_rfl

/-- abugida/axes.Right -/
def ac23 : AC := (.ghost (.keep [0, 1])
  (.seq (.reg [⟨some 2, .box (.v 0), none, []⟩,
    ⟨some 4, .mov (.c (.bool false)), none, []⟩])
  (.ghost (.keep [1, 2]) (.seq (.reg [⟨some 5, .mov (.c (.clo (.func 56) [] [])), none, []⟩])
  (.ghost (.keep [1, 2, 5]) (.seq (.reg [⟨some 6, .mov (.v 1), none, []⟩,
    ⟨some 7, .bin .geq (.v 6) (.c (.int .i64 0)), none, [0]⟩,
    ⟨some 8, .mov (.v 7), none, [1]⟩,
    ⟨some 9, .mov (.v 1), some (8, true), [2]⟩,
    ⟨some 10, .bin .leq (.v 9) (.c (.int .i64 3)), some (8, true), [3, 2]⟩,
    ⟨some 11, .pick (.v 8) (.v 10) (.c (.bool false)), none, [2, 4]⟩,
    ⟨some 12, .mov (.v 11), none, [5, 2]⟩,
    ⟨some 13, .faddr 0 (.v 2), some (12, true), [6]⟩,
    ⟨some 14, .load false 1 (.v 13), some (12, true), [7, 6]⟩,
    ⟨some 15, .len false (.v 14), some (12, true), [8, 6]⟩,
    ⟨some 16, .mov (.v 1), some (12, true), [6]⟩,
    ⟨some 17, .bin .eql (.v 15) (.v 16), some (12, true), [9, 10, 6]⟩,
    ⟨some 18, .pick (.v 12) (.v 17) (.c (.bool false)), none, [6, 11]⟩,
    ⟨some 19, .mov (.v 18), none, [12, 6]⟩,
    ⟨some 20, .faddr 0 (.v 2), some (19, true), [13]⟩,
    ⟨some 21, .load false 1 (.v 20), some (19, true), [14, 13]⟩,
    ⟨some 22, .mov (.v 5), some (19, true), [13]⟩,
    ⟨some 23, .call 58 [.v 21, .v 22], some (19, true), [15, 16, 13, 13]⟩,
    ⟨some 24, .un .not (.v 23), some (19, true), [17, 13]⟩,
    ⟨some 25, .pick (.v 19) (.v 24) (.c (.bool false)), none, [13, 18]⟩,
    ⟨some 4, .mov (.v 25), none, [19, 17, 0, 1, 2, 3, 4, 5, 6, 7, 8, 9, 10, 11, 12, 13, 14, 15, 16, 17, 18, 19]⟩])
  (.ghost (.keep [4]) .ret)))))))
theorem fn23 : factOf Tryd.prog 23 = some (ac23.strip, [.tmp 4], 26) := by kernel_rfl
theorem ok23 : ac23.okAll = true := by kernel_rfl

/-- abugida/abugidaref09.Right -/
def ac24 : AC := (.ghost (.keep [0, 1])
  (.seq (.reg [⟨some 2, .box (.v 0), none, []⟩,
    ⟨some 4, .mov (.c (.bool false)), none, []⟩])
  (.ghost (.keep [1, 2]) (.seq (.seq (.reg [⟨some 7, .mov (.v 1), none, []⟩,
    ⟨some 8, .bin .lss (.v 7) (.c (.int .i64 0)), none, [0]⟩,
    ⟨some 9, .mov (.v 8), none, [1]⟩,
    ⟨some 10, .mov (.v 1), some (9, false), [2]⟩,
    ⟨some 11, .bin .gtr (.v 10) (.c (.int .i64 3)), some (9, false), [3, 2]⟩,
    ⟨some 12, .pick (.v 9) (.c (.bool true)) (.v 11), none, [2, 4]⟩,
    ⟨some 13, .mov (.v 12), none, [5, 2]⟩,
    ⟨some 14, .faddr 0 (.v 2), some (13, false), [6]⟩,
    ⟨some 15, .load false 1 (.v 14), some (13, false), [7, 6]⟩,
    ⟨some 16, .len false (.v 15), some (13, false), [8, 6]⟩,
    ⟨some 17, .mov (.v 1), some (13, false), [6]⟩,
    ⟨some 18, .bin .neq (.v 16) (.v 17), some (13, false), [9, 10, 6]⟩,
    ⟨some 19, .pick (.v 13) (.c (.bool true)) (.v 18), none, [6, 11]⟩])
  (.ghost (.keep [1, 2, 19]) (.cond (.v 19)
  (.seq (.reg [⟨some 4, .mov (.c (.bool false)), none, []⟩])
  (.ghost (.keep [4]) .ret))
  .skip)))
  (.ghost (.keep [1, 2]) (.seq (.seq (.reg [⟨some 5, .mov (.c (.int .i64 0)), none, []⟩])
  (.ghost (.keep [1, 2, 5]) (.block 0 (.loop (.ghost (.keep [1, 2, 5]) (.seq (.seq (.reg [⟨some 20, .mov (.v 5), none, []⟩,
    ⟨some 21, .mov (.v 1), none, []⟩,
    ⟨some 22, .bin .lss (.v 20) (.v 21), none, [0, 1]⟩])
  (.ghost (.keep [1, 2, 5, 22]) (.cond (.v 22)
  .skip
  (.exit 0))))
  (.ghost (.keep [1, 2, 5]) (.seq (.block 1 (.seq (.reg [⟨some 25, .faddr 0 (.v 2), none, []⟩,
    ⟨some 26, .load false 1 (.v 25), none, [0]⟩,
    ⟨some 27, .mov (.v 5), none, []⟩,
    ⟨some 28, .iaddr 3 (.v 26) (.v 27), none, [1, 2]⟩,
    ⟨some 29, .load true 3 (.v 28), none, [3]⟩,
    ⟨some 30, .call 59 [.v 29], none, [4]⟩,
    ⟨some 6, .mov (.v 30), none, [5, 5, 0, 1, 2, 3, 4, 5]⟩])
  (.ghost (.keep [1, 2, 5, 6]) (.seq (.reg [⟨some 31, .mov (.v 6), none, []⟩,
    ⟨some 32, .un .not (.v 31), none, [0]⟩])
  (.ghost (.keep [1, 2, 5, 32]) (.cond (.v 32)
  (.seq (.reg [⟨some 4, .mov (.c (.bool false)), none, []⟩])
  (.ghost (.keep [4]) .ret))
  .skip))))))
  (.ghost (.keep [1, 2, 5]) (.reg [⟨some 23, .mov (.v 5), none, []⟩,
    ⟨some 24, .bin .add (.v 23) (.c (.int .i64 1)), none, [0]⟩,
    ⟨some 5, .mov (.v 24), none, [1, 0, 1]⟩]))))))))))
  (.ghost (.keep []) (.seq (.reg [⟨some 4, .mov (.c (.bool true)), none, []⟩])
  (.ghost (.keep [4]) .ret)))))))))
theorem fn24 : factOf Tryd.prog 24 = some (ac24.strip, [.tmp 4], 33) := by kernel_rfl
theorem ok24 : ac24.okAll = true := by kernel_rfl

/-- abugida/fix.Times -/
def ac38 : AC := (.ghost (.keep [0, 1])
  (.seq (.reg [⟨some 2, .box (.v 0), none, []⟩,
    ⟨some 3, .box (.v 1), none, []⟩,
    ⟨some 4, .alloc [.int .i64 0, .int .i64 0], none, []⟩,
    ⟨some 5, .mov (.c (.bool false)), none, []⟩])
  (.ghost (.keep [2, 3, 4]) (.seq (.seq (.reg [⟨some 10, .load true 2 (.v 2), none, []⟩,
    ⟨some 11, .call 73 [.v 10], none, [0]⟩,
    ⟨some 12, .un .not (.v 11), none, [1]⟩,
    ⟨some 13, .mov (.v 12), none, [2, 1]⟩,
    ⟨some 14, .load true 2 (.v 3), some (13, false), [3]⟩,
    ⟨some 15, .call 73 [.v 14], some (13, false), [4, 3, 3]⟩,
    ⟨some 16, .un .not (.v 15), some (13, false), [5, 3]⟩,
    ⟨some 17, .pick (.v 13) (.c (.bool true)) (.v 16), none, [3, 6]⟩])
  (.ghost (.keep [2, 3, 4, 17]) (.cond (.v 17)
  (.seq (.reg [⟨some 18, .build [.int .i64 0, .int .i64 0] [], none, []⟩,
    ⟨none, .store 2 (.v 4) (.v 18), none, [0, 0]⟩,
    ⟨some 5, .mov (.c (.bool false)), none, [1, 0, 1]⟩])
  (.ghost (.keep [4, 5]) .ret))
  .skip)))
  (.ghost (.keep [2, 3, 4]) (.seq (.draw [⟨⟨some 19, .faddr 0 (.v 2), none, []⟩, [21, 22, 24, 25, 26, 27, 28], [], [], [], 2⟩,
    ⟨⟨some 20, .load false 1 (.v 19), none, [0]⟩, [21, 22, 24, 25, 26, 27, 28], [], [], [], 2⟩,
    ⟨⟨some 21, .faddr 0 (.v 3), none, []⟩, [19, 20, 24, 25, 26, 27, 28], [], [], [0, 1], 2⟩,
    ⟨⟨some 22, .load false 1 (.v 21), none, [2]⟩, [19, 20, 24, 25, 26, 27, 28], [], [], [0, 1], 2⟩,
    ⟨⟨some 23, .bin .mul (.v 20) (.v 22), none, [1, 3]⟩, [24, 25, 26, 27, 28], [], [], [], 2⟩,
    ⟨⟨some 24, .faddr 1 (.v 2), none, []⟩, [6, 19, 20, 21, 22, 23, 26, 27], [], [], [0, 1, 2, 3, 4], 2⟩,
    ⟨⟨some 25, .load false 1 (.v 24), none, [5]⟩, [6, 19, 20, 21, 22, 23, 26, 27], [], [], [0, 1, 2, 3, 4], 2⟩,
    ⟨⟨some 26, .faddr 1 (.v 3), none, []⟩, [6, 19, 20, 21, 22, 23, 24, 25], [], [], [0, 1, 2, 3, 4, 5, 6], 2⟩,
    ⟨⟨some 27, .load false 1 (.v 26), none, [7]⟩, [6, 19, 20, 21, 22, 23, 24, 25], [], [], [0, 1, 2, 3, 4, 5, 6], 2⟩,
    ⟨⟨some 28, .bin .mul (.v 25) (.v 27), none, [6, 8]⟩, [6, 19, 20, 21, 22, 23], [], [], [0, 1, 2, 3, 4], 2⟩,
    ⟨⟨some 6, .mov (.v 23), none, [4, 0, 1, 2, 3, 4]⟩, [24, 25, 26, 27, 28], [], [], [5, 6, 7, 8, 9], 2⟩,
    ⟨⟨some 7, .mov (.v 28), none, [9, 10, 0, 1, 2, 3, 4, 5, 6, 7, 8, 9, 10]⟩, [], [], [], [], 2⟩])
  (.ghost (.keep [4, 6, 7]) (.seq (.reg [⟨some 29, .mov (.v 6), none, []⟩,
    ⟨some 30, .mov (.v 7), none, []⟩,
    ⟨some 31, .call 74 [.v 29, .v 30], none, [0, 1]⟩,
    ⟨some 8, .mov (.v 31), none, [2, 2, 0, 1, 2]⟩])
  (.ghost (.keep [4, 6, 7, 8]) (.seq (.draw [⟨⟨some 32, .mov (.v 6), none, []⟩, [9, 33, 35, 36, 37], [9], [], [], 2⟩,
    ⟨⟨some 33, .mov (.v 8), none, []⟩, [9, 32, 35, 36, 37], [9], [], [0], 2⟩,
    ⟨⟨some 34, .bin .quo (.v 32) (.v 33), none, [0, 1]⟩, [9, 35, 36, 37], [9], [], [], 2⟩,
    ⟨⟨some 35, .mov (.v 7), none, []⟩, [9, 32, 33, 34, 36], [9], [], [0, 1, 2], 2⟩,
    ⟨⟨some 36, .mov (.v 8), none, []⟩, [9, 32, 33, 34, 35], [9], [], [0, 1, 2, 3], 2⟩,
    ⟨⟨some 37, .bin .quo (.v 35) (.v 36), none, [3, 4]⟩, [9, 32, 33, 34], [9], [], [0, 1, 2], 2⟩,
    ⟨⟨some 38, .build [.int .i64 0, .int .i64 0] [(0, 1, .v 34), (1, 1, .v 37)], none, [2, 5]⟩, [9], [9], [], [], 2⟩,
    ⟨⟨some 9, .alloc [.int .i64 0, .int .i64 0], none, []⟩, [32, 33, 34, 35, 36, 37, 38], [], [9], [0, 1, 2, 3, 4, 5, 6], 1⟩,
    ⟨⟨none, .store 2 (.v 9) (.v 38), none, [7, 6, 0, 1, 2, 3, 4, 5, 6, 7]⟩, [], [], [9], [], 1⟩])
  (.ghost (.keep [4, 9]) (.seq (.seq (.reg [⟨some 39, .faddr 1 (.v 9), none, []⟩,
    ⟨some 40, .load false 1 (.v 39), none, [0]⟩,
    ⟨some 41, .bin .gtr (.v 40) (.c (.int .i64 262144)), none, [1]⟩])
  (.ghost (.keep [4, 9, 41]) (.cond (.v 41)
  (.seq (.reg [⟨some 42, .build [.int .i64 0, .int .i64 0] [], none, []⟩,
    ⟨none, .store 2 (.v 4) (.v 42), none, [0, 0]⟩,
    ⟨some 5, .mov (.c (.bool false)), none, [1, 0, 1]⟩])
  (.ghost (.keep [4, 5]) .ret))
  .skip)))
  (.ghost (.keep [4, 9]) (.seq (.reg [⟨some 43, .load true 2 (.v 9), none, []⟩,
    ⟨none, .store 2 (.v 4) (.v 43), none, [0, 0]⟩,
    ⟨some 5, .mov (.c (.bool true)), none, [1, 0, 1]⟩])
  (.ghost (.keep [4, 5]) .ret)))))))))))))))
theorem fn38 : factOf Tryd.prog 38 = some (ac38.strip, [.cell 4 true 2, .tmp 5], 44) := by kernel_rfl
theorem ok38 : ac38.okAll = true := by kernel_rfl

/-- abugida/abugidaref01.Mod -/
def ac39 : AC := (.ghost (.keep [0, 1])
  (.seq (.reg [⟨some 4, .mov (.c (.int .i64 0)), none, []⟩])
  (.ghost (.keep [0, 1]) (.seq (.reg [⟨some 5, .mov (.v 0), none, []⟩,
    ⟨some 6, .mov (.v 1), none, []⟩,
    ⟨some 7, .bin .rem (.v 5) (.v 6), none, [0, 1]⟩,
    ⟨some 8, .mov (.v 1), none, []⟩,
    ⟨some 9, .bin .add (.v 7) (.v 8), none, [2, 3]⟩,
    ⟨some 10, .mov (.v 1), none, []⟩,
    ⟨some 11, .bin .rem (.v 9) (.v 10), none, [4, 5]⟩,
    ⟨some 4, .mov (.v 11), none, [6, 0, 1, 2, 3, 4, 5, 6]⟩])
  (.ghost (.keep [4]) .ret)))))
theorem fn39 : factOf Tryd.prog 39 = some (ac39.strip, [.tmp 4], 12) := by kernel_rfl
theorem ok39 : ac39.okAll = true := by kernel_rfl

/-- abugida/abugidalaw09.normals -/
def ac41 : AC := (.ghost (.keep [0, 1])
  (.seq (.reg [⟨some 2, .box (.v 0), none, []⟩,
    ⟨some 4, .mov (.c (.bool false)), none, []⟩])
  (.ghost (.keep [1, 2]) (.seq (.seq (.reg [⟨some 7, .mov (.v 1), none, []⟩,
    ⟨some 8, .len false (.v 7), none, [0]⟩,
    ⟨some 9, .mov (.c (.int .i64 0)), none, []⟩])
  (.ghost (.keep [2, 7, 8, 9]) (.block 0 (.loop (.ghost (.keep [2, 7, 8, 9]) (.seq (.reg [⟨some 10, .bin .lss (.v 9) (.v 8), none, []⟩])
  (.ghost (.keep [2, 7, 8, 9, 10]) (.seq (.cond (.v 10)
  .skip
  (.exit 0))
  (.ghost (.keep [2, 7, 8, 9]) (.seq (.block 1 (.seq (.reg [⟨some 11, .iaddr 2 (.v 7) (.v 9), none, []⟩,
    ⟨some 12, .load true 2 (.v 11), none, [0]⟩,
    ⟨some 6, .alloc [.int .i64 0, .int .i64 0], none, []⟩,
    ⟨none, .store 2 (.v 6) (.v 12), none, [2, 1, 0, 1, 2]⟩])
  (.ghost (.keep [2, 6, 7, 8, 9]) (.seq (.draw [⟨⟨some 13, .load true 5 (.v 2), none, []⟩, [14, 15, 17, 18], [], [], [], 2⟩,
    ⟨⟨some 14, .iaddrA 1 2 (.v 6) (.c (.int .i64 0)), none, []⟩, [13, 17, 18], [], [], [0], 2⟩,
    ⟨⟨some 15, .load false 1 (.v 14), none, [1]⟩, [13, 17, 18], [], [], [0], 2⟩,
    ⟨⟨some 16, .call 16 [.v 13, .v 15], none, [0, 2]⟩, [17, 18], [], [16], [], 1⟩,
    ⟨⟨some 17, .iaddrA 1 2 (.v 6) (.c (.int .i64 1)), none, []⟩, [13, 14, 15, 16], [16], [], [0, 1, 2, 3], 2⟩,
    ⟨⟨some 18, .load false 1 (.v 17), none, [4]⟩, [13, 14, 15, 16], [16], [], [0, 1, 2, 3], 0⟩,
    ⟨⟨some 19, .bin .neq (.v 16) (.v 18), none, [3, 5]⟩, [], [], [], [], 2⟩])
  (.ghost (.keep [2, 7, 8, 9, 19]) (.cond (.v 19)
  (.seq (.reg [⟨some 4, .mov (.c (.bool false)), none, []⟩])
  (.ghost (.keep [4]) .ret))
  .skip))))))
  (.ghost (.keep [2, 7, 8, 9]) (.reg [⟨some 20, .bin .add (.v 9) (.c (.int .i64 1)), none, []⟩,
    ⟨some 9, .mov (.v 20), none, [0]⟩]))))))))))))
  (.ghost (.keep [2]) (.seq (.reg [⟨some 21, .load true 5 (.v 2), none, []⟩,
    ⟨some 22, .call 14 [.v 21], none, [0]⟩,
    ⟨some 23, .bin .eql (.v 22) (.c (.int .i64 0)), none, [1]⟩,
    ⟨some 4, .mov (.v 23), none, [2, 1, 0, 1, 2]⟩])
  (.ghost (.keep [4]) .ret)))))))
theorem fn41 : factOf Tryd.prog 41 = some (ac41.strip, [.tmp 4], 24) := by kernel_rfl
theorem ok41 : ac41.okAll = true := by kernel_rfl

/-- abugida/abugidaref09.number -/
def ac43 : AC := (.ghost (.keep [0, 1])
  (.seq (.reg [⟨some 4, .mov (.c (.int .i64 0)), none, []⟩])
  (.ghost (.keep [0, 1]) (.seq (.seq (.reg [⟨some 5, .mov (.v 1), none, []⟩,
    ⟨some 6, .mov (.v 0), none, []⟩,
    ⟨some 7, .len false (.v 6), none, [1]⟩,
    ⟨some 8, .bin .lss (.v 5) (.v 7), none, [0, 2]⟩])
  (.ghost (.keep [0, 1, 8]) (.cond (.v 8)
  (.seq (.reg [⟨some 9, .mov (.v 0), none, []⟩,
    ⟨some 10, .mov (.v 1), none, []⟩,
    ⟨some 11, .iaddr 1 (.v 9) (.v 10), none, [0, 1]⟩,
    ⟨some 12, .load false 1 (.v 11), none, [2]⟩,
    ⟨some 13, .bin .and (.v 12) (.c (.int .i64 65535)), none, [3]⟩,
    ⟨some 4, .mov (.v 13), none, [4, 0, 1, 2, 3, 4]⟩])
  (.ghost (.keep [4]) .ret))
  .skip)))
  (.ghost (.keep []) (.seq (.reg [⟨some 4, .mov (.c (.int .i64 0)), none, []⟩])
  (.ghost (.keep [4]) .ret)))))))
theorem fn43 : factOf Tryd.prog 43 = some (ac43.strip, [.tmp 4], 14) := by kernel_rfl
theorem ok43 : ac43.okAll = true := by kernel_rfl

/-- abugida/axes.name -/
def ac44 : AC := (.ghost (.keep [0])
  (.seq (.reg [⟨some 2, .mov (.c (.bool false)), none, []⟩])
  (.ghost (.keep [0]) (.seq (.reg [⟨some 3, .mov (.v 0), none, []⟩,
    ⟨some 4, .len true (.v 3), none, [0]⟩,
    ⟨some 5, .bin .gtr (.v 4) (.c (.int .i64 0)), none, [1]⟩,
    ⟨some 6, .mov (.v 5), none, [2]⟩,
    ⟨some 7, .mov (.v 0), some (6, true), [3]⟩,
    ⟨some 8, .len true (.v 7), some (6, true), [4, 3]⟩,
    ⟨some 9, .bin .leq (.v 8) (.c (.int .i64 12)), some (6, true), [5, 3]⟩,
    ⟨some 10, .pick (.v 6) (.v 9) (.c (.bool false)), none, [3, 6]⟩,
    ⟨some 11, .mov (.v 10), none, [7, 3]⟩,
    ⟨some 12, .mov (.v 0), some (11, true), [8]⟩,
    ⟨some 13, .call 75 [.v 12, .c (.str ⟨#[97, 98, 99, 100, 101, 102, 103, 104, 105, 106, 107, 108, 109, 110, 111, 112, 113, 114, 115, 116, 117, 118, 119, 120, 121, 122, 48, 49, 50, 51, 52, 53, 54, 55, 56, 57]⟩)], some (11, true), [9, 8, 8]⟩,
    ⟨some 14, .bin .eql (.v 13) (.c (.str ⟨#[]⟩)), some (11, true), [10, 8]⟩,
    ⟨some 15, .pick (.v 11) (.v 14) (.c (.bool false)), none, [8, 11]⟩,
    ⟨some 16, .mov (.v 15), none, [12, 10]⟩,
    ⟨some 17, .mov (.v 0), some (16, true), [13]⟩,
    ⟨some 18, .slcS (.v 17) none (some (.c (.int .i64 1))), some (16, true), [14, 13]⟩,
    ⟨some 19, .call 76 [.c (.str ⟨#[97, 98, 99, 100, 101, 102, 103, 104, 105, 106, 107, 108, 109, 110, 111, 112, 113, 114, 115, 116, 117, 118, 119, 120, 121, 122]⟩), .v 18], some (16, true), [15, 13, 13]⟩,
    ⟨some 20, .pick (.v 16) (.v 19) (.c (.bool false)), none, [13, 16]⟩,
    ⟨some 2, .mov (.v 20), none, [17, 16, 0, 1, 2, 3, 4, 5, 6, 7, 8, 9, 10, 11, 12, 13, 14, 15, 16, 17]⟩])
  (.ghost (.keep [2]) .ret)))))
theorem fn44 : factOf Tryd.prog 44 = some (ac44.strip, [.tmp 2], 21) := by kernel_rfl
theorem ok44 : ac44.okAll = true := by kernel_rfl

/-- slices.Contains[[][2]int,[2]int] -/
def ac45 : AC := (.ghost (.keep [0, 1])
  (.seq (.reg [⟨some 3, .box (.v 1), none, []⟩,
    ⟨some 4, .mov (.c (.bool false)), none, []⟩])
  (.ghost (.keep [0, 3]) (.seq (.reg [⟨some 5, .mov (.v 0), none, []⟩,
    ⟨some 6, .load true 2 (.v 3), none, []⟩,
    ⟨some 7, .call 77 [.v 5, .v 6], none, [0, 1]⟩,
    ⟨some 8, .bin .geq (.v 7) (.c (.int .i64 0)), none, [2]⟩,
    ⟨some 4, .mov (.v 8), none, [3, 2, 0, 1, 2, 3]⟩])
  (.ghost (.keep [4]) .ret)))))
theorem fn45 : factOf Tryd.prog 45 = some (ac45.strip, [.tmp 4], 9) := by kernel_rfl
theorem ok45 : ac45.okAll = true := by kernel_rfl

/-- abugida/axes.zip[[2]int,[2]int] -/
def ac46 : AC := (.ghost (.keep [0, 1])
  (.seq (.reg [⟨some 2, .box (.v 0), none, []⟩,
    ⟨some 3, .box (.v 1), none, []⟩,
    ⟨some 4, .mov (.c .nfn), none, []⟩])
  (.ghost (.keep [2, 3]) (.seq (.reg [⟨some 5, .mkfn (.func 78) [] [.v 2, .v 3], none, []⟩,
    ⟨some 4, .mov (.v 5), none, [0, 0]⟩])
  (.ghost (.keep [4]) .ret)))))
theorem fn46 : factOf Tryd.prog 46 = some (ac46.strip, [.tmp 4], 6) := by kernel_rfl
theorem ok46 : ac46.okAll = true := by kernel_rfl

/-- abugida/axes.coord -/
def ac47 : AC := (.ghost (.keep [0])
  (.seq (.reg [⟨some 2, .mov (.c (.bool false)), none, []⟩])
  (.ghost (.keep [0]) (.seq (.reg [⟨some 3, .mov (.v 0), none, []⟩,
    ⟨some 4, .bin .leq (.c (.int .i64 (-64))) (.v 3), none, [0]⟩,
    ⟨some 5, .mov (.v 4), none, [1]⟩,
    ⟨some 6, .mov (.v 0), some (5, true), [2]⟩,
    ⟨some 7, .bin .leq (.v 6) (.c (.int .i64 64)), some (5, true), [3, 2]⟩,
    ⟨some 8, .pick (.v 5) (.v 7) (.c (.bool false)), none, [2, 4]⟩,
    ⟨some 2, .mov (.v 8), none, [5, 2, 0, 1, 2, 3, 4, 5]⟩])
  (.ghost (.keep [2]) .ret)))))
theorem fn47 : factOf Tryd.prog 47 = some (ac47.strip, [.tmp 2], 9) := by kernel_rfl
theorem ok47 : ac47.okAll = true := by kernel_rfl

/-- abugida/abugidaref09.Name -/
def ac48 : AC := (.ghost (.keep [0])
  (.seq (.reg [⟨some 2, .mov (.c (.bool false)), none, []⟩])
  (.ghost (.keep [0]) (.seq (.seq (.reg [⟨some 6, .mov (.v 0), none, []⟩,
    ⟨some 7, .len true (.v 6), none, [0]⟩,
    ⟨some 8, .bin .lss (.v 7) (.c (.int .i64 1)), none, [1]⟩,
    ⟨some 9, .mov (.v 8), none, [2]⟩,
    ⟨some 10, .mov (.v 0), some (9, false), [3]⟩,
    ⟨some 11, .len true (.v 10), some (9, false), [4, 3]⟩,
    ⟨some 12, .bin .gtr (.v 11) (.c (.int .i64 12)), some (9, false), [5, 3]⟩,
    ⟨some 13, .pick (.v 9) (.c (.bool true)) (.v 12), none, [3, 6]⟩,
    ⟨some 14, .mov (.v 13), none, [7, 3]⟩,
    ⟨some 15, .mov (.v 0), some (14, false), [8]⟩,
    ⟨some 16, .idxS (.v 15) (.c (.int .i64 0)), some (14, false), [9, 8]⟩,
    ⟨some 17, .bin .lss (.v 16) (.c (.int .u8 97)), some (14, false), [10, 8]⟩,
    ⟨some 18, .pick (.v 14) (.c (.bool true)) (.v 17), none, [8, 11]⟩,
    ⟨some 19, .mov (.v 18), none, [12, 8]⟩,
    ⟨some 20, .mov (.v 0), some (19, false), [13]⟩,
    ⟨some 21, .idxS (.v 20) (.c (.int .i64 0)), some (19, false), [14, 13]⟩,
    ⟨some 22, .bin .gtr (.v 21) (.c (.int .u8 122)), some (19, false), [15, 13]⟩,
    ⟨some 23, .pick (.v 19) (.c (.bool true)) (.v 22), none, [13, 16]⟩])
  (.ghost (.keep [0, 23]) (.cond (.v 23)
  (.seq (.reg [⟨some 2, .mov (.c (.bool false)), none, []⟩])
  (.ghost (.keep [2]) .ret))
  .skip)))
  (.ghost (.keep [0]) (.seq (.seq (.reg [⟨some 3, .mov (.c (.int .i64 0)), none, []⟩])
  (.ghost (.keep [0, 3]) (.block 0 (.loop (.ghost (.keep [0, 3]) (.seq (.seq (.reg [⟨some 24, .mov (.v 3), none, []⟩,
    ⟨some 25, .mov (.v 0), none, []⟩,
    ⟨some 26, .len true (.v 25), none, [1]⟩,
    ⟨some 27, .bin .lss (.v 24) (.v 26), none, [0, 2]⟩])
  (.ghost (.keep [0, 3, 27]) (.cond (.v 27)
  .skip
  (.exit 0))))
  (.ghost (.keep [0, 3]) (.seq (.block 1 (.seq (.reg [⟨some 30, .mov (.v 0), none, []⟩,
    ⟨some 31, .mov (.v 3), none, []⟩,
    ⟨some 32, .idxS (.v 30) (.v 31), none, [0, 1]⟩,
    ⟨some 33, .bin .geq (.v 32) (.c (.int .u8 97)), none, [2]⟩,
    ⟨some 34, .mov (.v 33), none, [3]⟩,
    ⟨some 35, .mov (.v 0), some (34, true), [4]⟩,
    ⟨some 36, .mov (.v 3), some (34, true), [4]⟩,
    ⟨some 37, .idxS (.v 35) (.v 36), some (34, true), [5, 6, 4]⟩,
    ⟨some 38, .bin .leq (.v 37) (.c (.int .u8 122)), some (34, true), [7, 4]⟩,
    ⟨some 39, .pick (.v 34) (.v 38) (.c (.bool false)), none, [4, 8]⟩,
    ⟨some 4, .mov (.v 39), none, [9, 4, 0, 1, 2, 3, 4, 5, 6, 7, 8, 9]⟩])
  (.ghost (.keep [0, 3, 4]) (.seq (.reg [⟨some 40, .mov (.v 0), none, []⟩,
    ⟨some 41, .mov (.v 3), none, []⟩,
    ⟨some 42, .idxS (.v 40) (.v 41), none, [0, 1]⟩,
    ⟨some 43, .bin .geq (.v 42) (.c (.int .u8 48)), none, [2]⟩,
    ⟨some 44, .mov (.v 43), none, [3]⟩,
    ⟨some 45, .mov (.v 0), some (44, true), [4]⟩,
    ⟨some 46, .mov (.v 3), some (44, true), [4]⟩,
    ⟨some 47, .idxS (.v 45) (.v 46), some (44, true), [5, 6, 4]⟩,
    ⟨some 48, .bin .leq (.v 47) (.c (.int .u8 57)), some (44, true), [7, 4]⟩,
    ⟨some 49, .pick (.v 44) (.v 48) (.c (.bool false)), none, [4, 8]⟩,
    ⟨some 5, .mov (.v 49), none, [9, 4, 0, 1, 2, 3, 4, 5, 6, 7, 8, 9]⟩])
  (.ghost (.keep [0, 3, 4, 5]) (.seq (.reg [⟨some 50, .mov (.v 4), none, []⟩,
    ⟨some 51, .un .not (.v 50), none, [0]⟩,
    ⟨some 52, .mov (.v 51), none, [1]⟩,
    ⟨some 53, .mov (.v 5), some (52, true), [2]⟩,
    ⟨some 54, .un .not (.v 53), some (52, true), [3, 2]⟩,
    ⟨some 55, .pick (.v 52) (.v 54) (.c (.bool false)), none, [2, 4]⟩])
  (.ghost (.keep [0, 3, 55]) (.cond (.v 55)
  (.seq (.reg [⟨some 2, .mov (.c (.bool false)), none, []⟩])
  (.ghost (.keep [2]) .ret))
  .skip))))))))
  (.ghost (.keep [0, 3]) (.reg [⟨some 28, .mov (.v 3), none, []⟩,
    ⟨some 29, .bin .add (.v 28) (.c (.int .i64 1)), none, [0]⟩,
    ⟨some 3, .mov (.v 29), none, [1, 0, 1]⟩]))))))))))
  (.ghost (.keep []) (.seq (.reg [⟨some 2, .mov (.c (.bool true)), none, []⟩])
  (.ghost (.keep [2]) .ret)))))))))
theorem fn48 : factOf Tryd.prog 48 = some (ac48.strip, [.tmp 2], 56) := by kernel_rfl
theorem ok48 : ac48.okAll = true := by kernel_rfl

/-- abugida/fix.Clamp -/
def ac49 : AC := (.ghost (.keep [0, 1, 2])
  (.seq (.reg [⟨some 6, .mov (.c (.int .i64 0)), none, []⟩])
  (.ghost (.keep [0, 1, 2]) (.seq (.reg [⟨some 7, .mov (.v 1), none, []⟩,
    ⟨some 8, .mov (.v 0), none, []⟩,
    ⟨some 9, .mov (.v 2), none, []⟩,
    ⟨some 10, .mm false (.v 8) (.v 9), none, [1, 2]⟩,
    ⟨some 11, .mm true (.v 7) (.v 10), none, [0, 3]⟩,
    ⟨some 6, .mov (.v 11), none, [4, 0, 1, 2, 3, 4]⟩])
  (.ghost (.keep [6]) .ret)))))
theorem fn49 : factOf Tryd.prog 49 = some (ac49.strip, [.tmp 6], 12) := by kernel_rfl
theorem ok49 : ac49.okAll = true := by kernel_rfl

/-- sort.Search -/
def ac50 : AC := (.ghost (.keep [0, 1])
  (.seq (.reg [⟨some 4, .mov (.c (.int .i64 0)), none, []⟩])
  (.ghost (.keep [0, 1]) (.seq (.reg [⟨some 8, .mov (.v 0), none, []⟩,
    ⟨some 5, .mov (.c (.int .i64 0)), none, []⟩,
    ⟨some 6, .mov (.v 8), none, [0, 1, 0, 1]⟩])
  (.ghost (.keep [1, 5, 6]) (.seq (.block 0 (.loop (.ghost (.keep [1, 5, 6]) (.seq (.seq (.reg [⟨some 9, .mov (.v 5), none, []⟩,
    ⟨some 10, .mov (.v 6), none, []⟩,
    ⟨some 11, .bin .lss (.v 9) (.v 10), none, [0, 1]⟩])
  (.ghost (.keep [1, 5, 6, 11]) (.cond (.v 11)
  .skip
  (.exit 0))))
  (.ghost (.keep [1, 5, 6]) (.block 1 (.seq (.reg [⟨some 12, .mov (.v 5), none, []⟩,
    ⟨some 13, .mov (.v 6), none, []⟩,
    ⟨some 14, .bin .add (.v 12) (.v 13), none, [0, 1]⟩,
    ⟨some 15, .conv .u64 (.v 14), none, [2]⟩,
    ⟨some 16, .bin .shr (.v 15) (.c (.int .u64 1)), none, [3]⟩,
    ⟨some 17, .conv .i64 (.v 16), none, [4]⟩,
    ⟨some 7, .mov (.v 17), none, [5, 0, 1, 2, 3, 4, 5]⟩])
  (.ghost (.keep [1, 5, 6, 7]) (.seq (.reg [⟨some 18, .mov (.v 1), none, []⟩,
    ⟨some 19, .mov (.v 7), none, []⟩,
    ⟨some 20, .callv (.v 18) [.v 19], none, [0, 1]⟩,
    ⟨some 21, .un .not (.v 20), none, [2]⟩])
  (.ghost (.keep [1, 5, 6, 7, 21]) (.cond (.v 21)
  (.reg [⟨some 22, .mov (.v 7), none, []⟩,
    ⟨some 23, .bin .add (.v 22) (.c (.int .i64 1)), none, [0]⟩,
    ⟨some 5, .mov (.v 23), none, [1, 0, 1]⟩])
  (.reg [⟨some 24, .mov (.v 7), none, []⟩,
    ⟨some 6, .mov (.v 24), none, [0, 0]⟩]))))))))))))
  (.ghost (.keep [5]) (.seq (.reg [⟨some 25, .mov (.v 5), none, []⟩,
    ⟨some 4, .mov (.v 25), none, [0, 0]⟩])
  (.ghost (.keep [4]) .ret)))))))))
theorem fn50 : factOf Tryd.prog 50 = some (ac50.strip, [.tmp 4], 26) := by kernel_rfl
theorem ok50 : ac50.okAll = true := by kernel_rfl

/-- abugida/axes.Normal$1 -/
def ac51 : AC := (.ghost (.keep [0, 1, 2])
  (.seq (.reg [⟨some 4, .mov (.c (.bool false)), none, []⟩])
  (.ghost (.keep [0, 1, 2]) (.seq (.draw [⟨⟨some 5, .faddr 4 (.v 1), none, []⟩, [7, 11], [], [], [], 2⟩,
    ⟨⟨some 6, .load false 1 (.v 5), none, [0]⟩, [7, 11], [], [], [], 2⟩,
    ⟨⟨some 7, .mov (.v 0), none, []⟩, [5, 6, 11], [], [], [0, 1], 2⟩,
    ⟨⟨some 8, .iaddr 2 (.v 6) (.v 7), none, [1, 2]⟩, [11], [], [], [], 2⟩,
    ⟨⟨some 9, .iaddrA 1 2 (.v 8) (.c (.int .i64 0)), none, [3]⟩, [11], [], [], [], 2⟩,
    ⟨⟨some 10, .load false 1 (.v 9), none, [4]⟩, [11], [], [], [], 2⟩,
    ⟨⟨some 11, .load false 1 (.v 2), none, []⟩, [5, 6, 7, 8, 9, 10], [], [], [0, 1, 2, 3, 4, 5], 2⟩,
    ⟨⟨some 12, .bin .geq (.v 10) (.v 11), none, [5, 6]⟩, [], [], [], [], 2⟩,
    ⟨⟨some 4, .mov (.v 12), none, [7, 0, 1, 2, 3, 4, 5, 6, 7]⟩, [], [], [], [], 2⟩])
  (.ghost (.keep [4]) .ret)))))
theorem fn51 : factOf Tryd.prog 51 = some (ac51.strip, [.tmp 4], 13) := by kernel_rfl
theorem ok51 : ac51.okAll = true := by kernel_rfl

/-- abugida/abugidaref01.Line -/
def ac52 : AC := (.ghost (.keep [0, 1, 2])
  (.seq (.reg [⟨some 4, .box (.v 1), none, []⟩,
    ⟨some 5, .box (.v 2), none, []⟩,
    ⟨some 6, .mov (.c (.int .i64 0)), none, []⟩,
    ⟨some 7, .mov (.c (.bool false)), none, [2]⟩])
  (.ghost (.keep [0, 4, 5]) (.seq (.reg [⟨some 11, .mov (.v 0), none, []⟩,
    ⟨some 12, .call 67 [.v 11], none, [0]⟩,
    ⟨some 13, .mov (.v 12), none, [1, 1]⟩,
    ⟨some 14, .iaddrA 1 2 (.v 4) (.c (.int .i64 0)), some (13, true), [2]⟩,
    ⟨some 15, .load false 1 (.v 14), some (13, true), [3, 2]⟩,
    ⟨some 16, .call 67 [.v 15], some (13, true), [4, 2, 2]⟩,
    ⟨some 17, .pick (.v 13) (.v 16) (.c (.bool false)), none, [2, 5]⟩,
    ⟨some 18, .mov (.v 17), none, [6, 5]⟩,
    ⟨some 19, .iaddrA 1 2 (.v 4) (.c (.int .i64 1)), some (18, true), [7]⟩,
    ⟨some 20, .load false 1 (.v 19), some (18, true), [8, 7]⟩,
    ⟨some 21, .call 67 [.v 20], some (18, true), [9, 7, 7]⟩,
    ⟨some 22, .pick (.v 18) (.v 21) (.c (.bool false)), none, [7, 10]⟩,
    ⟨some 23, .mov (.v 22), none, [11, 10]⟩,
    ⟨some 24, .iaddrA 1 2 (.v 5) (.c (.int .i64 0)), some (23, true), [12]⟩,
    ⟨some 25, .load false 1 (.v 24), some (23, true), [13, 12]⟩,
    ⟨some 26, .call 67 [.v 25], some (23, true), [14, 12, 12]⟩,
    ⟨some 27, .pick (.v 23) (.v 26) (.c (.bool false)), none, [12, 15]⟩,
    ⟨some 28, .mov (.v 27), none, [16, 15]⟩,
    ⟨some 29, .iaddrA 1 2 (.v 5) (.c (.int .i64 1)), some (28, true), [17]⟩,
    ⟨some 30, .load false 1 (.v 29), some (28, true), [18, 17]⟩,
    ⟨some 31, .call 67 [.v 30], some (28, true), [19, 17, 17]⟩,
    ⟨some 32, .pick (.v 28) (.v 31) (.c (.bool false)), none, [17, 20]⟩,
    ⟨some 8, .mov (.v 32), none, [21, 20, 0, 1, 2, 3, 4, 5, 6, 7, 8, 9, 10, 11, 12, 13, 14, 15, 16, 17, 18, 19, 20, 21]⟩])
  (.ghost (.keep [0, 4, 5, 8]) (.seq (.seq (.reg [⟨some 33, .mov (.v 8), none, []⟩,
    ⟨some 34, .un .not (.v 33), none, [0]⟩,
    ⟨some 35, .mov (.v 34), none, [1]⟩,
    ⟨some 36, .iaddrA 1 2 (.v 4) (.c (.int .i64 0)), some (35, false), [2]⟩,
    ⟨some 37, .load false 1 (.v 36), some (35, false), [3, 2]⟩,
    ⟨some 38, .iaddrA 1 2 (.v 5) (.c (.int .i64 0)), some (35, false), [2]⟩,
    ⟨some 39, .load false 1 (.v 38), some (35, false), [5, 2]⟩,
    ⟨some 40, .bin .geq (.v 37) (.v 39), some (35, false), [4, 6, 2]⟩,
    ⟨some 41, .pick (.v 35) (.c (.bool true)) (.v 40), none, [2, 7]⟩,
    ⟨some 42, .mov (.v 41), none, [8, 2]⟩,
    ⟨some 43, .mov (.v 0), some (42, false), [9]⟩,
    ⟨some 44, .iaddrA 1 2 (.v 4) (.c (.int .i64 0)), some (42, false), [9]⟩,
    ⟨some 45, .load false 1 (.v 44), some (42, false), [11, 9]⟩,
    ⟨some 46, .bin .lss (.v 43) (.v 45), some (42, false), [10, 12, 9]⟩,
    ⟨some 47, .pick (.v 42) (.c (.bool true)) (.v 46), none, [9, 13]⟩,
    ⟨some 48, .mov (.v 47), none, [14, 9]⟩,
    ⟨some 49, .mov (.v 0), some (48, false), [15]⟩,
    ⟨some 50, .iaddrA 1 2 (.v 5) (.c (.int .i64 0)), some (48, false), [15]⟩,
    ⟨some 51, .load false 1 (.v 50), some (48, false), [17, 15]⟩,
    ⟨some 52, .bin .gtr (.v 49) (.v 51), some (48, false), [16, 18, 15]⟩,
    ⟨some 53, .pick (.v 48) (.c (.bool true)) (.v 52), none, [15, 19]⟩])
  (.ghost (.keep [0, 4, 5, 53]) (.cond (.v 53)
  (.seq (.reg [⟨some 6, .mov (.c (.int .i64 0)), none, []⟩,
    ⟨some 7, .mov (.c (.bool false)), none, [0, 0]⟩])
  (.ghost (.keep [6, 7]) .ret))
  .skip)))
  (.ghost (.keep [0, 4, 5]) (.seq (.reg [⟨some 54, .iaddrA 1 2 (.v 5) (.c (.int .i64 0)), none, []⟩,
    ⟨some 55, .load false 1 (.v 54), none, [0]⟩,
    ⟨some 56, .iaddrA 1 2 (.v 4) (.c (.int .i64 0)), none, []⟩,
    ⟨some 57, .load false 1 (.v 56), none, [2]⟩,
    ⟨some 58, .bin .sub (.v 55) (.v 57), none, [1, 3]⟩,
    ⟨some 9, .mov (.v 58), none, [4, 0, 1, 2, 3, 4]⟩])
  (.ghost (.keep [0, 4, 5, 9]) (.seq (.reg [⟨some 59, .iaddrA 1 2 (.v 5) (.c (.int .i64 1)), none, []⟩,
    ⟨some 60, .load false 1 (.v 59), none, [0]⟩,
    ⟨some 61, .iaddrA 1 2 (.v 4) (.c (.int .i64 1)), none, []⟩,
    ⟨some 62, .load false 1 (.v 61), none, [2]⟩,
    ⟨some 63, .bin .sub (.v 60) (.v 62), none, [1, 3]⟩,
    ⟨some 10, .mov (.v 63), none, [4, 0, 1, 2, 3, 4]⟩])
  (.ghost (.keep [0, 4, 9, 10]) (.seq (.reg [⟨some 64, .iaddrA 1 2 (.v 4) (.c (.int .i64 1)), none, []⟩,
    ⟨some 65, .load false 1 (.v 64), none, [0]⟩,
    ⟨some 66, .mov (.v 9), none, []⟩,
    ⟨some 67, .bin .mul (.v 65) (.v 66), none, [1, 2]⟩,
    ⟨some 68, .mov (.v 0), none, []⟩,
    ⟨some 69, .iaddrA 1 2 (.v 4) (.c (.int .i64 0)), none, []⟩,
    ⟨some 70, .load false 1 (.v 69), none, [5]⟩,
    ⟨some 71, .bin .sub (.v 68) (.v 70), none, [4, 6]⟩,
    ⟨some 72, .mov (.v 10), none, []⟩,
    ⟨some 73, .bin .mul (.v 71) (.v 72), none, [7, 8]⟩,
    ⟨some 74, .bin .add (.v 67) (.v 73), none, [3, 9]⟩,
    ⟨some 75, .mov (.v 9), none, []⟩,
    ⟨some 76, .call 79 [.v 74, .v 75], none, [10, 11]⟩,
    ⟨some 77, .ext (.v 76) 0, none, [12]⟩,
    ⟨some 78, .ext (.v 76) 1, none, [12]⟩,
    ⟨some 6, .mov (.v 77), none, [13, 12, 0, 1, 2, 3, 4, 5, 6, 7, 8, 9, 10, 11, 12, 13, 14]⟩,
    ⟨some 7, .mov (.v 78), none, [14, 15, 0, 1, 2, 3, 4, 5, 6, 7, 8, 9, 10, 11, 12, 13, 14, 15]⟩])
  (.ghost (.keep [6, 7]) .ret)))))))))))))
theorem fn52 : factOf Tryd.prog 52 = some (ac52.strip, [.tmp 6, .tmp 7], 79) := by kernel_rfl
theorem ok52 : ac52.okAll = true := by kernel_rfl

/-- abugida/fix.small -/
def ac53 : AC := (.ghost (.keep [0])
  (.seq (.reg [⟨some 2, .mov (.c (.bool false)), none, []⟩])
  (.ghost (.keep [0]) (.seq (.seq (.reg [⟨some 5, .mov (.v 0), none, []⟩,
    ⟨some 6, .len false (.v 5), none, [0]⟩,
    ⟨some 7, .mov (.c (.int .i64 0)), none, []⟩])
  (.ghost (.keep [5, 6, 7]) (.block 0 (.loop (.ghost (.keep [5, 6, 7]) (.seq (.reg [⟨some 8, .bin .lss (.v 7) (.v 6), none, []⟩])
  (.ghost (.keep [5, 6, 7, 8]) (.seq (.cond (.v 8)
  .skip
  (.exit 0))
  (.ghost (.keep [5, 6, 7]) (.seq (.block 1 (.seq (.reg [⟨some 9, .iaddr 1 (.v 5) (.v 7), none, []⟩,
    ⟨some 10, .load false 1 (.v 9), none, [0]⟩,
    ⟨some 4, .mov (.v 10), none, [1, 0, 1]⟩])
  (.ghost (.keep [4, 5, 6, 7]) (.seq (.reg [⟨some 11, .mov (.v 4), none, []⟩,
    ⟨some 12, .bin .lss (.v 11) (.c (.int .i64 (-1048576))), none, [0]⟩,
    ⟨some 13, .mov (.v 12), none, [1]⟩,
    ⟨some 14, .mov (.v 4), some (13, false), [2]⟩,
    ⟨some 15, .bin .gtr (.v 14) (.c (.int .i64 1048576)), some (13, false), [3, 2]⟩,
    ⟨some 16, .pick (.v 13) (.c (.bool true)) (.v 15), none, [2, 4]⟩])
  (.ghost (.keep [5, 6, 7, 16]) (.cond (.v 16)
  (.seq (.reg [⟨some 2, .mov (.c (.bool false)), none, []⟩])
  (.ghost (.keep [2]) .ret))
  .skip))))))
  (.ghost (.keep [5, 6, 7]) (.reg [⟨some 17, .bin .add (.v 7) (.c (.int .i64 1)), none, []⟩,
    ⟨some 7, .mov (.v 17), none, [0]⟩]))))))))))))
  (.ghost (.keep []) (.seq (.reg [⟨some 2, .mov (.c (.bool true)), none, []⟩])
  (.ghost (.keep [2]) .ret)))))))
theorem fn53 : factOf Tryd.prog 53 = some (ac53.strip, [.tmp 2], 18) := by kernel_rfl
theorem ok53 : ac53.okAll = true := by kernel_rfl

/-- abugida/fix.Round -/
def ac54 : AC := (.ghost (.keep [0, 1])
  (.seq (.reg [⟨some 4, .mov (.c (.int .i64 0)), none, []⟩,
    ⟨some 5, .mov (.c (.bool false)), none, [0]⟩])
  (.ghost (.keep [0, 1]) (.seq (.reg [⟨some 6, .build [.nfn] [(0, 1, .c (.clo (.func 80) [] []))], none, []⟩,
    ⟨some 7, .mov (.v 0), none, []⟩,
    ⟨some 8, .mov (.v 1), none, []⟩,
    ⟨some 9, .call 81 [.v 6, .v 7, .v 8], none, [0, 1, 2]⟩,
    ⟨some 10, .ext (.v 9) 0, none, [3]⟩,
    ⟨some 11, .ext (.v 9) 1, none, [3]⟩,
    ⟨some 4, .mov (.v 10), none, [4, 3, 0, 1, 2, 3, 4, 5]⟩,
    ⟨some 5, .mov (.v 11), none, [5, 6, 0, 1, 2, 3, 4, 5, 6]⟩])
  (.ghost (.keep [4, 5]) .ret)))))
theorem fn54 : factOf Tryd.prog 54 = some (ac54.strip, [.tmp 4, .tmp 5], 12) := by kernel_rfl
theorem ok54 : ac54.okAll = true := by kernel_rfl

/-- abugida/abugidaref09.madeTent -/
def ac55 : AC := (.ghost (.keep [0, 1, 2])
  (.seq (.reg [⟨some 6, .alloc [.int .i64 0, .int .i64 0, .int .i64 0], none, []⟩])
  (.ghost (.keep [0, 1, 2, 6]) (.seq (.reg [⟨some 10, .mov (.v 0), none, []⟩,
    ⟨some 11, .bin .rem (.v 10) (.c (.int .i64 129)), none, [0]⟩,
    ⟨some 12, .bin .sub (.v 11) (.c (.int .i64 64)), none, [1]⟩,
    ⟨some 13, .bslice 3 1 7 [.int .i64 0, .int .i64 0, .int .i64 0, .int .i64 0, .int .i64 0, .int .i64 0, .int .i64 0] [(0, 1, .c (.int .i64 0)), (1, 1, .c (.int .i64 0)), (2, 1, .c (.int .i64 64)), (3, 1, .c (.int .i64 (-64))), (4, 1, .c (.int .i64 32)), (5, 1, .c (.int .i64 (-16))), (6, 1, .v 12)], none, [2]⟩,
    ⟨some 14, .mov (.v 0), none, []⟩,
    ⟨some 15, .bin .quo (.v 14) (.c (.int .i64 129)), none, [4]⟩,
    ⟨some 16, .bin .rem (.v 15) (.c (.int .i64 7)), none, [5]⟩,
    ⟨some 17, .iaddr 1 (.v 13) (.v 16), none, [3, 6]⟩,
    ⟨some 18, .load false 1 (.v 17), none, [7]⟩,
    ⟨some 7, .mov (.v 18), none, [8, 0, 1, 2, 3, 4, 5, 6, 7, 8]⟩])
  (.ghost (.keep [1, 2, 6, 7]) (.seq (.reg [⟨some 19, .mov (.v 1), none, []⟩,
    ⟨some 20, .bin .rem (.v 19) (.c (.int .i64 65)), none, [0]⟩,
    ⟨some 8, .mov (.v 20), none, [1, 0, 1]⟩])
  (.ghost (.keep [2, 6, 7, 8]) (.seq (.reg [⟨some 21, .mov (.v 2), none, []⟩,
    ⟨some 22, .bin .rem (.v 21) (.c (.int .i64 65)), none, [0]⟩,
    ⟨some 9, .mov (.v 22), none, [1, 0, 1]⟩])
  (.ghost (.keep [6, 7, 8, 9]) (.seq (.seq (.reg [⟨some 23, .mov (.v 7), none, []⟩,
    ⟨some 24, .bin .gtr (.v 23) (.c (.int .i64 0)), none, [0]⟩])
  (.ghost (.keep [6, 7, 8, 9, 24]) (.cond (.v 24)
  (.seq (.reg [⟨some 25, .mov (.v 8), none, []⟩,
    ⟨some 26, .mov (.v 7), none, []⟩,
    ⟨some 27, .mm false (.v 25) (.v 26), none, [0, 1]⟩,
    ⟨some 28, .mov (.v 7), none, []⟩,
    ⟨some 29, .mov (.v 9), none, []⟩,
    ⟨some 30, .mov (.v 7), none, []⟩,
    ⟨some 31, .mm true (.v 29) (.v 30), none, [4, 5]⟩,
    ⟨some 32, .build [.int .i64 0, .int .i64 0, .int .i64 0] [(0, 1, .v 27), (1, 1, .v 28), (2, 1, .v 31)], none, [2, 3, 6]⟩,
    ⟨none, .store 3 (.v 6) (.v 32), none, [7, 0, 1, 2, 3, 4, 5, 6, 7]⟩])
  (.ghost (.keep [6]) .ret))
  .skip)))
  (.ghost (.keep [6, 7, 8, 9]) (.seq (.seq (.reg [⟨some 33, .mov (.v 7), none, []⟩,
    ⟨some 34, .bin .lss (.v 33) (.c (.int .i64 0)), none, [0]⟩])
  (.ghost (.keep [6, 7, 8, 9, 34]) (.cond (.v 34)
  (.seq (.reg [⟨some 35, .mov (.v 8), none, []⟩,
    ⟨some 36, .un .neg (.v 35), none, [0]⟩,
    ⟨some 37, .mov (.v 7), none, []⟩,
    ⟨some 38, .mm false (.v 36) (.v 37), none, [1, 2]⟩,
    ⟨some 39, .mov (.v 7), none, []⟩,
    ⟨some 40, .mov (.v 9), none, []⟩,
    ⟨some 41, .un .neg (.v 40), none, [5]⟩,
    ⟨some 42, .mov (.v 7), none, []⟩,
    ⟨some 43, .mm true (.v 41) (.v 42), none, [6, 7]⟩,
    ⟨some 44, .build [.int .i64 0, .int .i64 0, .int .i64 0] [(0, 1, .v 38), (1, 1, .v 39), (2, 1, .v 43)], none, [3, 4, 8]⟩,
    ⟨none, .store 3 (.v 6) (.v 44), none, [9, 0, 1, 2, 3, 4, 5, 6, 7, 8, 9]⟩])
  (.ghost (.keep [6]) .ret))
  .skip)))
  (.ghost (.keep [6, 8, 9]) (.seq (.reg [⟨some 45, .mov (.v 8), none, []⟩,
    ⟨some 46, .un .neg (.v 45), none, [0]⟩,
    ⟨some 47, .mov (.v 9), none, []⟩,
    ⟨some 48, .build [.int .i64 0, .int .i64 0, .int .i64 0] [(0, 1, .v 46), (1, 1, .c (.int .i64 0)), (2, 1, .v 47)], none, [1, 2]⟩,
    ⟨none, .store 3 (.v 6) (.v 48), none, [3, 0, 1, 2, 3]⟩])
  (.ghost (.keep [6]) .ret)))))))))))))))
theorem fn55 : factOf Tryd.prog 55 = some (ac55.strip, [.cell 6 true 3], 49) := by kernel_rfl
theorem ok55 : ac55.okAll = true := by kernel_rfl

/-- abugida/axes.Right$1 -/
def ac56 : AC := (.ghost (.keep [0])
  (.seq (.reg [⟨some 1, .box (.v 0), none, []⟩,
    ⟨some 2, .mov (.c (.bool false)), none, []⟩])
  (.ghost (.keep [1]) (.seq (.reg [⟨some 3, .load true 3 (.v 1), none, []⟩,
    ⟨some 4, .call 57 [.v 3], none, [0]⟩,
    ⟨some 5, .un .not (.v 4), none, [1]⟩,
    ⟨some 2, .mov (.v 5), none, [2, 1, 0, 1, 2]⟩])
  (.ghost (.keep [2]) .ret)))))
theorem fn56 : factOf Tryd.prog 56 = some (ac56.strip, [.tmp 2], 6) := by kernel_rfl
theorem ok56 : ac56.okAll = true := by kernel_rfl

/-- abugida/axes.right -/
def ac57 : AC := (.ghost (.keep [0])
  (.seq (.reg [⟨some 1, .box (.v 0), none, []⟩,
    ⟨some 2, .mov (.c (.bool false)), none, []⟩])
  (.ghost (.keep [1]) (.seq (.reg [⟨some 3, .faddr 0 (.v 1), none, []⟩,
    ⟨some 4, .load false 1 (.v 3), none, [0]⟩,
    ⟨some 5, .call 47 [.v 4], none, [1]⟩,
    ⟨some 6, .mov (.v 5), none, [2, 2]⟩,
    ⟨some 7, .faddr 0 (.v 1), some (6, true), [3]⟩,
    ⟨some 8, .load false 1 (.v 7), some (6, true), [4, 3]⟩,
    ⟨some 9, .faddr 1 (.v 1), some (6, true), [3]⟩,
    ⟨some 10, .load false 1 (.v 9), some (6, true), [6, 3]⟩,
    ⟨some 11, .bin .leq (.v 8) (.v 10), some (6, true), [5, 7, 3]⟩,
    ⟨some 12, .pick (.v 6) (.v 11) (.c (.bool false)), none, [3, 8]⟩,
    ⟨some 13, .mov (.v 12), none, [9, 3]⟩,
    ⟨some 14, .faddr 1 (.v 1), some (13, true), [10]⟩,
    ⟨some 15, .load false 1 (.v 14), some (13, true), [11, 10]⟩,
    ⟨some 16, .faddr 2 (.v 1), some (13, true), [10]⟩,
    ⟨some 17, .load false 1 (.v 16), some (13, true), [13, 10]⟩,
    ⟨some 18, .bin .leq (.v 15) (.v 17), some (13, true), [12, 14, 10]⟩,
    ⟨some 19, .pick (.v 13) (.v 18) (.c (.bool false)), none, [10, 15]⟩,
    ⟨some 20, .mov (.v 19), none, [16, 10]⟩,
    ⟨some 21, .faddr 2 (.v 1), some (20, true), [17]⟩,
    ⟨some 22, .load false 1 (.v 21), some (20, true), [18, 17]⟩,
    ⟨some 23, .call 47 [.v 22], some (20, true), [19, 17, 17]⟩,
    ⟨some 24, .pick (.v 20) (.v 23) (.c (.bool false)), none, [17, 20]⟩,
    ⟨some 25, .mov (.v 24), none, [21, 20]⟩,
    ⟨some 26, .faddr 1 (.v 1), some (25, true), [22]⟩,
    ⟨some 27, .load false 1 (.v 26), some (25, true), [23, 22]⟩,
    ⟨some 28, .bin .eql (.v 27) (.c (.int .i64 0)), some (25, true), [24, 22]⟩,
    ⟨some 29, .mov (.v 28), some (25, true), [25, 22, 22]⟩,
    ⟨some 30, .faddr 0 (.v 1), some (29, false), [26]⟩,
    ⟨some 31, .load false 1 (.v 30), some (29, false), [27, 26]⟩,
    ⟨some 32, .bin .geq (.v 31) (.c (.int .i64 0)), some (29, false), [28, 26]⟩,
    ⟨some 33, .pick (.v 29) (.c (.bool true)) (.v 32), some (25, true), [26, 29, 22]⟩,
    ⟨some 34, .mov (.v 33), some (25, true), [30, 26, 22]⟩,
    ⟨some 35, .faddr 2 (.v 1), some (34, false), [31]⟩,
    ⟨some 36, .load false 1 (.v 35), some (34, false), [32, 31]⟩,
    ⟨some 37, .bin .leq (.v 36) (.c (.int .i64 0)), some (34, false), [33, 31]⟩,
    ⟨some 38, .pick (.v 34) (.c (.bool true)) (.v 37), some (25, true), [31, 34, 22]⟩,
    ⟨some 39, .pick (.v 25) (.v 38) (.c (.bool false)), none, [22, 35]⟩,
    ⟨some 2, .mov (.v 39), none, [36, 31, 0, 1, 2, 3, 4, 5, 6, 7, 8, 9, 10, 11, 12, 13, 14, 15, 16, 17, 18, 19, 20, 21, 22, 23, 24, 25, 26, 27, 28, 29, 30, 31, 32, 33, 34, 35, 36]⟩])
  (.ghost (.keep [2]) .ret)))))
theorem fn57 : factOf Tryd.prog 57 = some (ac57.strip, [.tmp 2], 40) := by kernel_rfl
theorem ok57 : ac57.okAll = true := by kernel_rfl

/-- slices.ContainsFunc[[]abugida/api.Tent,abugida/api.Tent] -/
def ac58 : AC := (.ghost (.keep [0, 1])
  (.seq (.reg [⟨some 4, .mov (.c (.bool false)), none, []⟩])
  (.ghost (.keep [0, 1]) (.seq (.reg [⟨some 5, .mov (.v 0), none, []⟩,
    ⟨some 6, .mov (.v 1), none, []⟩,
    ⟨some 7, .call 82 [.v 5, .v 6], none, [0, 1]⟩,
    ⟨some 8, .bin .geq (.v 7) (.c (.int .i64 0)), none, [2]⟩,
    ⟨some 4, .mov (.v 8), none, [3, 2, 0, 1, 2, 3]⟩])
  (.ghost (.keep [4]) .ret)))))
theorem fn58 : factOf Tryd.prog 58 = some (ac58.strip, [.tmp 4], 9) := by kernel_rfl
theorem ok58 : ac58.okAll = true := by kernel_rfl

/-- abugida/abugidaref09.tent -/
def ac59 : AC := (.ghost (.keep [0])
  (.seq (.reg [⟨some 1, .box (.v 0), none, []⟩,
    ⟨some 2, .mov (.c (.bool false)), none, []⟩])
  (.ghost (.keep [1]) (.seq (.reg [⟨some 3, .faddr 0 (.v 1), none, []⟩,
    ⟨some 4, .load false 1 (.v 3), none, [0]⟩,
    ⟨some 5, .bin .leq (.c (.int .i64 (-64))) (.v 4), none, [1]⟩,
    ⟨some 6, .mov (.v 5), none, [2]⟩,
    ⟨some 7, .faddr 0 (.v 1), some (6, true), [3]⟩,
    ⟨some 8, .load false 1 (.v 7), some (6, true), [4, 3]⟩,
    ⟨some 9, .faddr 1 (.v 1), some (6, true), [3]⟩,
    ⟨some 10, .load false 1 (.v 9), some (6, true), [6, 3]⟩,
    ⟨some 11, .bin .leq (.v 8) (.v 10), some (6, true), [5, 7, 3]⟩,
    ⟨some 12, .pick (.v 6) (.v 11) (.c (.bool false)), none, [3, 8]⟩,
    ⟨some 13, .mov (.v 12), none, [9, 3]⟩,
    ⟨some 14, .faddr 1 (.v 1), some (13, true), [10]⟩,
    ⟨some 15, .load false 1 (.v 14), some (13, true), [11, 10]⟩,
    ⟨some 16, .faddr 2 (.v 1), some (13, true), [10]⟩,
    ⟨some 17, .load false 1 (.v 16), some (13, true), [13, 10]⟩,
    ⟨some 18, .bin .leq (.v 15) (.v 17), some (13, true), [12, 14, 10]⟩,
    ⟨some 19, .pick (.v 13) (.v 18) (.c (.bool false)), none, [10, 15]⟩,
    ⟨some 20, .mov (.v 19), none, [16, 10]⟩,
    ⟨some 21, .faddr 2 (.v 1), some (20, true), [17]⟩,
    ⟨some 22, .load false 1 (.v 21), some (20, true), [18, 17]⟩,
    ⟨some 23, .bin .leq (.v 22) (.c (.int .i64 64)), some (20, true), [19, 17]⟩,
    ⟨some 24, .pick (.v 20) (.v 23) (.c (.bool false)), none, [17, 20]⟩,
    ⟨some 25, .mov (.v 24), none, [21, 17]⟩,
    ⟨some 26, .faddr 1 (.v 1), some (25, true), [22]⟩,
    ⟨some 27, .load false 1 (.v 26), some (25, true), [23, 22]⟩,
    ⟨some 28, .bin .eql (.v 27) (.c (.int .i64 0)), some (25, true), [24, 22]⟩,
    ⟨some 29, .mov (.v 28), some (25, true), [25, 22, 22]⟩,
    ⟨some 30, .faddr 0 (.v 1), some (29, false), [26]⟩,
    ⟨some 31, .load false 1 (.v 30), some (29, false), [27, 26]⟩,
    ⟨some 32, .bin .geq (.v 31) (.c (.int .i64 0)), some (29, false), [28, 26]⟩,
    ⟨some 33, .pick (.v 29) (.c (.bool true)) (.v 32), some (25, true), [26, 29, 22]⟩,
    ⟨some 34, .mov (.v 33), some (25, true), [30, 26, 22]⟩,
    ⟨some 35, .faddr 2 (.v 1), some (34, false), [31]⟩,
    ⟨some 36, .load false 1 (.v 35), some (34, false), [32, 31]⟩,
    ⟨some 37, .bin .leq (.v 36) (.c (.int .i64 0)), some (34, false), [33, 31]⟩,
    ⟨some 38, .pick (.v 34) (.c (.bool true)) (.v 37), some (25, true), [31, 34, 22]⟩,
    ⟨some 39, .pick (.v 25) (.v 38) (.c (.bool false)), none, [22, 35]⟩,
    ⟨some 2, .mov (.v 39), none, [36, 31, 0, 1, 2, 3, 4, 5, 6, 7, 8, 9, 10, 11, 12, 13, 14, 15, 16, 17, 18, 19, 20, 21, 22, 23, 24, 25, 26, 27, 28, 29, 30, 31, 32, 33, 34, 35, 36]⟩])
  (.ghost (.keep [2]) .ret)))))
theorem fn59 : factOf Tryd.prog 59 = some (ac59.strip, [.tmp 2], 40) := by kernel_rfl
theorem ok59 : ac59.okAll = true := by kernel_rfl

/-- abugida/axes.coords -/
def ac60 : AC := (.ghost (.keep [0])
  (.seq (.reg [⟨some 2, .mov (.c (.bool false)), none, []⟩])
  (.ghost (.keep [0]) (.seq (.reg [⟨some 3, .mov (.v 0), none, []⟩,
    ⟨some 4, .len false (.v 3), none, [0]⟩,
    ⟨some 5, .bin .leq (.v 4) (.c (.int .i64 3)), none, [1]⟩,
    ⟨some 6, .mov (.v 5), none, [2]⟩,
    ⟨some 7, .mov (.v 0), some (6, true), [3]⟩,
    ⟨some 8, .call 83 [.v 7, .c (.clo (.func 84) [] [])], some (6, true), [4, 3, 3]⟩,
    ⟨some 9, .un .not (.v 8), some (6, true), [5, 3]⟩,
    ⟨some 10, .pick (.v 6) (.v 9) (.c (.bool false)), none, [3, 6]⟩,
    ⟨some 2, .mov (.v 10), none, [7, 5, 0, 1, 2, 3, 4, 5, 6, 7]⟩])
  (.ghost (.keep [2]) .ret)))))
theorem fn60 : factOf Tryd.prog 60 = some (ac60.strip, [.tmp 2], 11) := by kernel_rfl
theorem ok60 : ac60.okAll = true := by kernel_rfl

end Go.Abs.A09
