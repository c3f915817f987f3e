/- A part of the proof: an abstract reading of the model, contracts of functions. -/
import Derived.Test.YtnonjaonklngpaaDoorP6
import Derived.Test.YtnonjaonklngpaaDoorProg
namespace Go.Abs.A09
open Go Go.Abs Go.Proofs
set_option maxRecDepth 100000
set_option linter.unusedVariables false
set_option linter.unusedSimpArgs false
attribute [local simp ↓] awp_skip awp_seq awp_cond awp_block awp_exit awp_ret awp_reg awp_draw awp_ghost awp_loop awp_rfun awpR_nil awpR_cons awpX_nil awpX_0 awpX_1 awpX_2 awpI_eq awpI_t awpI_f awpStep_eq
attribute [local simp] condL_true condL_false condL_dec evDel evV evN evS evA initFr Ghost.app Fr.var Fr.blk Fr.ff FF.val Abs.look Fr.app Fr.erase Fr.noSlot AV.noSlot AV.noSlotL Blk.noSlot Fr.spoken AV.fz AV.fzL Blk.fz binV binI shI binS unV fillA FF.parts FF.vals headO intO boundO lenV scalarEq leavesEq AV.aggc AV.cells FF.read FF.rows AV.one PV.one chunk freshB newS pickV retK evRs evRl evR resOf mkTup mkAgg allP cloOf okP_nil okX_p okX okP addN Del.noSlot Del.owners Rnd reify_p normM insM Fr.back Fr.backV Fr.setPs normV insV
/-- What is right up to a point. -/
def pre (m : List (Int × Int)) (k : Nat) : Prop := (∀ p ∈ m.take k, CO p.2) ∧ ∀ i x y, i + 1 < k → m[i]? = some x → m[i + 1]? = some y → UP x y
theorem pre_all {m : List (Int × Int)} (h : pre m m.length) : (∀ p ∈ m, CO p.2) ∧ ∀ x ∈ m.zip m.tail, UP x.1 x.2 := by
  refine ⟨fun p hp => h.1 p (by rwa [List.take_length]), fun x hx => ?_⟩
  obtain ⟨i, hi⟩ := List.getElem?_of_mem hx
  obtain ⟨x1, x2⟩ := x
  have : m[i]? = some x1 ∧ m.tail[i]? = some x2 := by
    simp only [List.zip, List.getElem?_zipWith] at hi
    cases h1 : m[i]? <;> cases h2 : m.tail[i]? <;> simp [h1, h2] at hi
    obtain ⟨rfl, rfl⟩ := hi
    exact ⟨rfl, rfl⟩
  have h2 := this.2
  rw [List.getElem?_tail] at h2
  exact h.2 i x1 x2 (List.getElem?_eq_some_iff.1 h2).1 this.1 h2
set_option maxHeartbeats 2000000 in
theorem b15 (a : Ax) (hl : a.m.length ≤ 9223372036854775807) (hnl : a.nm.length ≤ 9223372036854775807) : Best Tryd.prog 15 [.agg (axC a)] (.p (.int .i64 (chkS a))) := by
  refine best mixed fn15 ok15 (by simp) ?_
  obtain ⟨nm, lo, df, hi, m⟩ := a
  dsimp only at hl
  simp -dsimp [ac15, axC]
  refine call_p (b48 nm hnl) rfl (by simp) ?_
  cases hn : nmB nm with
  | false =>
    have := chk_name (a := ⟨nm, lo, df, hi, m⟩) hn
    simp -dsimp [this]
  | true =>
  have no : ¬ AXP ⟨nm, lo, df, hi, m⟩ → chkS ⟨nm, lo, df, hi, m⟩ = 10 := chk_no hn
  by_cases q1 : lo < -10000
  · have := no fun h => by have := h.b1; dsimp only at this; omega
    simp -dsimp [q1, this]
  by_cases q2 : df < lo
  · have := no fun h => by have := h.b2; dsimp only at this; omega
    simp -dsimp [q1, q2, this]
  by_cases q3 : hi < df
  · have := no fun h => by have := h.b3; dsimp only at this; omega
    simp -dsimp [q1, q2, q3, this]
  by_cases q4 : 10000 < hi
  · have := no fun h => by have := h.b4; dsimp only at this; omega
    simp -dsimp [q1, q2, q3, q4, this]
  by_cases q5 : (m.length : Int) < 1
  · have := no fun h => by have := h.n1; dsimp only at this; omega
    simp -dsimp [q1, q2, q3, q4, q5, this]
  by_cases q6 : 6 < (m.length : Int)
  · have := no fun h => by have := h.n2; dsimp only at this; omega
    simp -dsimp [q1, q2, q3, q4, q5, q6, this]
  have hm0 : 0 < m.length := by omega
  obtain ⟨⟨x1, x2⟩, ex⟩ : ∃ x, m[0] = x := ⟨_, rfl⟩
  have hx : m[0]? = some (x1, x2) := by rw [List.getElem?_eq_getElem hm0, ex]
  obtain ⟨⟨y1, y2⟩, ey⟩ : ∃ x, m[m.length - 1] = x := ⟨_, rfl⟩
  have hy : m[m.length - 1]? = some (y1, y2) := by rw [List.getElem?_eq_getElem (by omega), ey]
  have g0 : m.getD 0 (0, 0) = (x1, x2) := by simp [List.getD, hx]
  have gl : m.getD (m.length - 1) (0, 0) = (y1, y2) := by simp [List.getD, hy]
  by_cases q7 : x1 = lo
  rotate_left
  · have := no fun h => by have := h.f0; dsimp only at this; rw [g0] at this; exact q7 this
    simp -dsimp [q1, q2, q3, q4, q5, q6, hm0, ex, pRow, q7, this]
  have w1 : R ((m.length : Int) - 1) := ⟨by omega, by omega⟩
  have c1 : (0 : Int) ≤ (m.length : Int) - 1 := by omega
  have c2 : ((m.length : Int) - 1).toNat = m.length - 1 := by omega
  have c3 : m.length - 1 < m.length := by omega
  have c4 : (1 : Int) ≤ (m.length : Int) := by omega
  by_cases q8 : y1 = hi
  rotate_left
  · have := no fun h => by have := h.fl; dsimp only at this; rw [gl] at this; exact q8 this
    simp -dsimp [q1, q2, q3, q4, q5, q6, hm0, ex, pRow, q7, wr w1, c1, c2, c3, c4, ey, hy, q8, this]
  simp -dsimp [q1, q2, q3, q4, q5, q6, hm0, ex, pRow, q7, wr w1, c1, c2, c3, c4, ey, hy, q8]
  have ci : ∀ k : Nat, (decide ((df, (0 : Int)) ∈ m.take k)) = (m.take k).any fun p => decide (p.1 = df) && decide (p.2 = 0) := fun k => by
    rw [Bool.eq_iff_iff]
    simp only [List.any_eq_true, Bool.and_eq_true, decide_eq_true_eq]
    constructor
    · intro h; exact ⟨_, h, rfl, rfl⟩
    · rintro ⟨⟨p1, p2⟩, h1, rfl, rfl⟩; exact h1
  refine loopC m.length (fun k => ⟨[(1, .ptr (1, 0) 5 0 0), (4, .p (.int .i64 m.length)), (5, .p (.bool (decide ((df, (0 : Int)) ∈ m.take k)))), (6, .p (.int .i64 k))], [((1, 0), .box [.p (.str (ba nm)), .p (.int .i64 lo), .p (.int .i64 df), .p (.int .i64 hi), .p (.sl 2 (m.map pRow))])]⟩) (fun k => pre m k) (fun k hk hpre => ?_) ⟨by simp, fun i _ _ h => by omega⟩ (by simp)
  by_cases h : k < m.length
  · obtain ⟨⟨u1, u2⟩, eu⟩ : ∃ x, m[k] = x := ⟨_, rfl⟩
    have hu : m[k]? = some (u1, u2) := by rw [List.getElem?_eq_getElem h, eu]
    have w : R ((k : Int) + 1) := ⟨by omega, by omega⟩
    have cz : decide ((df, (0 : Int)) ∈ m.take (k + 1)) = (decide ((df, (0 : Int)) ∈ m.take k) || (decide (u1 = df) && decide (u2 = 0))) := by
      rw [ci, ci, List.take_add_one, hu]; simp
    have noc : ¬ CO u2 → chkS ⟨nm, lo, df, hi, m⟩ = 10 := fun h1 => no fun h2 => h1 (h2.co _ (List.mem_of_getElem? hu))
    simp -dsimp [h, eu, pRow]
    refine call_p (b19' u2) rfl (by simp) ?_
    by_cases r1 : CO u2
    rotate_left
    · have := noc r1
      simp -dsimp [r1, this]
    have fin : ∀ (hp : pre m (k + 1)), True := fun _ => trivial
    generalize decide ((df, (0 : Int)) ∈ m.take k) = z at cz ⊢
    generalize decide ((df, (0 : Int)) ∈ m.take (k + 1)) = z' at cz ⊢
    by_cases r2 : k = 0
    · subst r2
      have hp : pre m (0 + 1) := ⟨take_succ_all (p := fun p : Int × Int => CO p.2) hu hpre.1 r1, fun i _ _ h => by omega⟩
      cases z with
      | true =>
        rw [Bool.true_or] at cz
        simp -dsimp [r1, wr w, cz, hm0]; exact ⟨hp, wr ⟨by omega, by omega⟩⟩
      | false =>
        rw [Bool.false_or] at cz
        simp -dsimp [r1, wr w, cz, hm0]; exact ⟨hp, wr ⟨by omega, by omega⟩⟩
    · have hk0 : (0 : Int) < k := by omega
      have hk0n : 0 < k := by omega
      have d1n : 1 ≤ k := by omega
      have w2 : R ((k : Int) - 1) := ⟨by omega, by omega⟩
      have d1 : (1 : Int) ≤ k := by omega
      have d1' : (0 : Int) ≤ (k : Int) - 1 := by omega
      have d2 : ((k : Int) - 1).toNat = k - 1 := by omega
      have d3 : k - 1 < m.length := by omega
      obtain ⟨⟨t1, t2⟩, et⟩ : ∃ x, m[k - 1] = x := ⟨_, rfl⟩
      have hT : m[k - 1]? = some (t1, t2) := by rw [List.getElem?_eq_getElem d3, et]
      have hu' : m[k - 1 + 1]? = some (u1, u2) := by rw [show k - 1 + 1 = k by omega]; exact hu
      have bad : ¬ UP (t1, t2) (u1, u2) → chkS ⟨nm, lo, df, hi, m⟩ = 10 := fun h1 => no fun h2 => h1 (up_get h2.up hT hu')
      by_cases r3 : u1 ≤ t1
      · have := bad fun h => by have := h.1; dsimp only at this; omega
        simp -dsimp [r1, hk0, hk0n, d1n, wr w2, d1, d1', d2, d3, et, hT, pRow, r3, this]
      by_cases r4 : u2 < t2
      · have := bad fun h => by have := h.2; dsimp only at this; omega
        simp -dsimp [r1, hk0, hk0n, d1n, wr w2, d1, d1', d2, d3, et, hT, pRow, r3, r4, this]
      have hup : UP (t1, t2) (u1, u2) := ⟨by dsimp only; omega, by dsimp only; omega⟩
      have hp : pre m (k + 1) := ⟨take_succ_all (p := fun p : Int × Int => CO p.2) hu hpre.1 r1, fun i x y hi' h1 h2 => by
        by_cases hik : i + 1 = k
        · have : i = k - 1 := by omega
          subst this
          rw [hT] at h1; rw [hu'] at h2
          simp at h1 h2; subst h1 h2; exact hup
        · exact hpre.2 i x y (by omega) h1 h2⟩
      cases z with
      | true =>
        rw [Bool.true_or] at cz
        simp -dsimp [r1, hk0, hk0n, d1n, wr w, wr w2, d1, d1', d2, d3, et, hT, pRow, r3, r4, cz, h]; exact hp
      | false =>
        rw [Bool.false_or] at cz
        simp -dsimp [r1, hk0, hk0n, d1n, wr w, wr w2, d1, d1', d2, d3, et, hT, pRow, r3, r4, cz, h]; exact hp
  · have : k = m.length := by omega
    subst this
    obtain ⟨p1, p2⟩ := pre_all hpre
    rw [List.take_length]
    by_cases q9 : (df, (0 : Int)) ∈ m
    · have : chkS ⟨nm, lo, df, hi, m⟩ = 0 := chk_ok hn ⟨by dsimp only; omega, by dsimp only; omega, by dsimp only; omega, by dsimp only; omega, by dsimp only; omega, by dsimp only; omega, by dsimp only; rw [g0]; exact q7, by dsimp only; rw [gl]; exact q8, q9, p2, p1⟩
      simp -dsimp [q9, this]
    · have := no fun h => q9 h.dm
      simp -dsimp [q9, this]
end Go.Abs.A09
namespace Go.Abs.A09
open Go Go.Abs Go.Proofs
set_option maxRecDepth 100000
set_option linter.unusedVariables false
set_option linter.unusedSimpArgs false
attribute [local simp ↓] awp_skip awp_seq awp_cond awp_block awp_exit awp_ret awp_reg awp_draw awp_ghost awp_loop awp_rfun awpR_nil awpR_cons awpX_nil awpX_0 awpX_1 awpX_2 awpI_eq awpI_t awpI_f awpStep_eq
attribute [local simp] condL_true condL_false condL_dec evDel evV evN evS evA initFr Ghost.app Fr.var Fr.blk Fr.ff FF.val Abs.look Fr.app Fr.erase Fr.noSlot AV.noSlot AV.noSlotL Blk.noSlot Fr.spoken AV.fz AV.fzL Blk.fz binV binI shI binS unV fillA FF.parts FF.vals headO intO boundO lenV scalarEq leavesEq AV.aggc AV.cells FF.read FF.rows AV.one PV.one chunk freshB newS pickV retK evRs evRl evR resOf mkTup mkAgg allP cloOf okP_nil okX_p okX okP addN Del.noSlot Del.owners Rnd reify_p normM insM Fr.back Fr.backV Fr.setPs normV insV
noncomputable def lineS (x f0 f1 t0 t1 : Int) : Int × Bool :=
  if SM x ∧ SM f0 ∧ SM f1 ∧ SM t0 ∧ SM t1 ∧ f0 < t0 ∧ f0 ≤ x ∧ x ≤ t0 then (f1 + roundS ((x - f0) * (t1 - f1)) (t0 - f0), true) else (0, false)
theorem roundS_add {a n d : Int} (hd : 1 ≤ d) : roundS (a * d + n) d = a + roundS n d := by
  unfold roundS
  have e1 : (a * d + n) % d = n % d := by rw [Int.add_comm, Int.mul_comm]; exact Int.add_mul_emod_self_left n d a
  have e2 : (a * d + n) / d = a + n / d := by
    rw [Int.add_comm (a * d), Int.add_mul_ediv_right _ _ (by omega)]; omega
  rw [e1, e2]
  split <;> omega
theorem lineB {x f0 f1 t0 t1 : Int} (h0 : SM x) (h1 : SM f0) (h2 : SM f1) (h3 : SM t0) (h4 : SM t1) (h5 : f0 < t0) (h6 : f0 ≤ x) (h7 : x ≤ t0) :
    -4398046511104 ≤ (x - f0) * (t1 - f1) ∧ (x - f0) * (t1 - f1) ≤ 4398046511104 ∧ -4398046511104 ≤ f1 * (t0 - f0) ∧ f1 * (t0 - f0) ≤ 4398046511104 := by
  unfold SM at *
  have a1 : (x - f0) * (-2097152) ≤ (x - f0) * (t1 - f1) := Int.mul_le_mul_of_nonneg_left (by omega) (by omega)
  have a2 : (x - f0) * (t1 - f1) ≤ (x - f0) * 2097152 := Int.mul_le_mul_of_nonneg_left (by omega) (by omega)
  have a3 : (-1048576) * (t0 - f0) ≤ f1 * (t0 - f0) := Int.mul_le_mul_of_nonneg_right (by omega) (by omega)
  have a4 : f1 * (t0 - f0) ≤ 1048576 * (t0 - f0) := Int.mul_le_mul_of_nonneg_right (by omega) (by omega)
  omega
theorem lineN {x f0 f1 t0 t1 : Int} (h : ¬ (SM x ∧ SM f0 ∧ SM f1 ∧ SM t0 ∧ SM t1 ∧ f0 < t0 ∧ f0 ≤ x ∧ x ≤ t0)) : lineS x f0 f1 t0 t1 = (0, false) := if_neg h
theorem roundS_bd {n d m : Int} (hd : 1 ≤ d) (h1 : -m ≤ n) (h2 : n ≤ m) (hm : 0 ≤ m) : -m - 1 ≤ roundS n d ∧ roundS n d ≤ m + 1 := by
  have a1 := ediv_le (n := n) (d := d) h2 hm hd
  have a2 : -m ≤ n / d := by
    refine Int.le_ediv_of_mul_le (by omega) ?_
    have : (-m) * d ≤ (-m) * 1 := Int.mul_le_mul_of_nonpos_left (by omega) hd
    omega
  unfold roundS
  split <;> omega
theorem b53t (ns : List Int) (hl : ns.length ≤ 9223372036854775807) (h : ∀ n ∈ ns, SM n) : Best Tryd.prog 53 [.sl 1 (ns.map intRow)] (.p (.bool true)) := by
  have := b53 ns hl; rwa [decide_eq_true h] at this
theorem b53f (ns : List Int) (hl : ns.length ≤ 9223372036854775807) (h : ¬ ∀ n ∈ ns, SM n) : Best Tryd.prog 53 [.sl 1 (ns.map intRow)] (.p (.bool false)) := by
  have := b53 ns hl; rwa [decide_eq_false h] at this
theorem b18 {x f0 f1 t0 t1 : Int} : Best Tryd.prog 18 [.int .i64 x, .agg [.int .i64 f0, .int .i64 f1], .agg [.int .i64 t0, .int .i64 t1]] (.p (.tup [.int .i64 (lineS x f0 f1 t0 t1).1, .bool (lineS x f0 f1 t0 t1).2])) := by
  refine best mixed fn18 ok18 (by simp) ?_
  simp -dsimp [ac18]
  by_cases h : ∀ n ∈ [x, f0, f1, t0, t1], SM n
  · refine call_f (b53t [x, f0, f1, t0, t1] (by simp) h) (by simp [FF.reifyL, FF.reify, FF.rows, Fr.ff, Fr.blk, Fr.app, look, chunk, intRow, List.range, List.range.loop]) rfl (by simp) ?_
    have h' := h
    simp only [List.mem_cons, List.not_mem_nil, or_false, forall_eq_or_imp, forall_eq] at h'
    obtain ⟨s0, s1, s2, s3, s4⟩ := h'
    by_cases h5 : f0 ≥ t0
    · have e := lineN (x := x) (f0 := f0) (f1 := f1) (t0 := t0) (t1 := t1) (by omega)
      simp -dsimp [h5, e]
    · by_cases h6 : x < f0
      · have e := lineN (x := x) (f0 := f0) (f1 := f1) (t0 := t0) (t1 := t1) (by omega)
        simp -dsimp [h5, h6, e]
      · by_cases h7 : x > t0
        · have e := lineN (x := x) (f0 := f0) (f1 := f1) (t0 := t0) (t1 := t1) (by omega)
          simp -dsimp [h5, h6, h7, e]
        · have hb := lineB s0 s1 s2 s3 s4 (by omega) (by omega) (by omega)
          have e : lineS x f0 f1 t0 t1 = (f1 + roundS ((x - f0) * (t1 - f1)) (t0 - f0), true) := if_pos ⟨s0, s1, s2, s3, s4, by omega, by omega, by omega⟩
          have hr := roundS_bd (n := (x - f0) * (t1 - f1)) (d := t0 - f0) (m := 4398046511104) (by omega) (by omega) (by omega) (by omega)
          unfold SM at s0 s1 s2 s3 s4
          have w1 : R (x - f0) := ⟨by omega, by omega⟩
          have w2 : R (t1 - f1) := ⟨by omega, by omega⟩
          have w3 : R (t0 - f0) := ⟨by omega, by omega⟩
          have w4 : R ((x - f0) * (t1 - f1)) := ⟨by omega, by omega⟩
          have w5 : R (f1 + roundS ((x - f0) * (t1 - f1)) (t0 - f0)) := ⟨by omega, by omega⟩
          simp -dsimp [h5, h6, h7, e, wr w1, wr w2, wr w3, wr w4]
          refine call_p (b54 w4 (by omega) w3) rfl (by simp) ?_
          have d1 : ¬ t0 - f0 < 1 := by omega
          have d2 : 1 ≤ t0 - f0 := by omega
          simp -dsimp [d1, d2, wr w5, e]
  · have e := lineN (x := x) (f0 := f0) (f1 := f1) (t0 := t0) (t1 := t1) (fun q => h (by simp [q]))
    refine call_f (b53f [x, f0, f1, t0, t1] (by simp) h) (by simp [FF.reifyL, FF.reify, FF.rows, Fr.ff, Fr.blk, Fr.app, look, chunk, intRow, List.range, List.range.loop]) rfl (by simp) ?_
    simp -dsimp [e]
theorem b67' (n : Int) : Best Tryd.prog 67 [.int .i64 n] (.p (.bool (decide (SM n)))) := by
  have e : (decide (-1048576 ≤ n) && decide (n ≤ 1048576)) = decide (SM n) := by rw [← Bool.decide_and]; rfl
  rw [← e]; exact b67 n
theorem b52 {x f0 f1 t0 t1 : Int} : Best Tryd.prog 52 [.int .i64 x, .agg [.int .i64 f0, .int .i64 f1], .agg [.int .i64 t0, .int .i64 t1]] (.p (.tup [.int .i64 (lineS x f0 f1 t0 t1).1, .bool (lineS x f0 f1 t0 t1).2])) := by
  refine best mixed fn52 ok52 (by simp) ?_
  simp -dsimp [ac52]
  refine call_p (b67' x) rfl (by simp) ?_
  by_cases s0 : SM x
  rotate_left
  · have e := lineN (x := x) (f0 := f0) (f1 := f1) (t0 := t0) (t1 := t1) (fun q => s0 q.1)
    simp -dsimp [s0, e]
  simp -dsimp [s0]
  refine call_p (b67' f0) rfl (by simp) ?_
  by_cases s1 : SM f0
  rotate_left
  · have e := lineN (x := x) (f0 := f0) (f1 := f1) (t0 := t0) (t1 := t1) (fun q => s1 q.2.1)
    simp -dsimp [s1, e]
  simp -dsimp [s1]
  refine call_p (b67' f1) rfl (by simp) ?_
  by_cases s2 : SM f1
  rotate_left
  · have e := lineN (x := x) (f0 := f0) (f1 := f1) (t0 := t0) (t1 := t1) (fun q => s2 q.2.2.1)
    simp -dsimp [s2, e]
  simp -dsimp [s2]
  refine call_p (b67' t0) rfl (by simp) ?_
  by_cases s3 : SM t0
  rotate_left
  · have e := lineN (x := x) (f0 := f0) (f1 := f1) (t0 := t0) (t1 := t1) (fun q => s3 q.2.2.2.1)
    simp -dsimp [s3, e]
  simp -dsimp [s3]
  refine call_p (b67' t1) rfl (by simp) ?_
  by_cases s4 : SM t1
  rotate_left
  · have e := lineN (x := x) (f0 := f0) (f1 := f1) (t0 := t0) (t1 := t1) (fun q => s4 q.2.2.2.2.1)
    simp -dsimp [s4, e]
  by_cases h5 : f0 ≥ t0
  · have e := lineN (x := x) (f0 := f0) (f1 := f1) (t0 := t0) (t1 := t1) (by omega)
    simp -dsimp [s4, h5, e]
  by_cases h6 : x < f0
  · have e := lineN (x := x) (f0 := f0) (f1 := f1) (t0 := t0) (t1 := t1) (by omega)
    simp -dsimp [s4, h5, h6, e]
  by_cases h7 : x > t0
  · have e := lineN (x := x) (f0 := f0) (f1 := f1) (t0 := t0) (t1 := t1) (by omega)
    simp -dsimp [s4, h5, h6, h7, e]
  have hb := lineB s0 s1 s2 s3 s4 (by omega) (by omega) (by omega)
  have e : lineS x f0 f1 t0 t1 = (f1 + roundS ((x - f0) * (t1 - f1)) (t0 - f0), true) := if_pos ⟨s0, s1, s2, s3, s4, by omega, by omega, by omega⟩
  have ra := roundS_add (a := f1) (n := (x - f0) * (t1 - f1)) (d := t0 - f0) (by omega)
  have s4' := s4
  unfold SM at s0 s1 s2 s3 s4'
  have w1 : R (x - f0) := ⟨by omega, by omega⟩
  have w2 : R (t1 - f1) := ⟨by omega, by omega⟩
  have w3 : R (t0 - f0) := ⟨by omega, by omega⟩
  have w4 : R ((x - f0) * (t1 - f1)) := ⟨by omega, by omega⟩
  have w5 : R (f1 * (t0 - f0)) := ⟨by omega, by omega⟩
  have w6 : R (f1 * (t0 - f0) + (x - f0) * (t1 - f1)) := ⟨by omega, by omega⟩
  simp -dsimp [s4, h5, h6, h7, e, wr w1, wr w2, wr w3, wr w4, wr w5, wr w6]
  refine call_p (b79 w6 (by omega) w3) rfl (by simp) ?_
  have d1 : ¬ t0 - f0 < 1 := by omega
  have d2 : 1 ≤ t0 - f0 := by omega
  simp -dsimp [d1, d2, ra, e]
end Go.Abs.A09
namespace Go.Abs.A09
open Go Go.Abs Go.Proofs
set_option maxRecDepth 100000
set_option linter.unusedVariables false
set_option linter.unusedSimpArgs false
attribute [local simp ↓] awp_skip awp_seq awp_cond awp_block awp_exit awp_ret awp_reg awp_draw awp_ghost awp_loop awp_rfun awpR_nil awpR_cons awpX_nil awpX_0 awpX_1 awpX_2 awpI_eq awpI_t awpI_f awpStep_eq
attribute [local simp] condL_true condL_false condL_dec evDel evV evN evS evA initFr Ghost.app Fr.var Fr.blk Fr.ff FF.val Abs.look Fr.app Fr.erase Fr.noSlot AV.noSlot AV.noSlotL Blk.noSlot Fr.spoken AV.fz AV.fzL Blk.fz binV binI shI binS unV fillA FF.parts FF.vals headO intO boundO lenV scalarEq leavesEq AV.aggc AV.cells FF.read FF.rows AV.one PV.one chunk freshB newS pickV retK evRs evRl evR resOf mkTup mkAgg allP cloOf okP_nil okX_p okX okP addN Del.noSlot Del.owners Rnd reify_p normM insM Fr.back Fr.backV Fr.setPs normV insV
attribute [local simp] FF.reify FF.reifyL PV.flat
/-- Where a choice lies among the points. -/
def seat (m : List (Int × Int)) (x : Int) : Nat := m.findIdx fun p => decide (x ≤ p.1)
open Classical in
noncomputable def normS (a : Ax) (v : Int) : Int :=
  if chkS a = 0 then
    (if (a.m.getD (seat a.m (max a.lo (min v a.hi))) (0, 0)).1 = max a.lo (min v a.hi) then (a.m.getD (seat a.m (max a.lo (min v a.hi))) (0, 0)).2
     else (lineS (max a.lo (min v a.hi)) (a.m.getD (seat a.m (max a.lo (min v a.hi)) - 1) (0, 0)).1 (a.m.getD (seat a.m (max a.lo (min v a.hi)) - 1) (0, 0)).2 (a.m.getD (seat a.m (max a.lo (min v a.hi))) (0, 0)).1 (a.m.getD (seat a.m (max a.lo (min v a.hi))) (0, 0)).2).1)
  else 0
theorem getD_of {m : List (Int × Int)} {i : Nat} {x : Int × Int} (h : m[i]? = some x) : m.getD i (0, 0) = x := by simp [List.getD, h]
/-- What is known of the seat. -/
theorem seat_spec {a : Ax} (hA : AXP a) {x : Int} (h1 : a.lo ≤ x) (h2 : x ≤ a.hi) : seat a.m x < a.m.length ∧ (∀ i, i < seat a.m x → (a.m.getD i (0, 0)).1 < x) ∧ (∀ i, seat a.m x ≤ i → i < a.m.length → x ≤ (a.m.getD i (0, 0)).1) ∧ (seat a.m x = 0 → (a.m.getD 0 (0, 0)).1 = x) := by
  have hn := hA.n1
  have hlt : seat a.m x < a.m.length := by
    rw [seat, List.findIdx_lt_length]
    refine ⟨a.m[a.m.length - 1], by simp, ?_⟩
    have := hA.fl
    rw [getD_of (List.getElem?_eq_getElem (by omega : a.m.length - 1 < a.m.length))] at this
    simp [this, h2]
  have hpos : x ≤ (a.m.getD (seat a.m x) (0, 0)).1 := by
    rw [getD_of (List.getElem?_eq_getElem hlt)]
    have := List.findIdx_getElem (p := fun p : Int × Int => decide (x ≤ p.1)) (xs := a.m) (w := hlt)
    exact of_decide_eq_true this
  refine ⟨hlt, fun i hi => ?_, fun i hi hil => ?_, fun h0 => ?_⟩
  · have hil : i < a.m.length := by omega
    rw [getD_of (List.getElem?_eq_getElem hil)]
    have := List.not_of_lt_findIdx (p := fun p : Int × Int => decide (x ≤ p.1)) (xs := a.m) hi
    simp at this
    exact this
  · rw [getD_of (List.getElem?_eq_getElem hil)]
    rw [getD_of (List.getElem?_eq_getElem hlt)] at hpos
    have := (up_le hA.up hi (List.getElem?_eq_getElem hlt) (List.getElem?_eq_getElem hil)).1
    omega
  · rw [h0] at hpos
    have := hA.f0
    omega
theorem b51 (a : Ax) (x : Int) (i : Nat) (hi : i < a.m.length) : Best Tryd.prog 51 [.int .i64 i, .ro (axC a), .ro [.int .i64 x]] (.p (.bool (decide (x ≤ (a.m.getD i (0, 0)).1)))) := by
  refine best mixed fn51 ok51 (by simp) ?_
  obtain ⟨⟨u1, u2⟩, eu⟩ : ∃ x, a.m[i] = x := ⟨_, rfl⟩
  have hu : a.m[i]? = some (u1, u2) := by rw [List.getElem?_eq_getElem hi, eu]
  have e := getD_of hu
  obtain ⟨nm, lo, df, hi', m⟩ := a
  dsimp only at *
  simp -dsimp [ac51, axC, hi, eu, hu, pRow, e]
set_option maxHeartbeats 1000000 in
theorem b16 (a : Ax) (v : Int) (hl : a.m.length ≤ 9223372036854775807) : Best Tryd.prog 16 [.agg (axC a), .int .i64 v] (.p (.int .i64 (normS a v))) := by
  refine best mixed fn16 ok16 (by simp) ?_
  have h14 := b14 a hl
  by_cases hc : chkS a = 0
  rotate_left
  · have : normS a v = 0 := if_neg hc
    generalize chkS a = c at *
    obtain ⟨nm, lo, df, hi, m⟩ := a
    simp -dsimp [ac16, axC] at h14 ⊢
    refine call_p h14 rfl (by simp) ?_
    simp -dsimp [hc, this]
  have hA := (chk_zero.1 hc).2
  have hb1 := hA.b1
  have hb2 := hA.b2
  have hb3 := hA.b3
  have hb4 := hA.b4
  have hnorm : normS a v = _ := if_pos hc
  rw [hc] at h14
  obtain ⟨x, hx⟩ : ∃ x, max a.lo (min v a.hi) = x := ⟨_, rfl⟩
  rw [hx] at hnorm
  have h49 := b49 v a.lo a.hi
  rw [hx] at h49
  obtain ⟨p1, p2, p3, p4⟩ := seat_spec hA (x := x) (by omega) (by omega)
  have h50 := b50 (f := 51) (ca := [.ro (axC a), .ro [.int .i64 x]]) (q := fun i => decide (x ≤ (a.m.getD i (0, 0)).1)) (n := a.m.length) (by have := hA.n2; omega) (fun i hi => b51 a x i hi) (k0 := seat a.m x) (by omega) (fun i hi => decide_eq_false (by have := p2 i hi; omega)) (fun i h1 h2 => decide_eq_true (p3 i h1 h2))
  generalize seat a.m x = K at *
  obtain ⟨⟨u1, u2⟩, eu⟩ : ∃ x, a.m[K] = x := ⟨_, rfl⟩
  have hu : a.m[K]? = some (u1, u2) := by rw [List.getElem?_eq_getElem p1, eu]
  rw [getD_of hu] at hnorm
  have w1 : R ((K : Int) - 1) := ⟨by omega, by omega⟩
  have hK0 : u1 ≠ x → 1 ≤ K := fun h => by
    rcases Nat.eq_zero_or_pos K with h0 | h0
    · subst h0; have := p4 rfl; rw [getD_of hu] at this; exact absurd this h
    · exact h0
  obtain ⟨⟨t1, t2⟩, ht⟩ : ∃ z, a.m.getD (K - 1) (0, 0) = z := ⟨_, rfl⟩
  have ht' : a.m[K - 1]? = some (t1, t2) := by
    rw [List.getElem?_eq_getElem (by omega)]
    rw [getD_of (List.getElem?_eq_getElem (by omega : K - 1 < a.m.length))] at ht
    rw [ht]
  have et : ∀ h : K - 1 < a.m.length, a.m[K - 1] = (t1, t2) := fun h => by rw [List.getElem?_eq_getElem h] at ht'; simpa using ht'
  rw [ht] at hnorm
  have d3 : K - 1 < a.m.length := by omega
  have et := et d3
  clear hc hA p2 p3 p4
  obtain ⟨nm, lo, df, hi, m⟩ := a
  dsimp only at *
  simp -dsimp [ac16, axC] at h14 ⊢
  refine call_p h14 rfl (by simp) ?_
  simp -dsimp
  refine call_p h49 rfl (by simp) ?_
  simp -dsimp
  refine call_f h50 (by simp [axC]) rfl (by simp) ?_
  by_cases q : u1 = x
  · rw [if_pos q] at hnorm
    simp -dsimp [p1, eu, hu, pRow, q, hnorm]
  · rw [if_neg q] at hnorm
    have hK := hK0 q
    have d1 : (1 : Int) ≤ K := by omega
    have d1' : (0 : Int) ≤ (K : Int) - 1 := by omega
    have d2 : ((K : Int) - 1).toNat = K - 1 := by omega
    simp -dsimp [p1, eu, hu, pRow, q, wr w1, d1, d1', d2, d3, et, ht', hK]
    refine call_p b18 rfl (by simp) ?_
    simp -dsimp [hnorm]

set_option maxHeartbeats 1000000 in
theorem b17 (a : Ax) (v : Int) (hl : a.m.length ≤ 9223372036854775807) (hnl : a.nm.length ≤ 9223372036854775807) : Best Tryd.prog 17 [.agg (axC a), .int .i64 v] (.p (.int .i64 (normS a v))) := by
  refine best mixed fn17 ok17 (by simp) ?_
  have h15 := b15 a hl hnl
  by_cases hc : chkS a = 0
  rotate_left
  · have : normS a v = 0 := if_neg hc
    generalize chkS a = c at *
    obtain ⟨nm, lo, df, hi, m⟩ := a
    simp -dsimp [ac17, axC] at h15 ⊢
    refine call_p h15 rfl (by simp) ?_
    simp -dsimp [hc, this]
  have hA := (chk_zero.1 hc).2
  have hb1 := hA.b1
  have hb2 := hA.b2
  have hb3 := hA.b3
  have hb4 := hA.b4
  have hn1 := hA.n1
  have hf0 := hA.f0
  have hfl := hA.fl
  have hup := hA.up
  have hnorm : normS a v = _ := if_pos hc
  rw [hc] at h15
  obtain ⟨x, hx⟩ : ∃ x, max a.lo (min v a.hi) = x := ⟨_, rfl⟩
  rw [hx] at hnorm
  have hx1 : a.lo ≤ x := by omega
  have hx2 : x ≤ a.hi := by omega
  obtain ⟨p1, p2, p3, p4⟩ := seat_spec hA hx1 hx2
  generalize seat a.m x = K at *
  clear hc hA
  obtain ⟨nm, lo, df, hi, m⟩ := a
  dsimp only at *
  simp -dsimp [ac17, axC] at h15 ⊢
  refine call_p h15 rfl (by simp) ?_
  simp -dsimp [hx]
  refine loopC m.length (fun k => ⟨[(2, .ptr (2, 0) 5 0 0), (5, .p (.int .i64 x)), (6, .p (.int .i64 k))], [((2, 0), .box [.p (.str (ba nm)), .p (.int .i64 lo), .p (.int .i64 df), .p (.int .i64 hi), .p (.sl 2 (m.map pRow))])]⟩) (fun k => (∀ i, i < k → (m.getD i (0, 0)).1 < x) ∧ (k < m.length → (m.getD k (0, 0)).1 ≤ x)) (fun k hk hQ => ?_) ⟨fun i h => by omega, fun _ => by omega⟩ (by simp)
  obtain ⟨hQ1, hQ2⟩ := hQ
  by_cases h : k < m.length
  · obtain ⟨⟨u1, u2⟩, eu⟩ : ∃ x, m[k] = x := ⟨_, rfl⟩
    have hu : m[k]? = some (u1, u2) := by rw [List.getElem?_eq_getElem h, eu]
    have w : R ((k : Int) + 1) := ⟨by omega, by omega⟩
    have gk := getD_of hu
    by_cases q : u1 = x
    · have hKk : K = k := by
        rcases Nat.lt_trichotomy K k with h1 | h1 | h1
        · have a1 := hQ1 K h1
          have a2 := p3 K (Nat.le_refl _) p1
          omega
        · exact h1
        · have a1 := p2 k h1
          rw [gk] at a1; dsimp only at a1; omega
      subst hKk
      rw [gk, if_pos q] at hnorm
      simp -dsimp [h, eu, hu, pRow, q, hnorm]
    · have hlt : u1 < x := by have := hQ2 h; rw [gk] at this; dsimp only at this; omega
      have hk1 : k + 1 < m.length := by
        rcases Nat.lt_or_ge (k + 1) m.length with h1 | h1
        · exact h1
        · have : k = m.length - 1 := by omega
          rw [this] at gk
          rw [gk] at hfl; dsimp only at hfl; omega
      obtain ⟨⟨v1, v2⟩, ev⟩ : ∃ x, m[k + 1] = x := ⟨_, rfl⟩
      have hv : m[k + 1]? = some (v1, v2) := by rw [List.getElem?_eq_getElem hk1, ev]
      have gv := getD_of hv
      have d1 : (0 : Int) ≤ (k : Int) + 1 := by omega
      have d2 : ((k : Int) + 1).toNat = k + 1 := by omega
      by_cases r : x < v1
      · have hKk : K = k + 1 := by
          rcases Nat.lt_trichotomy K (k + 1) with h1 | h1 | h1
          · have a2 := p3 K (Nat.le_refl _) p1
            by_cases hKe : K = k
            · subst hKe; rw [gk] at a2; dsimp only at a2; omega
            · have a1 := hQ1 K (by omega); omega
          · exact h1
          · have a1 := p2 (k + 1) h1
            rw [gv] at a1; dsimp only at a1; omega
        subst hKk
        have e1 : k + 1 - 1 = k := by omega
        rw [gv, e1, gk, if_neg (by dsimp only; omega)] at hnorm
        simp -dsimp [h, eu, hu, pRow, q, hlt, wr w, d1, d2, hk1, ev, hv, r]
        refine call_p b52 rfl (by simp) ?_
        simp -dsimp [hnorm]
      · simp -dsimp [h, eu, hu, pRow, q, hlt, wr w, d1, d2, hk1, ev, hv, r]
        refine ⟨fun i hi' => ?_, ?_⟩
        · by_cases hik : i = k
          · subst hik; have := gk; simp [List.getD, hu]; exact hlt
          · have := hQ1 i (by omega); simpa [List.getD] using this
        · omega
  · exfalso
    have := hQ1 (m.length - 1) (by omega)
    omega
end Go.Abs.A09
namespace Go.Abs.A09
open Go Go.Abs Go.Proofs
set_option maxRecDepth 100000
set_option linter.unusedVariables false
set_option linter.unusedSimpArgs false
attribute [local simp ↓] awp_skip awp_seq awp_cond awp_block awp_exit awp_ret awp_reg awp_draw awp_ghost awp_loop awp_rfun awpR_nil awpR_cons awpX_nil awpX_0 awpX_1 awpX_2 awpI_eq awpI_t awpI_f awpStep_eq
attribute [local simp] condL_true condL_false condL_dec evDel evV evN evS evA initFr Ghost.app Fr.var Fr.blk Fr.ff FF.val Abs.look Fr.app Fr.erase Fr.noSlot AV.noSlot AV.noSlotL Blk.noSlot Fr.spoken AV.fz AV.fzL Blk.fz binV binI shI binS unV fillA FF.parts FF.vals headO intO boundO lenV scalarEq leavesEq AV.aggc AV.cells FF.read FF.rows AV.one PV.one chunk freshB newS pickV retK evRs evRl evR resOf mkTup mkAgg allP cloOf okP_nil okX_p okX okP addN Del.noSlot Del.owners Rnd reify_p normM insM Fr.back Fr.backV Fr.setPs normV insV
def regRow (r : List T3) : List PV := [.sl 3 (r.map tRow)]
theorem scaS_R (r : List T3) (a : List Int) : R (scaS r a).1 ∧ R (scaS r a).2 := by
  unfold scaS
  split
  · have := scaF_R r a (r.zip a).length
    unfold scaF at this
    rwa [List.take_length] at this
  · simp [R]
noncomputable def growS (rs : List (List T3)) (a : List Int) (g : Int × Int) : Option Int :=
  if 0 ≤ g.1 ∧ g.1 < rs.length ∧ RI (rs.getD g.1.toNat []) a.length ∧ (partS g.2 (scaS (rs.getD g.1.toNat []) a).1 (scaS (rs.getD g.1.toNat []) a).2).2 = true then some (partS g.2 (scaS (rs.getD g.1.toNat []) a).1 (scaS (rs.getD g.1.toNat []) a).2).1 else none
noncomputable def sumL (rs : List (List T3)) (a : List Int) (s0 : Int) (l : List (Int × Int)) : Option Int := l.foldl (fun o g => o.bind fun s => (growS rs a g).map (s + ·)) (some s0)
noncomputable def sumS (base : Int) (l : List (Int × Int)) (rs : List (List T3)) (a : List Int) : Int × Bool :=
  if SM base ∧ CL a ∧ l.length ≤ 8 then (match sumL rs a (64 * base) l with | some s => (s, true) | none => (0, false)) else (0, false)
theorem sumL_none {rs : List (List T3)} {a : List Int} : ∀ {l : List (Int × Int)}, l.foldl (fun o g => o.bind fun s => (growS rs a g).map (s + ·)) none = none
  | [] => rfl
  | g :: l => by simp only [List.foldl_cons, Option.bind_none]; exact sumL_none
theorem sumL_app {rs : List (List T3)} {a : List Int} {s0 : Int} {l m : List (Int × Int)} : sumL rs a s0 (l ++ m) = (sumL rs a s0 l).bind fun s => sumL rs a s m := by
  unfold sumL
  rw [List.foldl_append]
  cases l.foldl (fun o g => o.bind fun s => (growS rs a g).map (s + ·)) (some s0) with
  | none => rw [sumL_none]; rfl
  | some s => rfl
theorem sumL_succ {rs : List (List T3)} {a : List Int} {s0 s : Int} {l : List (Int × Int)} {k : Nat} {g : Int × Int} (hk : l[k]? = some g) (hs : sumL rs a s0 (l.take k) = some s) : sumL rs a s0 (l.take (k + 1)) = (growS rs a g).map (s + ·) := by
  rw [List.take_add_one, hk, sumL_app, hs]
  simp [sumL]
theorem sumL_fail {rs : List (List T3)} {a : List Int} {s0 s : Int} {l : List (Int × Int)} {k : Nat} {g : Int × Int} (hk : l[k]? = some g) (hs : sumL rs a s0 (l.take k) = some s) (hg : growS rs a g = none) : sumL rs a s0 l = none := by
  rw [← List.take_append_drop (k + 1) l, sumL_app, sumL_succ hk hs, hg]
  rfl
theorem partB (a n d : Int) : -17592186044417 ≤ (partS a n d).1 ∧ (partS a n d).1 ≤ 17592186044417 := by
  unfold partS
  split
  · rename_i h
    have hb := mulb h.1 h.2.2.2.1 (by have := h.2.2.1; have := h.2.2.2.2.1; omega)
    have := roundS_bd (n := 64 * a * n) (d := d) (m := 17592186044416) h.2.1 (by omega) (by omega) (by omega)
    dsimp only; omega
  · simp
theorem part1 (a : Int) : partS a 1 1 = if SM a then (64 * a, true) else (0, false) := by
  have h1 : RS 1 1 := ⟨by omega, by omega, by omega, by omega, by rw [gcdI_pos (by omega), gcdI_neg (by decide)]⟩
  unfold partS
  by_cases h : SM a
  · rw [if_pos ⟨h, h1⟩, if_pos h]
    simp [roundS, Int.emod_one]
  · rw [if_neg (fun q => h q.1), if_neg h]
theorem sumN {base : Int} {l : List (Int × Int)} {rs : List (List T3)} {a : List Int} (h : ¬ (SM base ∧ CL a ∧ l.length ≤ 8)) : sumS base l rs a = (0, false) := if_neg h
theorem b29 {base : Int} {l : List (Int × Int)} {rs : List (List T3)} {a : List Int} (hb : R base) (hl : l.length ≤ 9223372036854775807) (ha : a.length ≤ 9223372036854775807) (hrs : ∀ r ∈ rs, r.length ≤ 9223372036854775807) : Best Tryd.prog 29 [.int .i64 base, .sl 2 (l.map pRow), .sl 1 (rs.map regRow), .sl 1 (a.map intRow)] (.p (.tup [.int .i64 (sumS base l rs a).1, .bool (sumS base l rs a).2])) := by
  refine best mixed fn29 ok29 (by simp) ?_
  simp -dsimp [ac29]
  refine call_p (b66 (a := base) (n := 1) (d := 1) (by simp [R]) (by simp [R])) rfl (by simp) ?_
  rw [part1]
  by_cases h1 : SM base
  rotate_left
  · have := sumN (l := l) (rs := rs) (a := a) (fun h => h1 h.1)
    simp -dsimp [h1, this]
  simp -dsimp [h1]
  refine call_p (b60 a) rfl (by simp) ?_
  by_cases h2 : CL a
  rotate_left
  · have := sumN (base := base) (l := l) (rs := rs) (fun h => h2 h.2.1)
    simp -dsimp [h2, this]
  by_cases h3 : (8 : Int) < l.length
  · have := sumN (base := base) (rs := rs) (a := a) (l := l) (fun h => by have := h.2.2; omega)
    simp -dsimp [h2, h3, this]
  simp -dsimp [h2, h3]
  refine loopC l.length (fun k => ⟨[(2, .p (.sl 1 (rs.map regRow))), (3, .p (.sl 1 (a.map intRow))), (10, .p (.int .i64 ((sumL rs a (64 * base) (l.take k)).getD 0))), (34, .p (.sl 2 (l.map pRow))), (35, .p (.int .i64 l.length)), (36, .p (.int .i64 k))], []⟩) (fun k => ∃ s, sumL rs a (64 * base) (l.take k) = some s ∧ -17592186044417 * (k + 1) ≤ s ∧ s ≤ 17592186044417 * (k + 1)) (fun k hk hQ => ?_) ⟨64 * base, by simp [sumL], by have := h1.1; omega, by have := h1.2; omega⟩ (by simp [sumL])
  obtain ⟨s, hs, hs1, hs2⟩ := hQ
  by_cases h : k < l.length
  · obtain ⟨⟨g, y⟩, ex⟩ : ∃ x, l[k] = x := ⟨_, rfl⟩
    have hx : l[k]? = some (g, y) := by rw [List.getElem?_eq_getElem h, ex]
    have w : R ((k : Int) + 1) := ⟨by omega, by omega⟩
    have hsu := sumL_succ hx hs
    have no : growS rs a (g, y) = none → sumS base l rs a = (0, false) := fun hg => by
      unfold sumS; rw [if_pos ⟨h1, h2, by omega⟩, sumL_fail hx hs hg]
    by_cases q1 : g < 0
    · have := no (if_neg fun h => by have := h.1; dsimp only at this; omega)
      simp -dsimp [h, ex, pRow, hs, q1, this]
    by_cases q2 : (rs.length : Int) ≤ g
    · have := no (if_neg fun h => by have := h.2.1; dsimp only at this; omega)
      simp -dsimp [h, ex, pRow, hs, q1, q2, this]
    obtain ⟨m, rfl⟩ := Int.eq_ofNat_of_zero_le (by omega : 0 ≤ g)
    have hm : m < rs.length := by omega
    obtain ⟨r, er⟩ : ∃ x, rs[m] = x := ⟨_, rfl⟩
    have hmem : r ∈ rs := by rw [← er]; simp
    have hgd : rs.getD m [] = r := by simp [List.getD, hm, er]
    have hgr : growS rs a (m, y) = if RI r a.length ∧ (partS y (scaS r a).1 (scaS r a).2).2 = true then some (partS y (scaS r a).1 (scaS r a).2).1 else none := by
      unfold growS
      have c1 : (0 : Int) ≤ (m : Int) := by omega
      have c2 : (m : Int) < rs.length := by omega
      simp only [Int.toNat_natCast, hgd, c1, c2, true_and]
    have hpb := partB y (scaS r a).1 (scaS r a).2
    have hpart := b66 (a := y) (scaS_R r a).1 (scaS_R r a).2
    have hmem' := b25 r a (hrs _ hmem)
    have q1' : ¬ (m : Int) < 0 := by omega
    have hri := b23 r a.length (hrs _ hmem)
    have nl : ¬ ((rs.length : Int) ≤ m) := by omega
    have nl' : ¬ (rs.length ≤ m) := by omega
    simp -dsimp [h, ex, pRow, hs, q1', nl', hm, er, regRow]
    refine call_p hri rfl (by simp) ?_
    by_cases q3 : RI r a.length
    rotate_left
    · have := no (by rw [hgr, if_neg fun h => q3 h.1])
      simp -dsimp [q3, this]
    simp -dsimp [q3, hm, er, regRow]
    refine call_p hmem' rfl (by simp) ?_
    simp -dsimp
    generalize scaS r a = u at *
    refine call_p hpart rfl (by simp) ?_
    generalize partS y u.1 u.2 = z at *
    obtain ⟨z1, z2⟩ := z
    cases z2 with
    | false =>
      have := no (by rw [hgr, if_neg fun h => by simp at h])
      simp -dsimp [this]
    | true =>
      rw [if_pos ⟨q3, rfl⟩] at hgr
      rw [hgr] at hsu
      dsimp only [Option.map_some] at hsu hpb
      have wz : R (s + z1) := ⟨by omega, by omega⟩
      simp -dsimp [wr w, wr wz, hsu, h]
      omega
  · have : k = l.length := by omega
    subst this
    have hs' := hs
    rw [List.take_length] at hs'
    have : sumS base l rs a = (s, true) := by
      unfold sumS; rw [if_pos ⟨h1, h2, by omega⟩, hs']
    simp -dsimp [hs', this]
theorem b30 {base : Int} {l : List (Int × Int)} {rs : List (List T3)} {a : List Int} (hb : R base) (hl : l.length ≤ 9223372036854775807) (ha : a.length ≤ 9223372036854775807) (hrs : ∀ r ∈ rs, r.length ≤ 9223372036854775807) : Best Tryd.prog 30 [.int .i64 base, .sl 2 (l.map pRow), .sl 1 (rs.map regRow), .sl 1 (a.map intRow)] (.p (.tup [.int .i64 (sumS base l rs a).1, .bool (sumS base l rs a).2])) := by
  refine best mixed fn30 ok30 (by simp) ?_
  simp -dsimp [ac30]
  refine call_p (b67' base) rfl (by simp) ?_
  simp -dsimp
  refine call_p (b63 a ha) rfl (by simp) ?_
  by_cases h1 : SM base
  rotate_left
  · have := sumN (l := l) (rs := rs) (a := a) (fun h => h1 h.1)
    simp -dsimp [h1, this]
  by_cases h2 : CL a
  rotate_left
  · have := sumN (base := base) (l := l) (rs := rs) (fun h => h2 h.2.1)
    simp -dsimp [h1, h2, this]
  by_cases h3 : (8 : Int) < l.length
  · have := sumN (base := base) (rs := rs) (a := a) (l := l) (fun h => by have := h.2.2; omega)
    simp -dsimp [h1, h2, h3, this]
  have w0 : R (64 * base) := ⟨by have := h1.1; omega, by have := h1.2; omega⟩
  simp -dsimp [h1, h2, h3, wr w0]
  refine loopC l.length (fun k => ⟨[(1, .p (.sl 2 (l.map pRow))), (2, .p (.sl 1 (rs.map regRow))), (3, .p (.sl 1 (a.map intRow))), (12, .p (.int .i64 ((sumL rs a (64 * base) (l.take k)).getD 0))), (13, .p (.int .i64 k))], []⟩) (fun k => ∃ s, sumL rs a (64 * base) (l.take k) = some s ∧ -17592186044417 * (k + 1) ≤ s ∧ s ≤ 17592186044417 * (k + 1)) (fun k hk hQ => ?_) ⟨64 * base, by simp [sumL], by have := h1.1; omega, by have := h1.2; omega⟩ (by simp [sumL])
  obtain ⟨s, hs, hs1, hs2⟩ := hQ
  by_cases h : k < l.length
  · obtain ⟨⟨g, y⟩, ex⟩ : ∃ x, l[k] = x := ⟨_, rfl⟩
    have hx : l[k]? = some (g, y) := by rw [List.getElem?_eq_getElem h, ex]
    have w : R ((k : Int) + 1) := ⟨by omega, by omega⟩
    have hsu := sumL_succ hx hs
    have no : growS rs a (g, y) = none → sumS base l rs a = (0, false) := fun hg => by
      unfold sumS; rw [if_pos ⟨h1, h2, by omega⟩, sumL_fail hx hs hg]
    by_cases q1 : g < 0
    · have := no (if_neg fun h => by have := h.1; dsimp only at this; omega)
      simp -dsimp [h, ex, pRow, hs, q1, this]
    by_cases q2 : (rs.length : Int) ≤ g
    · have := no (if_neg fun h => by have := h.2.1; dsimp only at this; omega)
      simp -dsimp [h, ex, pRow, hs, q1, q2, this]
    obtain ⟨m, rfl⟩ := Int.eq_ofNat_of_zero_le (by omega : 0 ≤ g)
    have hm : m < rs.length := by omega
    obtain ⟨r, er⟩ : ∃ x, rs[m] = x := ⟨_, rfl⟩
    have hmem : r ∈ rs := by rw [← er]; simp
    have hgd : rs.getD m [] = r := by simp [List.getD, hm, er]
    have hgr : growS rs a (m, y) = if RI r a.length ∧ (partS y (scaS r a).1 (scaS r a).2).2 = true then some (partS y (scaS r a).1 (scaS r a).2).1 else none := by
      unfold growS
      have c1 : (0 : Int) ≤ (m : Int) := by omega
      have c2 : (m : Int) < rs.length := by omega
      simp only [Int.toNat_natCast, hgd, c1, c2, true_and]
    have hpb := partB y (scaS r a).1 (scaS r a).2
    have hpart := b68 (a := y) (scaS_R r a).1 (scaS_R r a).2
    have hmem' := b26 r a ha
    have q1' : ¬ (m : Int) < 0 := by omega
    have hri := b24 r a.length
    have nl : ¬ ((rs.length : Int) ≤ m) := by omega
    have nl' : ¬ (rs.length ≤ m) := by omega
    simp -dsimp [h, ex, pRow, hs, q1', nl', hm, er, regRow]
    refine call_p hri rfl (by simp) ?_
    simp -dsimp [h, ex, pRow]
    refine call_p hmem' rfl (by simp) ?_
    simp -dsimp
    generalize scaS r a = u at *
    refine call_p hpart rfl (by simp) ?_
    by_cases q3 : RI r a.length
    rotate_left
    · have := no (by rw [hgr, if_neg fun h => q3 h.1])
      simp -dsimp [q3, this]
    generalize partS y u.1 u.2 = z at *
    obtain ⟨z1, z2⟩ := z
    cases z2 with
    | false =>
      have := no (by rw [hgr, if_neg fun h => by simp at h])
      simp -dsimp [q3, this]
    | true =>
      rw [if_pos ⟨q3, rfl⟩] at hgr
      rw [hgr] at hsu
      dsimp only [Option.map_some] at hsu hpb
      have wz : R (s + z1) := ⟨by omega, by omega⟩
      simp -dsimp [q3, wr w, wr wz, hsu, h]
      omega
  · have : k = l.length := by omega
    subst this
    have hs' := hs
    rw [List.take_length] at hs'
    have : sumS base l rs a = (s, true) := by
      unfold sumS; rw [if_pos ⟨h1, h2, by omega⟩, hs']
    simp -dsimp [hs', this]
end Go.Abs.A09
namespace Go.Abs.A09
open Go Go.Abs Go.Proofs
set_option maxRecDepth 100000
set_option linter.unusedVariables false
/-- abugida/abugidalaw09.sanity -/
def ac11 : AC := (.ghost (.keep [])
  (.seq (.reg [⟨some 0, .mov (.c (.bool false)), none, []⟩])
  (.ghost (.keep []) (.seq (.reg [⟨some 9, .build [.int .i64 0, .int .i64 0] [(0, 1, .c (.int .i64 100)), (1, 1, .c (.int .i64 (-64)))], none, []⟩,
    ⟨some 10, .build [.int .i64 0, .int .i64 0] [(0, 1, .c (.int .i64 400)), (1, 1, .c (.int .i64 0))], none, []⟩,
    ⟨some 11, .build [.int .i64 0, .int .i64 0] [(0, 1, .c (.int .i64 700)), (1, 1, .c (.int .i64 16))], none, []⟩,
    ⟨some 12, .build [.int .i64 0, .int .i64 0] [(0, 1, .c (.int .i64 900)), (1, 1, .c (.int .i64 64))], none, []⟩,
    ⟨some 13, .bslice 30 2 4 [.int .i64 0, .int .i64 0, .int .i64 0, .int .i64 0, .int .i64 0, .int .i64 0, .int .i64 0, .int .i64 0] [(0, 2, .v 9), (2, 2, .v 10), (4, 2, .v 11), (6, 2, .v 12)], none, [0, 1, 2, 3]⟩,
    ⟨some 14, .build [.str ⟨#[]⟩, .int .i64 0, .int .i64 0, .int .i64 0, .nsl] [(0, 1, .c (.str ⟨#[119, 103, 104, 116]⟩)), (1, 1, .c (.int .i64 100)), (2, 1, .c (.int .i64 400)), (3, 1, .c (.int .i64 900)), (4, 1, .v 13)], none, [4]⟩,
    ⟨some 1, .alloc [.str ⟨#[]⟩, .int .i64 0, .int .i64 0, .int .i64 0, .nsl], none, []⟩,
    ⟨none, .store 5 (.v 1) (.v 14), none, [6, 5, 0, 1, 2, 3, 4, 5, 6]⟩])
  (.ghost (.keep [1]) (.seq (.reg [⟨some 15, .call 40 [.c (.int .i64 0), .c (.int .i64 32), .c (.int .i64 64)], none, []⟩,
    ⟨some 2, .alloc [.nsl], none, []⟩,
    ⟨none, .store 1 (.v 2) (.v 15), none, [1, 0, 0, 0, 1]⟩])
  (.ghost (.keep [1, 2]) (.seq (.reg [⟨some 16, .load true 5 (.v 1), none, []⟩,
    ⟨some 17, .build [.int .i64 0, .int .i64 0] [(0, 1, .c (.int .i64 100)), (1, 1, .c (.int .i64 (-64)))], none, []⟩,
    ⟨some 18, .build [.int .i64 0, .int .i64 0] [(0, 1, .c (.int .i64 250)), (1, 1, .c (.int .i64 (-32)))], none, []⟩,
    ⟨some 19, .build [.int .i64 0, .int .i64 0] [(0, 1, .c (.int .i64 400)), (1, 1, .c (.int .i64 0))], none, []⟩,
    ⟨some 20, .build [.int .i64 0, .int .i64 0] [(0, 1, .c (.int .i64 550)), (1, 1, .c (.int .i64 8))], none, []⟩,
    ⟨some 21, .build [.int .i64 0, .int .i64 0] [(0, 1, .c (.int .i64 800)), (1, 1, .c (.int .i64 40))], none, []⟩,
    ⟨some 22, .build [.int .i64 0, .int .i64 0] [(0, 1, .c (.int .i64 2000)), (1, 1, .c (.int .i64 64))], none, []⟩,
    ⟨some 23, .build [.int .i64 0, .int .i64 0] [(0, 1, .c (.int .i64 101)), (1, 1, .c (.int .i64 (-64)))], none, []⟩,
    ⟨some 24, .bslice 30 2 7 [.int .i64 0, .int .i64 0, .int .i64 0, .int .i64 0, .int .i64 0, .int .i64 0, .int .i64 0, .int .i64 0, .int .i64 0, .int .i64 0, .int .i64 0, .int .i64 0, .int .i64 0, .int .i64 0] [(0, 2, .v 17), (2, 2, .v 18), (4, 2, .v 19), (6, 2, .v 20), (8, 2, .v 21), (10, 2, .v 22), (12, 2, .v 23)], none, [1, 2, 3, 4, 5, 6, 7]⟩,
    ⟨some 25, .call 41 [.v 16, .v 24], none, [0, 8]⟩,
    ⟨some 3, .mov (.v 25), none, [9, 9, 0, 1, 2, 3, 4, 5, 6, 7, 8, 9]⟩])
  (.ghost (.keep [2, 3]) (.seq (.reg [⟨some 26, .build [.int .i64 0, .int .i64 0, .int .i64 0] [(0, 1, .c (.int .i64 0)), (1, 1, .c (.int .i64 32)), (2, 1, .c (.int .i64 64))], none, []⟩,
    ⟨some 27, .build [.int .i64 0, .int .i64 0, .int .i64 0] [(0, 1, .c (.int .i64 (-64))), (1, 1, .c (.int .i64 0)), (2, 1, .c (.int .i64 9))], none, []⟩,
    ⟨some 28, .build [.int .i64 0, .int .i64 0, .int .i64 0] [(0, 1, .c (.int .i64 (-30))), (1, 1, .c (.int .i64 (-30))), (2, 1, .c (.int .i64 (-10)))], none, []⟩,
    ⟨some 29, .bslice 71 3 3 [.int .i64 0, .int .i64 0, .int .i64 0, .int .i64 0, .int .i64 0, .int .i64 0, .int .i64 0, .int .i64 0, .int .i64 0] [(0, 3, .v 26), (3, 3, .v 27), (6, 3, .v 28)], none, [0, 1, 2]⟩,
    ⟨some 30, .build [.nsl] [(0, 1, .v 29)], none, [3]⟩,
    ⟨some 4, .alloc [.nsl], none, []⟩,
    ⟨none, .store 1 (.v 4) (.v 30), none, [5, 4, 0, 1, 2, 3, 4, 5]⟩])
  (.ghost (.keep [2, 3, 4]) (.seq (.reg [⟨some 31, .load true 1 (.v 2), none, []⟩,
    ⟨some 32, .bslice 3 1 1 [.int .i64 0] [(0, 1, .c (.int .i64 16))], none, []⟩,
    ⟨some 33, .call 42 [.v 31, .c (.int .i64 1), .c (.int .i64 2), .v 32], none, [0, 1]⟩,
    ⟨some 34, .mov (.v 33), none, [2, 2]⟩,
    ⟨some 35, .load true 1 (.v 2), some (34, true), [3]⟩,
    ⟨some 36, .bslice 3 1 1 [.int .i64 0] [(0, 1, .c (.int .i64 32))], some (34, true), [3]⟩,
    ⟨some 37, .call 42 [.v 35, .c (.int .i64 1), .c (.int .i64 1), .v 36], some (34, true), [4, 5, 3, 3]⟩,
    ⟨some 38, .pick (.v 34) (.v 37) (.c (.bool false)), none, [3, 6]⟩,
    ⟨some 39, .mov (.v 38), none, [7, 6]⟩,
    ⟨some 40, .load true 1 (.v 2), some (39, true), [8]⟩,
    ⟨some 41, .bslice 3 1 1 [.int .i64 0] [(0, 1, .c (.int .i64 48))], some (39, true), [8]⟩,
    ⟨some 42, .call 42 [.v 40, .c (.int .i64 1), .c (.int .i64 2), .v 41], some (39, true), [9, 10, 8, 8]⟩,
    ⟨some 43, .pick (.v 39) (.v 42) (.c (.bool false)), none, [8, 11]⟩,
    ⟨some 44, .mov (.v 43), none, [12, 11]⟩,
    ⟨some 45, .load true 1 (.v 2), some (44, true), [13]⟩,
    ⟨some 46, .bslice 3 1 1 [.int .i64 0] [(0, 1, .c (.int .i64 64))], some (44, true), [13]⟩,
    ⟨some 47, .call 42 [.v 45, .c (.int .i64 0), .c (.int .i64 1), .v 46], some (44, true), [14, 15, 13, 13]⟩,
    ⟨some 48, .pick (.v 44) (.v 47) (.c (.bool false)), none, [13, 16]⟩,
    ⟨some 49, .mov (.v 48), none, [17, 16]⟩,
    ⟨some 50, .load true 1 (.v 2), some (49, true), [18]⟩,
    ⟨some 51, .bslice 3 1 1 [.int .i64 0] [(0, 1, .c (.int .i64 0))], some (49, true), [18]⟩,
    ⟨some 52, .call 42 [.v 50, .c (.int .i64 0), .c (.int .i64 1), .v 51], some (49, true), [19, 20, 18, 18]⟩,
    ⟨some 53, .pick (.v 49) (.v 52) (.c (.bool false)), none, [18, 21]⟩,
    ⟨some 54, .mov (.v 53), none, [22, 21]⟩,
    ⟨some 55, .load true 1 (.v 2), some (54, true), [23]⟩,
    ⟨some 56, .bslice 3 1 1 [.int .i64 0] [(0, 1, .c (.int .i64 20))], some (54, true), [23]⟩,
    ⟨some 57, .call 42 [.v 55, .c (.int .i64 5), .c (.int .i64 8), .v 56], some (54, true), [24, 25, 23, 23]⟩,
    ⟨some 58, .pick (.v 54) (.v 57) (.c (.bool false)), none, [23, 26]⟩,
    ⟨some 59, .mov (.v 58), none, [27, 26]⟩,
    ⟨some 60, .load true 1 (.v 4), some (59, true), [28]⟩,
    ⟨some 61, .bslice 3 1 3 [.int .i64 0, .int .i64 0, .int .i64 0] [(0, 1, .c (.int .i64 8)), (1, 1, .c (.int .i64 50)), (2, 1, .c (.int .i64 (-20)))], some (59, true), [28]⟩,
    ⟨some 62, .call 42 [.v 60, .c (.int .i64 1), .c (.int .i64 8), .v 61], some (59, true), [29, 30, 28, 28]⟩,
    ⟨some 63, .pick (.v 59) (.v 62) (.c (.bool false)), none, [28, 31]⟩,
    ⟨some 5, .mov (.v 63), none, [32, 31, 0, 1, 2, 3, 4, 5, 6, 7, 8, 9, 10, 11, 12, 13, 14, 15, 16, 17, 18, 19, 20, 21, 22, 23, 24, 25, 26, 27, 28, 29, 30, 31, 32]⟩])
  (.ghost (.keep [2, 3, 5]) (.seq (.reg [⟨some 65, .build [.int .i64 0, .int .i64 0] [(0, 1, .c (.int .i64 0)), (1, 1, .c (.int .i64 4))], none, []⟩,
    ⟨some 66, .build [.int .i64 0, .int .i64 0] [(0, 1, .c (.int .i64 0)), (1, 1, .c (.int .i64 (-3)))], none, []⟩,
    ⟨some 67, .bslice 60 2 2 [.int .i64 0, .int .i64 0, .int .i64 0, .int .i64 0] [(0, 2, .v 65), (2, 2, .v 66)], none, [0, 1]⟩,
    ⟨some 68, .load true 1 (.v 2), none, []⟩,
    ⟨some 69, .bslice 42 1 1 [.nsl] [(0, 1, .v 68)], none, [3]⟩,
    ⟨some 70, .bslice 3 1 1 [.int .i64 0] [(0, 1, .c (.int .i64 16))], none, []⟩,
    ⟨some 71, .call 29 [.c (.int .i64 10), .v 67, .v 69, .v 70], none, [2, 4, 5]⟩,
    ⟨some 64, .mov (.v 71), none, [6]⟩,
    ⟨some 72, .ext (.v 64) 0, none, [7]⟩,
    ⟨some 73, .ext (.v 64) 1, none, [7]⟩,
    ⟨some 6, .mov (.v 72), none, [8, 6, 0, 1, 2, 3, 4, 5, 6, 7, 8]⟩,
    ⟨some 7, .mov (.v 73), none, [9, 10, 0, 1, 2, 3, 4, 5, 6, 7, 8, 9, 10]⟩])
  (.ghost (.keep [2, 3, 5, 6, 7]) (.seq (.reg [⟨some 74, .mov (.v 7), none, []⟩,
    ⟨some 75, .mov (.v 74), none, [0]⟩,
    ⟨some 76, .mov (.v 6), some (75, true), [1]⟩,
    ⟨some 77, .bin .eql (.v 76) (.c (.int .i64 672)), some (75, true), [2, 1]⟩,
    ⟨some 78, .pick (.v 75) (.v 77) (.c (.bool false)), none, [1, 3]⟩,
    ⟨some 79, .mov (.v 78), none, [4, 1]⟩,
    ⟨some 80, .load true 1 (.v 2), some (79, true), [5]⟩,
    ⟨some 81, .build [.int .i64 0, .int .i64 0] [(0, 1, .c (.int .i64 (-64))), (1, 1, .c (.int .i64 0))], some (79, true), [5]⟩,
    ⟨some 82, .bslice 30 2 1 [.int .i64 0, .int .i64 0] [(0, 2, .v 81)], some (79, true), [7, 5]⟩,
    ⟨some 83, .call 36 [.v 80, .v 82], some (79, true), [6, 8, 5, 5]⟩,
    ⟨some 84, .un .not (.v 83), some (79, true), [9, 5]⟩,
    ⟨some 85, .pick (.v 79) (.v 84) (.c (.bool false)), none, [5, 10]⟩,
    ⟨some 86, .mov (.v 85), none, [11, 9]⟩,
    ⟨some 87, .load true 1 (.v 2), some (86, true), [12]⟩,
    ⟨some 88, .build [.int .i64 0, .int .i64 0] [(0, 1, .c (.int .i64 0)), (1, 1, .c (.int .i64 1))], some (86, true), [12]⟩,
    ⟨some 89, .bslice 30 2 1 [.int .i64 0, .int .i64 0] [(0, 2, .v 88)], some (86, true), [14, 12]⟩,
    ⟨some 90, .call 36 [.v 87, .v 89], some (86, true), [13, 15, 12, 12]⟩,
    ⟨some 91, .pick (.v 86) (.v 90) (.c (.bool false)), none, [12, 16]⟩,
    ⟨some 92, .mov (.v 91), none, [17, 16]⟩,
    ⟨some 93, .load true 1 (.v 2), some (92, true), [18]⟩,
    ⟨some 94, .build [.int .i64 0, .int .i64 0] [(0, 1, .c (.int .i64 64)), (1, 1, .c (.int .i64 64))], some (92, true), [18]⟩,
    ⟨some 95, .bslice 30 2 1 [.int .i64 0, .int .i64 0] [(0, 2, .v 94)], some (92, true), [20, 18]⟩,
    ⟨some 96, .call 36 [.v 93, .v 95], some (92, true), [19, 21, 18, 18]⟩,
    ⟨some 97, .un .not (.v 96), some (92, true), [22, 18]⟩,
    ⟨some 98, .pick (.v 92) (.v 97) (.c (.bool false)), none, [18, 23]⟩,
    ⟨some 8, .mov (.v 98), none, [24, 22, 0, 1, 2, 3, 4, 5, 6, 7, 8, 9, 10, 11, 12, 13, 14, 15, 16, 17, 18, 19, 20, 21, 22, 23, 24]⟩])
  (.ghost (.keep [3, 5, 8]) (.seq (.reg [⟨some 99, .mov (.v 3), none, []⟩,
    ⟨some 100, .mov (.v 99), none, [0]⟩,
    ⟨some 101, .mov (.v 5), some (100, true), [1]⟩,
    ⟨some 102, .pick (.v 100) (.v 101) (.c (.bool false)), none, [1, 2]⟩,
    ⟨some 103, .mov (.v 102), none, [3, 1]⟩,
    ⟨some 104, .mov (.v 8), some (103, true), [4]⟩,
    ⟨some 105, .pick (.v 103) (.v 104) (.c (.bool false)), none, [4, 5]⟩,
    ⟨some 106, .mov (.v 105), none, [6, 4]⟩,
    ⟨some 107, .call 40 [.c (.int .i64 (-1)), .c (.int .i64 1), .c (.int .i64 5)], some (106, true), [7, 7]⟩,
    ⟨some 108, .call 23 [.v 107, .c (.int .i64 1)], some (106, true), [8, 8, 7]⟩,
    ⟨some 109, .un .not (.v 108), some (106, true), [9, 7]⟩,
    ⟨some 110, .pick (.v 106) (.v 109) (.c (.bool false)), none, [7, 10]⟩,
    ⟨some 111, .mov (.v 110), none, [11, 9]⟩,
    ⟨some 112, .call 40 [.c (.int .i64 5), .c (.int .i64 5), .c (.int .i64 5)], some (111, true), [12, 12]⟩,
    ⟨some 113, .call 23 [.v 112, .c (.int .i64 1)], some (111, true), [13, 13, 12]⟩,
    ⟨some 114, .pick (.v 111) (.v 113) (.c (.bool false)), none, [12, 14]⟩,
    ⟨some 115, .mov (.v 114), none, [15, 14]⟩,
    ⟨some 116, .bslice 3 1 1 [.int .i64 0] [(0, 1, .c (.int .i64 3))], some (115, true), [16]⟩,
    ⟨some 117, .build [.int .i64 0, .int .i64 0] [(0, 1, .c (.int .i64 3)), (1, 1, .c (.int .i64 4))], some (115, true), [16]⟩,
    ⟨some 118, .bslice 30 2 1 [.int .i64 0, .int .i64 0] [(0, 2, .v 117)], some (115, true), [18, 16]⟩,
    ⟨some 119, .call 34 [.v 116, .v 118], some (115, true), [17, 19, 16, 16]⟩,
    ⟨some 120, .pick (.v 115) (.v 119) (.c (.bool false)), none, [16, 20]⟩,
    ⟨some 121, .mov (.v 120), none, [21, 20]⟩,
    ⟨some 122, .call 32 [.c .nsl, .c (.int .i64 0)], some (121, true), [22, 22]⟩,
    ⟨some 123, .pick (.v 121) (.v 122) (.c (.bool false)), none, [22, 23]⟩,
    ⟨some 0, .mov (.v 123), none, [24, 23, 0, 1, 2, 3, 4, 5, 6, 7, 8, 9, 10, 11, 12, 13, 14, 15, 16, 17, 18, 19, 20, 21, 22, 23, 24]⟩])
  (.ghost (.keep [0]) .ret)))))))))))))))))))
theorem fn11 : factOf Tryd.prog 11 = some (ac11.strip, [.tmp 0], 124) := by kernel_rfl
theorem ok11 : ac11.okAll = true := by kernel_rfl

end Go.Abs.A09
namespace Go.Abs.A09
open Go Go.Abs Go.Proofs
set_option maxRecDepth 100000
set_option linter.unusedVariables false
set_option linter.unusedSimpArgs false
attribute [local simp ↓] awp_skip awp_seq awp_cond awp_block awp_exit awp_ret awp_reg awp_draw awp_ghost awp_loop awp_rfun awpR_nil awpR_cons awpX_nil awpX_0 awpX_1 awpX_2 awpI_eq awpI_t awpI_f awpStep_eq
attribute [local simp] condL_true condL_false condL_dec evDel evV evN evS evA initFr Ghost.app Fr.var Fr.blk Fr.ff FF.val Abs.look Fr.app Fr.erase Fr.noSlot AV.noSlot AV.noSlotL Blk.noSlot Fr.spoken AV.fz AV.fzL Blk.fz binV binI shI binS unV fillA FF.parts FF.vals headO intO boundO lenV scalarEq leavesEq AV.aggc AV.cells FF.read FF.rows AV.one PV.one chunk freshB newS pickV retK evRs evRl evR resOf mkTup mkAgg allP cloOf okP_nil okX_p okX okP addN Del.noSlot Del.owners Rnd reify_p normM insM Fr.back Fr.backV Fr.setPs normV insV
attribute [local simp] FF.reify FF.reifyL PV.flat
theorem b40 (f p t : Int) : Best Tryd.prog 40 [.int .i64 f, .int .i64 p, .int .i64 t] (.p (.agg [.sl 3 [[.int .i64 f, .int .i64 p, .int .i64 t]]])) := by
  refine best mixed fn40 ok40 (by simp) ?_
  simp -dsimp [ac40, List.range, List.range.loop]
theorem b42 (r : List T3) (num den : Int) (l : List Int) (hr : r.length ≤ 9223372036854775807) : Best Tryd.prog 42 [.agg [.sl 3 (r.map tRow)], .int .i64 num, .int .i64 den, .sl 1 (l.map intRow)] (.p (.bool (decide ((scaS r l).1 = num) && decide ((scaS r l).2 = den)))) := by
  refine best mixed fn42 ok42 (by simp) ?_
  simp -dsimp [ac42]
  refine call_p (b25 r l hr) rfl (by simp) ?_
  simp -dsimp
theorem b41 (a : Ax) (l : List (Int × Int)) (hl : a.m.length ≤ 9223372036854775807) (hl2 : l.length ≤ 9223372036854775807) (h0 : chkS a = 0) (h1 : ∀ x ∈ l, normS a x.1 = x.2) : Best Tryd.prog 41 [.agg (axC a), .sl 2 (l.map pRow)] (.p (.bool true)) := by
  refine best mixed fn41 ok41 (by simp) ?_
  have h14 := b14 a hl
  have h16 := fun v => b16 a v hl
  rw [h0] at h14
  generalize normS a = no at *
  obtain ⟨nm, lo, df, hi, m⟩ := a
  clear h0
  simp -dsimp [ac41, axC] at h14 h16 ⊢
  refine loopC l.length (fun k => ⟨[(2, .ptr (2, 0) 5 0 0), (7, .p (.sl 2 (l.map pRow))), (8, .p (.int .i64 l.length)), (9, .p (.int .i64 k))], [((2, 0), .box [.p (.str (ba nm)), .p (.int .i64 lo), .p (.int .i64 df), .p (.int .i64 hi), .p (.sl 2 (m.map pRow))])]⟩) (fun _ => True) (fun k hk _ => ?_) trivial (by simp)
  by_cases h : k < l.length
  · obtain ⟨⟨x, y⟩, ex⟩ : ∃ x, l[k] = x := ⟨_, rfl⟩
    have hx : l[k]? = some (x, y) := by rw [List.getElem?_eq_getElem h, ex]
    have w : R ((k : Int) + 1) := ⟨by omega, by omega⟩
    have e := h1 _ (List.mem_of_getElem? hx)
    dsimp only at e
    simp -dsimp [h, ex, pRow]
    refine call_p (h16 x) rfl (by simp) ?_
    simp -dsimp [e, wr w, h]
  · have : k = l.length := by omega
    subst this
    simp -dsimp
    refine call_p h14 rfl (by simp) ?_
    simp -dsimp
/-! ### the examples -/
def a0 : Ax := ⟨[119, 103, 104, 116], 100, 400, 900, [(100, -64), (400, 0), (700, 16), (900, 64)]⟩
theorem a0_ok : AXP a0 := by
  refine ⟨by decide, by decide, by decide, by decide, by decide, by decide, by decide, by decide, by decide, by decide, by decide⟩
theorem a0_chk : chkS a0 = 0 := chk_ok (by decide) a0_ok
theorem a0_norm : ∀ x ∈ [((100 : Int), (-64 : Int)), (250, -32), (400, 0), (550, 8), (800, 40), (2000, 64), (101, -64)], normS a0 x.1 = x.2 := by
  intro x hx
  unfold normS
  rw [if_pos a0_chk]
  revert x
  decide +kernel
theorem gcd_l (m n : Nat) {a b : Int} (ha : a = m) (hb : b = n) : gcdI a b = (Nat.gcd m n : Nat) := by subst ha hb; exact gcdI_nat n m
theorem sc1 : scaS [⟨0, 32, 64⟩] [16] = (1, 2) := by
  simp [scaS, mulS, timesS, strS, rawS, gcdI, RI, CL, TE, CO, RS]
theorem sc2 : scaS [⟨0, 32, 64⟩] [32] = (1, 1) := by
  simp [scaS, mulS, timesS, strS, rawS, gcdI, RI, CL, TE, CO, RS]
theorem sc3 : scaS [⟨0, 32, 64⟩] [48] = (1, 2) := by
  simp [scaS, mulS, timesS, strS, rawS, gcdI, RI, CL, TE, CO, RS]
theorem sc4 : scaS [⟨0, 32, 64⟩] [64] = (0, 1) := by
  simp [scaS, mulS, timesS, strS, rawS, gcdI, RI, CL, TE, CO, RS]
theorem sc5 : scaS [⟨0, 32, 64⟩] [0] = (0, 1) := by
  simp [scaS, mulS, timesS, strS, rawS, gcdI, RI, CL, TE, CO, RS]
theorem sc6 : scaS [⟨0, 32, 64⟩] [20] = (5, 8) := by
  simp [scaS, mulS, timesS, strS, rawS, gcdI, RI, CL, TE, CO, RS]
theorem sc7 : scaS [⟨0, 32, 64⟩, ⟨-64, 0, 9⟩, ⟨-30, -30, -10⟩] [8, 50, -20] = (1, 8) := by
  simp [scaS, mulS, timesS, strS, rawS, gcdI, RI, CL, TE, CO, RS]
theorem rs12 : RS 1 2 := ⟨by decide, by decide, by decide, by decide, by simp [gcdI]⟩
theorem pa1 {y : Int} (h : SM y) : partS y 1 2 = (roundS (64 * y * 1) 2, true) := if_pos ⟨h, rs12⟩
theorem gr1 {y : Int} (h : SM y) : growS [[⟨0, 32, 64⟩]] [16] (0, y) = some (roundS (64 * y * 1) 2) := by
  have e : ([[⟨0, 32, 64⟩]] : List (List T3)).getD ((0 : Int), y).1.toNat [] = [⟨0, 32, 64⟩] := rfl
  unfold growS
  rw [e, sc1, pa1 h]
  rw [if_pos ⟨by dsimp only; omega, by simp, by decide, rfl⟩]
theorem su1 : sumS 10 [(0, 4), (0, -3)] [[⟨0, 32, 64⟩]] [16] = (672, true) := by
  have e : sumL [[⟨0, 32, 64⟩]] [16] (64 * 10) [(0, 4), (0, -3)] = some 672 := by
    unfold sumL
    simp only [List.foldl_cons, List.foldl_nil, Option.bind_some, gr1 (show SM 4 by decide), gr1 (show SM (-3) by decide), Option.map_some]
    decide
  unfold sumS
  rw [if_pos ⟨by decide, by decide, by decide⟩, e]
theorem b32n : Best Tryd.prog 32 [.nsl, .int .i64 0] (.p (.bool true)) := by
  have := b32 [] 0 (by simp)
  rw [decide_eq_true (by decide : RG [] 0)] at this
  exact Best.args (fun S xs h => Ps.cons_imp (fun v hv => hv.nsl_sl 2) (fun _ h => h) h) this
theorem b42t (r : List T3) (num den : Int) (l : List Int) (hr : r.length ≤ 9223372036854775807) (h : scaS r l = (num, den)) : Best Tryd.prog 42 [.agg [.sl 3 (r.map tRow)], .int .i64 num, .int .i64 den, .sl 1 (l.map intRow)] (.p (.bool true)) := by
  have := b42 r num den l hr
  rw [h] at this; simpa using this
set_option maxHeartbeats 4000000 in
theorem b11 : Best Tryd.prog 11 [] (.p (.bool true)) := by
  refine best mixed fn11 ok11 (by simp) ?_
  have h41 := b41 a0 [((100 : Int), (-64 : Int)), (250, -32), (400, 0), (550, 8), (800, 40), (2000, 64), (101, -64)] (by decide) (by decide) a0_chk a0_norm
  simp -dsimp [ac11, List.range, List.range.loop]
  refine call_p (b40 0 32 64) rfl (by simp) ?_
  simp -dsimp [List.range, List.range.loop]
  refine call_f h41 (by simp [axC, a0, pRow, ba]) rfl (by simp) ?_
  simp -dsimp [List.range, List.range.loop]
  refine call_f (b42t [⟨0, 32, 64⟩] 1 2 [16] (by simp) sc1) (by simp [tRow, intRow]) rfl (by simp) ?_
  simp -dsimp [List.range, List.range.loop]
  refine call_f (b42t [⟨0, 32, 64⟩] 1 1 [32] (by simp) sc2) (by simp [tRow, intRow]) rfl (by simp) ?_
  simp -dsimp [List.range, List.range.loop]
  refine call_f (b42t [⟨0, 32, 64⟩] 1 2 [48] (by simp) sc3) (by simp [tRow, intRow]) rfl (by simp) ?_
  simp -dsimp [List.range, List.range.loop]
  refine call_f (b42t [⟨0, 32, 64⟩] 0 1 [64] (by simp) sc4) (by simp [tRow, intRow]) rfl (by simp) ?_
  simp -dsimp [List.range, List.range.loop]
  refine call_f (b42t [⟨0, 32, 64⟩] 0 1 [0] (by simp) sc5) (by simp [tRow, intRow]) rfl (by simp) ?_
  simp -dsimp [List.range, List.range.loop]
  refine call_f (b42t [⟨0, 32, 64⟩] 5 8 [20] (by simp) sc6) (by simp [tRow, intRow]) rfl (by simp) ?_
  simp -dsimp [List.range, List.range.loop]
  refine call_f (b42t [⟨0, 32, 64⟩, ⟨-64, 0, 9⟩, ⟨-30, -30, -10⟩] 1 8 [8, 50, -20] (by simp) sc7) (by simp [tRow, intRow]) rfl (by simp) ?_
  simp -dsimp [List.range, List.range.loop]
  have h29 := b29 (base := 10) (l := [((0 : Int), (4 : Int)), (0, -3)]) (rs := [[⟨0, 32, 64⟩]]) (a := [16]) (by simp [R]) (by simp) (by simp) (by simp)
  rw [su1] at h29
  refine call_f h29 (by simp [tRow, intRow, pRow, regRow]) rfl (by simp) ?_
  simp -dsimp [List.range, List.range.loop]
  have h36 := fun x y => b36 [⟨0, 32, 64⟩] [((x : Int), (y : Int))] (by simp) (by simp)
  have t1 := h36 (-64) 0
  rw [decide_eq_false (by decide : ¬ TO [⟨0, 32, 64⟩] [(-64, 0)])] at t1
  have t2 := h36 0 1
  rw [decide_eq_true (by decide : TO [⟨0, 32, 64⟩] [(0, 1)])] at t2
  have t3 := h36 64 64
  rw [decide_eq_false (by decide : ¬ TO [⟨0, 32, 64⟩] [(64, 64)])] at t3
  refine call_f t1 (by simp [tRow, pRow]) rfl (by simp) ?_
  simp -dsimp [List.range, List.range.loop]
  refine call_f t2 (by simp [tRow, pRow]) rfl (by simp) ?_
  simp -dsimp [List.range, List.range.loop]
  refine call_f t3 (by simp [tRow, pRow]) rfl (by simp) ?_
  simp -dsimp [List.range, List.range.loop]
  refine call_p (b40 (-1) 1 5) rfl (by simp) ?_
  simp -dsimp [List.range, List.range.loop]
  have r1 := b23 [⟨-1, 1, 5⟩] 1 (by simp)
  rw [decide_eq_false (by decide : ¬ RI [⟨-1, 1, 5⟩] 1)] at r1
  refine call_p r1 rfl (by simp) ?_
  simp -dsimp [List.range, List.range.loop]
  refine call_p (b40 5 5 5) rfl (by simp) ?_
  simp -dsimp [List.range, List.range.loop]
  have r2 := b23 [⟨5, 5, 5⟩] 1 (by simp)
  rw [decide_eq_true (by decide : RI [⟨5, 5, 5⟩] 1)] at r2
  refine call_p r2 rfl (by simp) ?_
  simp -dsimp [List.range, List.range.loop]
  have r3 := b34 [3] [(3, 4)] (by simp) (by simp)
  rw [decide_eq_true (by decide : WI [3] [(3, 4)])] at r3
  refine call_f r3 (by simp [intRow, pRow]) rfl (by simp) ?_
  simp -dsimp [List.range, List.range.loop]
  refine call_p b32n rfl (by simp) ?_
  simp -dsimp
end Go.Abs.A09
namespace Go.Abs.A09
open Go Go.Abs Go.Proofs
set_option maxRecDepth 100000
set_option linter.unusedVariables false
set_option linter.unusedSimpArgs false
attribute [local simp ↓] awp_skip awp_seq awp_cond awp_block awp_exit awp_ret awp_reg awp_draw awp_ghost awp_loop awp_rfun awpR_nil awpR_cons awpX_nil awpX_0 awpX_1 awpX_2 awpI_eq awpI_t awpI_f awpStep_eq
attribute [local simp] condL_true condL_false condL_dec evDel evV evN evS evA initFr Ghost.app Fr.var Fr.blk Fr.ff FF.val Abs.look Fr.app Fr.erase Fr.noSlot AV.noSlot AV.noSlotL Blk.noSlot Fr.spoken AV.fz AV.fzL Blk.fz binV binI shI binS unV fillA FF.parts FF.vals headO intO boundO lenV scalarEq leavesEq AV.aggc AV.cells FF.read FF.rows AV.one PV.one chunk freshB newS pickV retK evRs evRl evR resOf mkTup mkAgg allP cloOf okP_nil okX_p okX okP addN Del.noSlot Del.owners Rnd reify_p normM insM Fr.back Fr.backV Fr.setPs normV insV
attribute [local simp] FF.reify FF.reifyL PV.flat
def andS (x : Int) : Int := ((BitVec.ofInt 64 x &&& BitVec.ofInt 64 65535).toNat : Nat)
theorem andS_bd (x : Int) : 0 ≤ andS x ∧ andS x ≤ 65535 := by
  unfold andS
  refine ⟨by omega, ?_⟩
  have : (BitVec.ofInt 64 x &&& BitVec.ofInt 64 65535).toNat ≤ 65535 := by
    rw [BitVec.toNat_and]
    exact Nat.le_trans Nat.and_le_right (by decide)
  omega
def numS (l : List Int) (k : Nat) : Int := match l[k]? with
  | some x => andS x
  | none => 0
theorem numS_bd (l : List Int) (k : Nat) : 0 ≤ numS l k ∧ numS l k ≤ 65535 := by
  unfold numS
  cases l[k]? with
  | some x => exact andS_bd x
  | none => simp
theorem and_wrap (x : Int) : IntKind.i64.wrap ((BitVec.ofInt IntKind.i64.bits x &&& BitVec.ofInt IntKind.i64.bits 65535).toNat) = andS x := by
  have h := andS_bd x
  exact wr (n := andS x) ⟨by omega, by omega⟩
theorem b43 (l : List Int) (k : Nat) : Best Tryd.prog 43 [.sl 1 (l.map intRow), .int .i64 k] (.p (.int .i64 (numS l k))) := by
  refine best mixed fn43 ok43 (by simp) ?_
  by_cases h : k < l.length
  · obtain ⟨x, ex⟩ : ∃ x, l[k] = x := ⟨_, rfl⟩
    have hx : l[k]? = some x := by rw [List.getElem?_eq_getElem h, ex]
    have e : numS l k = andS x := by unfold numS; rw [hx]
    have ha := and_wrap x
    simp -dsimp [ac43, h, ex, intRow, e]
    exact ha
  · have e : numS l k = 0 := by unfold numS; rw [List.getElem?_eq_none (by omega)]
    simp -dsimp [ac43, h, e]
def peakS (a : Int) : Int := if a / 129 % 7 = 2 then 64 else if a / 129 % 7 = 3 then -64 else if a / 129 % 7 = 4 then 32 else if a / 129 % 7 = 5 then -16 else if a / 129 % 7 = 6 then a % 129 - 64 else 0
def mtS (a b c : Int) : T3 := if 0 < peakS a then ⟨min (b % 65) (peakS a), peakS a, max (c % 65) (peakS a)⟩ else if peakS a < 0 then ⟨min (-(b % 65)) (peakS a), peakS a, max (-(c % 65)) (peakS a)⟩ else ⟨-(b % 65), 0, c % 65⟩
theorem mt_def (a b c : Int) : mtS a b c = if 0 < peakS a then ⟨min (b % 65) (peakS a), peakS a, max (c % 65) (peakS a)⟩ else if peakS a < 0 then ⟨min (-(b % 65)) (peakS a), peakS a, max (-(c % 65)) (peakS a)⟩ else ⟨-(b % 65), 0, c % 65⟩ := rfl
theorem peak_bd {a : Int} (h : 0 ≤ a) : -64 ≤ peakS a ∧ peakS a ≤ 64 := by unfold peakS; omega
theorem mt_ok {a b c : Int} (ha : 0 ≤ a) : TE (mtS a b c) := by
  have h := peak_bd ha
  unfold mtS
  generalize peakS a = p at *
  split
  · unfold TE; dsimp only; omega
  · split
    · unfold TE; dsimp only; omega
    · unfold TE; dsimp only; omega
theorem b55 {a b c : Int} (ha : 0 ≤ a) (ha2 : a ≤ 65535) (hb : 0 ≤ b) (hb2 : b ≤ 65535) (hc : 0 ≤ c) (hc2 : c ≤ 65535) : Best Tryd.prog 55 [.int .i64 a, .int .i64 b, .int .i64 c] (.p (.agg (tRow (mtS a b c)))) := by
  refine best mixed fn55 ok55 (by simp) ?_
  have e1 : a.tmod 129 = a % 129 := Int.tmod_eq_emod_of_nonneg ha
  have e2 : a.tdiv 129 = a / 129 := Int.tdiv_eq_ediv_of_nonneg ha
  have e3 : (a / 129).tmod 7 = a / 129 % 7 := Int.tmod_eq_emod_of_nonneg (by omega)
  have e4 : b.tmod 65 = b % 65 := Int.tmod_eq_emod_of_nonneg hb
  have e5 : c.tmod 65 = c % 65 := Int.tmod_eq_emod_of_nonneg hc
  have w1 : R (a % 129 - 64) := ⟨by omega, by omega⟩
  have w2 : R (a / 129) := ⟨by omega, by omega⟩
  have w3 : R (0 - b % 65) := ⟨by omega, by omega⟩
  have w4 : R (0 - c % 65) := ⟨by omega, by omega⟩
  have z1 : 0 - b % 65 = -(b % 65) := by omega
  have z2 : 0 - c % 65 = -(c % 65) := by omega
  have w3' : IntKind.i64.wrap (-(b % 65)) = -(b % 65) := wr ⟨by omega, by omega⟩
  have w4' : IntKind.i64.wrap (-(c % 65)) = -(c % 65) := wr ⟨by omega, by omega⟩
  have hp : ∀ m : Nat, (m : Int) = a / 129 % 7 → ([[PV.int .i64 0], [PV.int .i64 0], [PV.int .i64 64], [PV.int .i64 (-64)], [PV.int .i64 32], [PV.int .i64 (-16)], [PV.int .i64 (a % 129 - 64)]] : List (List PV))[m]? = some [.int .i64 (peakS a)] := by
    intro m hm
    unfold peakS
    rw [← hm]
    match m with
    | 0 => rfl
    | 1 => rfl
    | 2 => rfl
    | 3 => rfl
    | 4 => rfl
    | 5 => rfl
    | 6 => rfl
    | k + 7 => omega
  obtain ⟨m, hm⟩ := Int.eq_ofNat_of_zero_le (show 0 ≤ a / 129 % 7 by omega)
  have hp := hp m hm.symm
  have hm7 : (m : Int) < 7 := by omega
  have hm7' : m < 7 := by omega
  have hml := mt_def a b c
  obtain ⟨hh, hp'⟩ := List.getElem?_eq_some_iff.1 hp
  generalize peakS a = p at *
  by_cases q1 : 0 < p
  · rw [if_pos q1] at hml
    simp -dsimp [ac55, List.range, List.range.loop, e1, e2, e3, e4, e5, wr w1, wr w2, hm, hm7, hm7', hp, hp', q1, tRow, hml]
  · rw [if_neg q1] at hml
    by_cases q2 : p < 0
    · rw [if_pos q2] at hml
      simp -dsimp [ac55, List.range, List.range.loop, e1, e2, e3, e4, e5, wr w1, wr w2, hm, hm7, hm7', hp, hp', q1, q2, tRow, hml, z1, z2, w3', w4']
    · rw [if_neg q2] at hml
      simp -dsimp [ac55, List.range, List.range.loop, e1, e2, e3, e4, e5, wr w1, wr w2, hm, hm7, hm7', hp, hp', q1, q2, tRow, hml, z1, z2, w3', w4']
end Go.Abs.A09
namespace Go.Abs.A09
open Go Go.Abs Go.Proofs
set_option maxRecDepth 100000
set_option linter.unusedVariables false
set_option linter.unusedSimpArgs false
attribute [local simp ↓] awp_skip awp_seq awp_cond awp_block awp_exit awp_ret awp_reg awp_draw awp_ghost awp_loop awp_rfun awpR_nil awpR_cons awpX_nil awpX_0 awpX_1 awpX_2 awpI_eq awpI_t awpI_f awpStep_eq
attribute [local simp] condL_true condL_false condL_dec evDel evV evN evS evA initFr Ghost.app Fr.var Fr.blk Fr.ff FF.val Abs.look Fr.app Fr.erase Fr.noSlot AV.noSlot AV.noSlotL Blk.noSlot Fr.spoken AV.fz AV.fzL Blk.fz binV binI shI binS unV fillA FF.parts FF.vals headO intO boundO lenV scalarEq leavesEq AV.aggc AV.cells FF.read FF.rows AV.one PV.one chunk freshB newS pickV retK evRs evRl evR resOf mkTup mkAgg allP cloOf okP_nil okX_p okX okP addN Del.noSlot Del.owners Rnd reify_p normM insM Fr.back Fr.backV Fr.setPs normV insV
attribute [local simp] FF.reify FF.reifyL PV.flat
def atS (l : List Int) (k : Nat) : Int := numS l k % 129 - 64
def madeAt (l : List Int) (n : Nat) : List Int := (List.range n).map (atS l)
def partAt (l : List Int) (n k : Nat) : List Int := (List.range n).map fun i => if i < k then atS l i else 0
theorem partAt_set {l : List Int} {n k : Nat} (h : k < n) : (partAt l n k).set k (atS l k) = partAt l n (k + 1) := by
  apply List.ext_getElem?
  intro i
  rw [List.getElem?_set]
  by_cases hi : k = i
  · subst hi; simp [partAt, h]
  · rw [if_neg hi]
    by_cases hn : i < n
    · simp only [partAt, List.getElem?_map, List.getElem?_range hn, Option.map_some]
      congr 1
      by_cases h1 : i < k
      · rw [if_pos h1, if_pos (by omega)]
      · rw [if_neg h1, if_neg (by omega)]
    · rw [List.getElem?_eq_none (by simp [partAt]; omega), List.getElem?_eq_none (by simp [partAt]; omega)]
theorem partAt_len {l : List Int} {n k : Nat} : (partAt l n k).length = n := by simp [partAt]
theorem atS_bd (l : List Int) (k : Nat) : -64 ≤ atS l k ∧ atS l k ≤ 64 := by unfold atS; omega
theorem b22 (l : List Int) (n : Nat) (hn : n < 1000000) : Best Tryd.prog 22 [.sl 1 (l.map intRow), .int .i64 n] (.p (.sl 1 ((madeAt l n).map intRow))) := by
  refine best mixed fn22 ok22 (by simp) ?_
  have c1 : (8 : Int) * n ≤ 281474976710656 := by omega
  have c2 : (n : Int) ≤ 9223372036854775807 := by omega
  have c3 : List.replicate n [PV.int .i64 0] = (partAt l n 0).map intRow := by
    simp [partAt, intRow, List.map_const', Function.comp_def]
  have c4 : (n : Int) * 8 ≤ 281474976710656 := by omega
  simp -dsimp [ac22, c1, c2, c3, c4]
  refine loopC n (fun k => ⟨[(0, .p (.sl 1 (l.map intRow))), (1, .p (.int .i64 n)), (5, .ref (8, 0) 1 0 n), (6, .p (.int .i64 k))], [((8, 0), .sl 3 1 ((partAt l n k).map intRow))]⟩) (fun _ => True) (fun k hk _ => ?_) trivial (by simp)
  by_cases h : k < n
  · have w : R ((k : Int) + 1) := ⟨by omega, by omega⟩
    have hb := numS_bd l k
    have e1 : (numS l k).tmod 129 = numS l k % 129 := Int.tmod_eq_emod_of_nonneg hb.1
    have w1 : R (numS l k % 129 - 64) := ⟨by omega, by omega⟩
    have ea : numS l k % 129 - 64 = atS l k := rfl
    have e2 : ∀ p : Int, (partAt l n k)[k]? = some ((partAt l n k)[k]'(by rw [partAt_len]; exact h)) := fun _ => List.getElem?_eq_getElem _
    have hset : ((partAt l n k).map intRow).set k (intRow (atS l k)) = (partAt l n (k + 1)).map intRow := by
      rw [← List.map_set, partAt_set h]
    simp -dsimp [h]
    refine call_p (b43 l k) rfl (by simp) ?_
    have hl : k < (partAt l n k).length := by rw [partAt_len]; exact h
    have ht : ∀ x, (intRow x).tail = [] := fun _ => rfl
    have w5 : R (atS l k) := by rw [← ea]; exact w1
    simp -dsimp [e1, wr w5, ea, h, hl, partAt_len, wr w, ht]
    exact hset
  · have : k = n := by omega
    subst this
    have : partAt l k k = madeAt l k := by
      unfold partAt madeAt
      apply List.map_congr_left
      intro i hi
      rw [if_pos (by simpa using hi)]
    have hlen : (madeAt l k).length = k := by simp [madeAt]
    simp -dsimp [this, hlen]
    exact List.take_of_length_le (by simp [hlen])

/-- A contract whose value is said less sharply. -/
theorem Best.res {P : Program} {f : FuncId} {ps : List PV} {v v' : PV} (h : ∀ S x, PRel S v x → PRel S v' x) (b : Best P f ps (.p v)) : Best P f ps (.p v') :=
  ⟨b.1, fun S w xs hS hx => (b.2 S w xs hS hx).mono fun e w' ⟨x, S', h1, h2, h3, h4, h5, h6⟩ => ⟨x, S', h1, h2, h3, h4, h5, h S' x h6⟩⟩
theorem agg_nsl {S : Snap} {x : Value} (n : Nat) (h : PRel S (.agg [.nsl]) x) : PRel S (.agg [.sl n []]) x := by
  cases h with
  | agg cells vs hl hh =>
    match vs, hl with
    | [v], _ =>
      refine .agg _ [v] rfl fun j p u e1 e2 => ?_
      match j with
      | 0 => simp at e1 e2; subst e1 e2; exact (hh 0 _ _ rfl rfl).nsl_sl n
      | j + 1 => simp at e1
def regT (l : List Int) (k : Nat) : T3 := mtS (numS l (3 * k)) (numS l (3 * k + 1)) (numS l (3 * k + 2))
def madeReg (l : List Int) (n : Nat) : List T3 := (List.range n).map (regT l)
theorem madeReg_succ (l : List Int) (n : Nat) : madeReg l (n + 1) = madeReg l n ++ [regT l n] := by simp [madeReg, List.range_succ]
theorem madeReg_ok (l : List Int) (n : Nat) : ∀ t ∈ madeReg l n, TE t := by
  intro t ht
  simp only [madeReg, List.mem_map] at ht
  obtain ⟨k, _, rfl⟩ := ht
  exact mt_ok (numS_bd l _).1
theorem madeReg_len (l : List Int) (n : Nat) : (madeReg l n).length = n := by simp [madeReg]
theorem b20 (r : List T3) : Best Tryd.prog 20 [.agg [.sl 3 (r.map tRow)]] (.p (.agg [.sl 3 ((r.take 5).map tRow)])) := by
  refine best mixed fn20 ok20 (by simp) ?_
  have c1 : min (r.length : Int) 5 = ((min r.length 5 : Nat) : Int) := by omega
  have c2 : ((min r.length 5 : Nat) : Int) ≤ r.length := by omega
  have c2' : min r.length 5 ≤ r.length := by omega
  have c3 : (r.map tRow).take (min r.length 5) = (r.take 5).map tRow := by
    rw [List.map_take, List.take_eq_take_iff]; simp; omega
  have c4 : ((r.take 5).map tRow).length ≤ 5 := by simp; omega
  have c5 : ((r.take 5).map tRow).length ≤ maxLen := by unfold maxLen; omega
  have c6 : (((r.take 5).map tRow).all fun r => r.all PV.one) = true := by
    rw [List.all_eq_true]; intro x hx
    simp only [List.mem_map] at hx
    obtain ⟨t, _, rfl⟩ := hx
    rfl
  generalize (r.take 5).map tRow = z at *
  have c7 : z.length * 24 ≤ 140737488355328 := by omega
  simp -dsimp [ac20, List.range, List.range.loop, c1, c2, c2', c3, c5, c7, ↓c6]
end Go.Abs.A09
namespace Go.Abs.A09
open Go Go.Abs Go.Proofs
set_option maxRecDepth 100000
set_option linter.unusedVariables false
set_option linter.unusedSimpArgs false
attribute [local simp ↓] awp_skip awp_seq awp_cond awp_block awp_exit awp_ret awp_reg awp_draw awp_ghost awp_loop awp_rfun awpR_nil awpR_cons awpX_nil awpX_0 awpX_1 awpX_2 awpI_eq awpI_t awpI_f awpStep_eq
attribute [local simp] condL_true condL_false condL_dec evDel evV evN evS evA initFr Ghost.app Fr.var Fr.blk Fr.ff FF.val Abs.look Fr.app Fr.erase Fr.noSlot AV.noSlot AV.noSlotL Blk.noSlot Fr.spoken AV.fz AV.fzL Blk.fz binV binI shI binS unV fillA FF.parts FF.vals headO intO boundO lenV scalarEq leavesEq AV.aggc AV.cells FF.read FF.rows AV.one PV.one chunk freshB newS pickV retK evRs evRl evR resOf mkTup mkAgg allP cloOf okP_nil okX_p okX okP addN Del.noSlot Del.owners Rnd reify_p normM insM Fr.back Fr.backV Fr.setPs normV insV
attribute [local simp] FF.reify FF.reifyL PV.flat
theorem oneT (z : List T3) : ((z.map tRow).all fun r => r.all PV.one) = true := by
  rw [List.all_eq_true]; intro x hx
  simp only [List.mem_map] at hx
  obtain ⟨t, _, rfl⟩ := hx
  rfl
theorem one1 (x : T3) : ([tRow x].all fun r => r.all PV.one) = true := oneT [x]
/-- The region, so far: its list in the box, and the block that it owns. -/
def regV : Nat → AV
  | 0 => .p .nsl
  | k + 1 => .ref (31, k) 3 0 (k + 1)
def regM (l : List Int) : Nat → List (Slot × Blk)
  | 0 => []
  | k + 1 => [((31, k), .sl 71 3 ((madeReg l (k + 1)).map tRow))]
theorem wl0 : IntKind.i64.wrap 0 = 0 := wr ⟨by omega, by omega⟩
theorem wl1 : IntKind.i64.wrap 1 = 1 := wr ⟨by omega, by omega⟩
theorem wl2 : IntKind.i64.wrap 2 = 2 := wr ⟨by omega, by omega⟩
theorem mtR (x : T3) : tRow x = [.int .i64 x.f, .int .i64 x.p, .int .i64 x.t] := rfl
theorem b21' (l : List Int) (n : Nat) (hn : n < 1000) : awp Tryd.prog ac21 (retK [.cell 4 true 1] (.p (.agg [if n = 0 then .nsl else .sl 3 ((madeReg l n).map tRow)]))) (initFr [.sl 1 (l.map intRow), .int .i64 n]) := by
  simp -dsimp [ac21]
  refine loopC n (fun k => ⟨[(0, .p (.sl 1 (l.map intRow))), (1, .p (.int .i64 n)), (4, .ptr (4, 0) 1 0 0), (5, .ptr (5, 0) 1 0 0), (6, .p (.int .i64 k))], ((4, 0), .box [.p .nsl]) :: ((5, 0), .box [regV k]) :: regM l k⟩) (fun _ => True) (fun k hk _ => ?_) trivial (by simp [regV, regM])
  by_cases h : k < n
  · have w : R ((k : Int) + 1) := ⟨by omega, by omega⟩
    have h1 := b43 l (3 * k)
    rw [show ((3 * k : Nat) : Int) = 3 * (k : Int) by omega] at h1
    have h2 := b43 l (3 * k + 1)
    rw [show ((3 * k + 1 : Nat) : Int) = 3 * (k : Int) + 1 by omega] at h2
    have h3 := b43 l (3 * k + 2)
    rw [show ((3 * k + 2 : Nat) : Int) = 3 * (k : Int) + 2 by omega] at h3
    have n1 := numS_bd l (3 * k)
    have n2 := numS_bd l (3 * k + 1)
    have n3 := numS_bd l (3 * k + 2)
    have h4 := b55 n1.1 n1.2 n2.1 n2.2 n3.1 n3.2
    rw [show mtS (numS l (3 * k)) (numS l (3 * k + 1)) (numS l (3 * k + 2)) = regT l k from rfl] at h4
    have w1 : R (3 * (k : Int)) := ⟨by omega, by omega⟩
    have w2 : R (3 * (k : Int) + 1) := ⟨by omega, by omega⟩
    have w3 : R (3 * (k : Int) + 2) := ⟨by omega, by omega⟩
    have hs := madeReg_succ l k
    have hl := madeReg_len l k
    have o1 := one1 (regT l k)
    generalize numS l (3 * k) = y1 at *
    generalize numS l (3 * k + 1) = y2 at *
    generalize numS l (3 * k + 2) = y3 at *
    generalize regT l k = x at *
    obtain ⟨x1, x2, x3⟩ := x
    cases k with
    | zero =>
      have hs' : madeReg l 1 = [⟨x1, x2, x3⟩] := by simpa [madeReg] using hs
      simp -dsimp [regV, regM, h, wl0, wl1, wl2]
      refine call_p h1 (by simp) (by simp) ?_
      simp -dsimp [wl0, wl1, wl2]
      refine call_p h2 (by simp [wl0, wl1, wl2]) (by simp) ?_
      simp -dsimp [wl0, wl1, wl2]
      refine call_p h3 (by simp [wl0, wl1, wl2]) (by simp) ?_
      simp -dsimp [wl0, wl1, wl2]
      refine call_p h4 (by simp) (by simp) ?_
      simp -dsimp [wl0, wl1, wl2, mtR, List.range, List.range.loop, maxLen, hs', h]
      exact ⟨rfl, by simp [regM, hs', mtR]⟩
    | succ k =>
      simp only [Int.natCast_add, Int.natCast_one] at w w1 w2 w3 h1 h2 h3
      have hl2 : ((madeReg l (k + 1)).map tRow).length = k + 1 := by simp [hl]
      have hmax : k + 1 + 1 ≤ maxLen := by unfold maxLen; omega
      have hby : (k + 1 + 1) * 24 ≤ 140737488355328 := by omega
      have hi : (k : Int) + 1 < n := by omega
      simp -dsimp [regV, regM, h, hi, wr w1]
      refine call_p h1 (by simp) (by simp) ?_
      simp -dsimp [wr w1, wr w2]
      refine call_p h2 (by simp) (by simp) ?_
      simp -dsimp [wr w1, wr w3]
      refine call_p h3 (by simp) (by simp) ?_
      simp -dsimp
      refine call_p h4 (by simp) (by simp) ?_
      simp -dsimp [mtR, List.range, List.range.loop, hl2, hmax, hby, hs, h]
      exact ⟨wr w, rfl, by simp only [regM, hs, List.map_append]; rfl⟩
  · have : k = n := by omega
    subst this
    have hl := madeReg_len l k
    cases k with
    | zero => simp -dsimp [regV, regM]
    | succ k =>
      have ht : List.take (k + 1) ((madeReg l (k + 1)).map tRow) = (madeReg l (k + 1)).map tRow := List.take_of_length_le (by simp [hl])
      have hi : ¬ (k : Int) + 1 < (k : Int) + 1 := by omega
      simp -dsimp [regV, regM, hi, hl, ht]
theorem b21 (l : List Int) (n : Nat) (hn : n < 1000) : Best Tryd.prog 21 [.sl 1 (l.map intRow), .int .i64 n] (.p (.agg [.sl 3 ((madeReg l n).map tRow)])) := by
  have h := best mixed fn21 ok21 (by simp) (b21' l n hn)
  by_cases h0 : n = 0
  · subst h0
    rw [if_pos rfl] at h
    exact Best.res (fun S x hx => agg_nsl 3 hx) h
  · rwa [if_neg h0] at h
end Go.Abs.A09
namespace Go.Abs.A09
open Go Go.Abs Go.Proofs
set_option maxRecDepth 100000
set_option linter.unusedVariables false
set_option linter.unusedSimpArgs false
attribute [local simp ↓] awp_skip awp_seq awp_cond awp_block awp_exit awp_ret awp_reg awp_draw awp_ghost awp_loop awp_rfun awpR_nil awpR_cons awpX_nil awpX_0 awpX_1 awpX_2 awpI_eq awpI_t awpI_f awpStep_eq
attribute [local simp] condL_true condL_false condL_dec evDel evV evN evS evA initFr Ghost.app Fr.var Fr.blk Fr.ff FF.val Abs.look Fr.app Fr.erase Fr.noSlot AV.noSlot AV.noSlotL Blk.noSlot Fr.spoken AV.fz AV.fzL Blk.fz binV binI shI binS unV fillA FF.parts FF.vals headO intO boundO lenV scalarEq leavesEq AV.aggc AV.cells FF.read FF.rows AV.one PV.one chunk freshB newS pickV retK evRs evRl evR resOf mkTup mkAgg allP cloOf okP_nil okX_p okX okP addN Del.noSlot Del.owners Rnd reify_p normM insM Fr.back Fr.backV Fr.setPs normV insV
attribute [local simp] FF.reify FF.reifyL PV.flat
def rgP (l : List Int) (k : Nat) : Int × Int := (numS l (2 * k) % 129 - 64, min 64 (numS l (2 * k) % 129 - 64 + numS l (2 * k + 1) % 65))
def madeRg (l : List Int) (n : Nat) : List (Int × Int) := (List.range n).map (rgP l)
theorem madeRg_succ (l : List Int) (n : Nat) : madeRg l (n + 1) = madeRg l n ++ [rgP l n] := by simp [madeRg, List.range_succ]
theorem madeRg_len (l : List Int) (n : Nat) : (madeRg l n).length = n := by simp [madeRg]
theorem rgP_ok (l : List Int) (k : Nat) : PG (rgP l k) := by
  have h1 := numS_bd l (2 * k)
  have h2 := numS_bd l (2 * k + 1)
  unfold rgP PG CO
  dsimp only
  omega
theorem madeRg_ok (l : List Int) (n : Nat) (hn : n ≤ 3) : RG (madeRg l n) n := by
  refine ⟨by omega, by omega, by rw [madeRg_len], fun p hp => ?_⟩
  simp only [madeRg, List.mem_map] at hp
  obtain ⟨k, _, rfl⟩ := hp
  exact rgP_ok l k
theorem oneP (x : Int × Int) : ([pRow x].all fun r => r.all PV.one) = true := rfl
theorem b31 (l : List Int) (n : Nat) (hn : n < 1000) : Best Tryd.prog 31 [.sl 1 (l.map intRow), .int .i64 n] (.p (.sl 2 ((madeRg l n).map pRow))) := by
  refine best mixed fn31 ok31 (by simp) ?_
  simp -dsimp [ac31]
  refine loopC n (fun k => ⟨[(0, .p (.sl 1 (l.map intRow))), (1, .p (.int .i64 n)), (5, .ref (34, k) 2 0 k), (6, .p (.int .i64 k))], [((34, k), .sl 30 2 ((madeRg l k).map pRow))]⟩) (fun _ => True) (fun k hk _ => ?_) trivial (by simp [madeRg])
  by_cases h : k < n
  · have w : R ((k : Int) + 1) := ⟨by omega, by omega⟩
    have h1 := b43 l (2 * k)
    rw [show ((2 * k : Nat) : Int) = 2 * (k : Int) by omega] at h1
    have h2 := b43 l (2 * k + 1)
    rw [show ((2 * k + 1 : Nat) : Int) = 2 * (k : Int) + 1 by omega] at h2
    have n1 := numS_bd l (2 * k)
    have n2 := numS_bd l (2 * k + 1)
    have w1 : R (2 * (k : Int)) := ⟨by omega, by omega⟩
    have w2 : R (2 * (k : Int) + 1) := ⟨by omega, by omega⟩
    have hs := madeRg_succ l k
    have hl := madeRg_len l k
    have ex : rgP l k = (numS l (2 * k) % 129 - 64, min 64 (numS l (2 * k) % 129 - 64 + numS l (2 * k + 1) % 65)) := rfl
    rw [ex] at hs
    have e1 : (numS l (2 * k)).tmod 129 = numS l (2 * k) % 129 := Int.tmod_eq_emod_of_nonneg n1.1
    have e2 : (numS l (2 * k + 1)).tmod 65 = numS l (2 * k + 1) % 65 := Int.tmod_eq_emod_of_nonneg n2.1
    have w3 : R (numS l (2 * k) % 129 - 64) := ⟨by omega, by omega⟩
    have w4 : R (numS l (2 * k) % 129 - 64 + numS l (2 * k + 1) % 65) := ⟨by omega, by omega⟩
    generalize numS l (2 * k) = y1 at *
    generalize numS l (2 * k + 1) = y2 at *
    have hmax : k + 1 ≤ maxLen := by unfold maxLen; omega
    have hby : (k + 1) * 16 ≤ 140737488355328 := by omega
    simp -dsimp [h, wr w1]
    refine call_p h1 (by simp) (by simp) ?_
    simp -dsimp [e1, wr w3, wr w1, wr w2]
    refine call_p h2 (by simp) (by simp) ?_
    simp -dsimp [e2, wr w4, List.range, List.range.loop, hl, hmax, hby, hs, h, wr w]
    rfl
  · have : k = n := by omega
    subst this
    have hl := madeRg_len l k
    have ht : List.take k ((madeRg l k).map pRow) = (madeRg l k).map pRow := List.take_of_length_le (by simp [hl])
    simp -dsimp [hl, ht]
structure Cs where
  rg : List (List Int)
  at' : List Int
  rn : List Int
  wd : List Int
  ax : Nat
def llRow (l : List Int) : List PV := [.sl 1 (l.map intRow)]
def csC (c : Cs) : List PV := [.sl 1 (c.rg.map llRow), .sl 1 (c.at'.map intRow), .sl 1 (c.rn.map intRow), .sl 1 (c.wd.map intRow), .int .u8 c.ax]
def Cs.n (c : Cs) : Nat := c.ax % 4
theorem b28 (c : Cs) (h : c.ax < 256) : Best Tryd.prog 28 [.agg (csC c)] (.p (.int .i64 c.n)) := by
  refine best mixed fn28 ok28 (by simp) ?_
  obtain ⟨rg, at', rn, wd, ax⟩ := c
  dsimp only at h
  have w : R (ax : Int) := ⟨by omega, by omega⟩
  have e : (ax : Int).tmod 4 = ((ax % 4 : Nat) : Int) := (Int.ofNat_tmod ax 4).symm
  have e' : (ax : Int).tmod 4 = (ax : Int) % 4 := by rw [e]; omega
  simp -dsimp [ac28, csC, wr w, Cs.n, e']
theorem Cs.n_le (c : Cs) : c.n ≤ 3 := by unfold Cs.n; omega
def Cs.regs (c : Cs) : List (List T3) := (c.rg.take 4).map fun l => madeReg l c.n
theorem oneR (x : List T3) : ([regRow x].all fun r => r.all PV.one) = true := rfl
theorem regs_ok (c : Cs) : ∀ r ∈ c.regs, RI r c.n := by
  intro r hr
  simp only [Cs.regs, List.mem_map] at hr
  obtain ⟨l, _, rfl⟩ := hr
  have := c.n_le
  exact ⟨by omega, by omega, by rw [madeReg_len], madeReg_ok l c.n⟩
theorem regs_len (c : Cs) : c.regs.length = min 4 c.rg.length := by simp [Cs.regs]
theorem b27 (c : Cs) (h : c.ax < 256) : Best Tryd.prog 27 [.agg (csC c)] (.own (fun s => .ref s 1 0 c.regs.length) (.sl 42 1 (c.regs.map regRow))) := by
  refine best mixed fn27 ok27 (by simp) ?_
  have h28 := b28 c h
  have hn := c.n_le
  have hlen := regs_len c
  have hreg : ∀ k x, k < 4 → c.rg[k]? = some x → (c.regs.take (k + 1)) = c.regs.take k ++ [madeReg x c.n] := fun k x hk hx => by
    rw [List.take_add_one]
    congr 1
    simp only [Cs.regs, List.getElem?_map, List.getElem?_take, if_pos hk, hx, Option.map_some, Option.toList_some]
  have h21 := fun x => b21 x c.n (by omega)
  generalize c.regs = rs at *
  generalize c.n = n at *
  obtain ⟨rg, at', rn, wd, ax⟩ := c
  dsimp only at *
  simp -dsimp [csC] at h28
  simp -dsimp [ac27, csC]
  refine loopC (min 4 rg.length) (fun k => ⟨[(1, .ptr (1, 0) 5 0 0), (3, .ref (26, k) 1 0 k), (4, .p (.int .i64 k))], [((1, 0), .box [.p (.sl 1 (rg.map llRow)), .p (.sl 1 (at'.map intRow)), .p (.sl 1 (rn.map intRow)), .p (.sl 1 (wd.map intRow)), .p (.int .u8 ax)]), ((26, k), .sl 42 1 ((rs.take k).map regRow))]⟩) (fun _ => True) (fun k hk _ => ?_) trivial (by simp)
  by_cases hkl : k < min 4 rg.length
  · have hk1 : k < rg.length := by omega
    have hk4 : (k : Int) < 4 := by omega
    have hk4' : k < 4 := by omega
    have w : R ((k : Int) + 1) := ⟨by omega, by omega⟩
    obtain ⟨x, ex⟩ : ∃ x, rg[k] = x := ⟨_, rfl⟩
    have hx : rg[k]? = some x := by rw [List.getElem?_eq_getElem hk1, ex]
    have hs := hreg k x hk4' hx
    have h21 := h21 x
    generalize madeReg x n = y at *
    have hl2 : (rs.take k).length = k := by simp; omega
    have hmax : k + 1 ≤ maxLen := by unfold maxLen; omega
    have hby : (k + 1) * 24 ≤ 140737488355328 := by omega
    simp -dsimp [hk1, hk4, hk4', ex, llRow]
    refine call_p h28 (by simp [llRow]) (by simp) ?_
    simp -dsimp
    refine call_p h21 (by simp) (by simp) ?_
    have hmin : min k rs.length = k := by omega
    have hs' : List.take (k + 1) (rs.map regRow) = List.take k (rs.map regRow) ++ [[.sl 3 (y.map tRow)]] := by
      rw [← List.map_take, hs, List.map_append, List.map_take]; rfl
    have hkl' : k < 4 ∧ k < rg.length := by omega
    simp -dsimp [List.range, List.range.loop, hl2, hmax, hby, hmin, hs', hkl', wr w]
    exact hkl
  · have hk' : k = min 4 rg.length := by omega
    have hc : ¬ (k < rg.length ∧ (k : Int) < 4) := by omega
    have hrs : rs.take k = rs := List.take_of_length_le (by omega)
    have hkr : k = rs.length := by omega
    by_cases hk1 : k < rg.length
    · have hk4 : ¬ (k : Int) < 4 := by omega
      simp -dsimp [hk1, hk4, hrs]
      exact ⟨okV_ref 1 0 _, hkr⟩
    · simp -dsimp [hk1, hrs]
      exact ⟨okV_ref 1 0 _, hkr⟩
end Go.Abs.A09
namespace Go.Abs.A09
open Go Go.Abs Go.Proofs
set_option maxRecDepth 100000
set_option linter.unusedVariables false
set_option linter.unusedSimpArgs false
attribute [local simp ↓] awp_skip awp_seq awp_cond awp_block awp_exit awp_ret awp_reg awp_draw awp_ghost awp_loop awp_rfun awpR_nil awpR_cons awpX_nil awpX_0 awpX_1 awpX_2 awpI_eq awpI_t awpI_f awpStep_eq
attribute [local simp] condL_true condL_false condL_dec evDel evV evN evS evA initFr Ghost.app Fr.var Fr.blk Fr.ff FF.val Abs.look Fr.app Fr.erase Fr.noSlot AV.noSlot AV.noSlotL Blk.noSlot Fr.spoken AV.fz AV.fzL Blk.fz binV binI shI binS unV fillA FF.parts FF.vals headO intO boundO lenV scalarEq leavesEq AV.aggc AV.cells FF.read FF.rows AV.one PV.one chunk freshB newS pickV retK evRs evRl evR resOf mkTup mkAgg allP cloOf okP_nil okX_p okX okP addN Del.noSlot Del.owners Rnd reify_p normM insM Fr.back Fr.backV Fr.setPs normV insV
attribute [local simp] FF.reify FF.reifyL PV.flat AV.fz AV.fzL Blk.fz
def partI {α : Type} (f : Nat → α) (l : List α) (k : Nat) : List α := (List.range k).map f ++ l.drop k
theorem partI_zero {α : Type} (f : Nat → α) (l : List α) : partI f l 0 = l := by simp [partI]
theorem partI_len {α : Type} (f : Nat → α) (l : List α) (k : Nat) (h : k ≤ l.length) : (partI f l k).length = l.length := by simp [partI]; omega
theorem partI_all {α : Type} (f : Nat → α) (l : List α) : partI f l l.length = (List.range l.length).map f := by simp [partI]
theorem partI_set {α : Type} (f : Nat → α) (l : List α) (k : Nat) (h : k < l.length) : (partI f l k).set k (f k) = partI f l (k + 1) := by
  unfold partI
  rw [List.set_append_right _ _ (by simp)]
  simp only [List.length_map, List.length_range, Nat.sub_self]
  rw [List.drop_eq_getElem_cons h, List.set_cons_zero, List.range_succ, List.map_append]
  simp
theorem partI_same {α : Type} (f : Nat → α) (l : List α) (k : Nat) (h : k < l.length) (hf : l[k] = f k) : partI f l k = partI f l (k + 1) := by
  unfold partI
  rw [List.drop_eq_getElem_cons h, hf, List.range_succ, List.map_append]
  simp
def pkF (r : List T3) (a : List Int) (i : Nat) : Int := if (r.getD i ⟨0, 0, 0⟩).p ≠ 0 then (r.getD i ⟨0, 0, 0⟩).p else a.getD i 0
theorem oneI (z : List Int) : ((z.map intRow).all fun r => r.all PV.one) = true := by
  rw [List.all_eq_true]; intro x hx
  simp only [List.mem_map] at hx
  obtain ⟨t, _, rfl⟩ := hx
  rfl
set_option maxHeartbeats 4000000 in
theorem w8e {Q : AE → Fr → Prop} (r : List T3) (xs ps : List Int) (n wh k : Nat) (rs : List (List T3)) (hr : RI r n) (hxl : xs.length = n) (hxC : ∀ x ∈ xs, CO x) (hps : ps = (List.range n).map (pkF r xs)) (hw : wh < 256) (hQ1 : Q .normal ⟨[(1, .p (.int .u8 wh)), (5, .p (.bool true)), (6, .p (.int .i64 n)), (7, .p (.sl 1 (xs.map intRow))), (28, .ref (28, 0) 1 0 rs.length), (29, .p (.int .i64 rs.length)), (30, .p (.int .i64 k)), (176, .p (.bool false))], [((28, 0), .sl 42 1 (rs.map regRow))]⟩) (hQ2 : Q .normal ⟨[(1, .p (.int .u8 wh)), (5, .p (.bool true)), (6, .p (.int .i64 n)), (7, .p (.sl 1 (xs.map intRow))), (9, .ptr (9, 0) 1 0 0), (11, .ptr (11, 0) 2 0 0), (28, .ref (28, 0) 1 0 rs.length), (29, .p (.int .i64 rs.length)), (30, .p (.int .i64 k)), (121, .p (.bool false))], [((9, 0), .box [.p (.sl 3 (r.map tRow))]), ((11, 0), .box [.p (.int .i64 (scaF r xs n).1), .p (.int .i64 (scaF r xs n).2)]), ((28, 0), .sl 42 1 (rs.map regRow))]⟩) : awp Tryd.prog xc8e Q ⟨[(1, .p (.int .u8 wh)), (5, .p (.bool true)), (6, .p (.int .i64 n)), (7, .p (.sl 1 (xs.map intRow))), (9, .ptr (9, 0) 1 0 0), (10, .p (.sl 1 (ps.map intRow))), (11, .ptr (11, 0) 2 0 0), (28, .ref (28, 0) 1 0 rs.length), (29, .p (.int .i64 rs.length)), (30, .p (.int .i64 k))], [((9, 0), .box [.p (.sl 3 (r.map tRow))]), ((11, 0), .box [.p (.int .i64 (scaF r xs n).1), .p (.int .i64 (scaF r xs n).2)]), ((28, 0), .sl 42 1 (rs.map regRow))]⟩ := by
  have hrl : r.length = n := by have := hr.2.2.1; omega
  have hn3 : n ≤ 3 := by have := hr.2.1; omega
  have hT : ∀ t ∈ r, TE t := hr.2.2.2
  have hpl : ps.length = n := by rw [hps]; simp
  have hpget : ∀ (i : Nat) (t : T3) (x : Int), r[i]? = some t → ps[i]? = some x → t.p = 0 ∨ x = t.p := by
    intro i t x h1 h2
    have hi : i < n := by have := (List.getElem?_eq_some_iff.1 h2).1; omega
    rw [hps, List.getElem?_map, List.getElem?_range hi] at h2
    simp only [Option.map_some, Option.some.injEq] at h2
    subst h2
    by_cases h0 : t.p = 0
    · exact Or.inl h0
    · right; unfold pkF; rw [List.getD_eq_getElem?_getD, h1]; simp [h0]
  have hpC : ∀ x ∈ ps, CO x := by
    intro x hx
    obtain ⟨i, hi⟩ := List.getElem?_of_mem hx
    have hin : i < n := by have := (List.getElem?_eq_some_iff.1 hi).1; omega
    have hri : r[i]? = some r[i] := List.getElem?_eq_getElem (by omega)
    have hxi : xs[i]? = some xs[i] := List.getElem?_eq_getElem (by omega)
    rw [hps, List.getElem?_map, List.getElem?_range hin] at hi
    simp only [Option.map_some, Option.some.injEq] at hi
    have ht := hT _ (List.mem_of_getElem? hri)
    unfold pkF at hi
    rw [List.getD_eq_getElem?_getD, hri, List.getD_eq_getElem?_getD, hxi] at hi
    simp only [Option.getD_some] at hi
    split at hi
    · subst hi; unfold TE at ht; unfold CO; omega
    · subst hi; exact hxC _ (List.mem_of_getElem? hxi)
  have p1 := b25 r xs (by omega)
  rw [scaS_F hr hxl hxC] at p1
  have p2 := b25 r ps (by omega)
  rw [scaS_F hr hpl hpC, scaF_peak hT hpget n (by omega) (by omega)] at p2
  have okn := scaF_ok hT hxC n hn3 (by omega) (by omega)
  simp -dsimp [xc8e]
  refine call_p p1 (by simp) (by simp) ?_
  simp -dsimp
  refine call_p p2 (by simp) (by simp) ?_
  simp -dsimp
  by_cases hn0 : 0 < n
  · have hni : (0 : Int) < n := by omega
    have hnn : ¬ n = 0 := by omega
    have w1 : R (wh : Int) := ⟨by omega, by omega⟩
    have hm : (wh : Int).tmod n = ((wh % n : Nat) : Int) := (Int.ofNat_tmod wh n).symm
    obtain ⟨q, hq⟩ : ∃ q, wh % n = q := ⟨_, rfl⟩
    have hqn : q < n := by rw [← hq]; exact Nat.mod_lt _ hn0
    rw [hq] at hm
    obtain ⟨t, et⟩ : ∃ t, r[q]'(by omega) = t := ⟨_, rfl⟩
    obtain ⟨x, ex⟩ : ∃ x, xs[q]'(by omega) = x := ⟨_, rfl⟩
    have htk : r[q]? = some t := by rw [List.getElem?_eq_getElem (by omega), et]
    have hxk : xs[q]? = some x := by rw [List.getElem?_eq_getElem (by omega), ex]
    have hTt := hT t (List.mem_of_getElem? htk)
    have hCx := hxC x (List.mem_of_getElem? hxk)
    have hqi : (q : Int) < n := by omega
    have hqr : q < r.length := by omega
    have hqx : q < xs.length := by omega
    have hx1 : xs.length ≤ maxLen := by unfold maxLen; omega
    have hx2 : xs.length * 8 ≤ 140737488355328 := by omega
    have hx3 := oneI xs
    have hpt : ∀ (ps : List Int), ps.length = xs.length → List.take xs.length (ps.map intRow) = ps.map intRow := fun ps h => List.take_of_length_le (by simp; omega)
    have fin : ∀ ys, ys = xs.set q (upS t x) → awp Tryd.prog xc8g Q ⟨[(1, .p (.int .u8 wh)), (5, .p (.bool true)), (6, .p (.int .i64 n)), (7, .p (.sl 1 (xs.map intRow))), (9, .ptr (9, 0) 1 0 0), (11, .ptr (11, 0) 2 0 0), (18, .p (.sl 1 (ys.map intRow))), (28, .ref (28, 0) 1 0 rs.length), (29, .p (.int .i64 rs.length)), (30, .p (.int .i64 k))], [((9, 0), .box [.p (.sl 3 (r.map tRow))]), ((11, 0), .box [.p (.int .i64 (scaF r xs n).1), .p (.int .i64 (scaF r xs n).2)]), ((28, 0), .sl 42 1 (rs.map regRow))]⟩ := by
      intro ys hys
      have hyl : ys.length = n := by rw [hys]; simp; omega
      have hyC : ∀ y ∈ ys, CO y := by
        intro y hy
        rw [hys] at hy
        rcases List.mem_or_eq_of_mem_set hy with h | h
        · exact hxC y h
        · rw [h]; exact up_CO hTt hCx
      have hmono : (scaF r xs n).1 * (scaF r ys n).2 ≤ (scaF r ys n).1 * (scaF r xs n).2 := by
        refine scaF_mono hT hxC hyC (fun i u a b h1 h2 h3 => ?_) hn3 (by omega) (by omega) (by omega)
        rw [hys, List.getElem?_set] at h3
        by_cases hi : q = i
        · subst hi
          rw [htk] at h1
          rw [hxk] at h2
          simp only [if_pos rfl, hqx, ↓reduceIte, Option.some.injEq] at h1 h2 h3
          subst h1 h2 h3
          exact raw_up hTt hCx
        · rw [if_neg hi, h2] at h3
          simp only [Option.some.injEq] at h3
          subst h3
          exact Int.le_refl _
      have p3 := b25 r ys (by omega)
      rw [scaS_F hr hyl hyC] at p3
      have oky := scaF_ok hT hyC n hn3 (by omega) (by omega)
      clear p1
      generalize scaF r xs n = s at *
      generalize scaF r ys n = z at *
      obtain ⟨s1, s2⟩ := s
      obtain ⟨z1, z2⟩ := z
      dsimp only at *
      obtain ⟨⟨o1, o2, o3, o4, -⟩, -⟩ := okn
      obtain ⟨⟨u1, u2, u3, u4, -⟩, -⟩ := oky
      have m1 := mul_bd u3 (by omega : z1 ≤ 262144) (by omega : 0 ≤ s2) (by omega : s2 ≤ 262144)
      have m2 := mul_bd o3 (by omega : s1 ≤ 262144) (by omega : 0 ≤ z2) (by omega : z2 ≤ 262144)
      have w2 : R (z1 * s2) := ⟨by omega, by omega⟩
      have w3 : R (s1 * z2) := ⟨by omega, by omega⟩
      have hlt : ¬ z1 * s2 < s1 * z2 := by omega
      simp -dsimp [xc8g]
      refine call_p p3 (by simp) (by simp) ?_
      simp -dsimp [wr w2, wr w3, hlt]
      exact hQ1
    have hset : ∀ y, ((xs.map intRow).set q [.int .i64 y]) = (xs.set q y).map intRow := fun y => by rw [List.map_set]; rfl
    have ht : ∀ x, (intRow x).tail = [] := fun _ => rfl
    have hqq : ∀ x, intRow x = [.int .i64 x] := fun _ => rfl
    simp -dsimp [xc8f, hni, hnn, hn0, wr w1, hm, List.range, List.range.loop, hx1, hx2, ↓hx3, hpt xs rfl]
    by_cases h1 : x < t.p
    · have hu : upS t x = x + 1 := by unfold upS; rw [if_pos h1]
      have fin := fin (xs.set q (x + 1)) (by rw [hu])
      simp -dsimp [xc8h, hqn, hqi, hqr, hqx, htk, hxk, et, ex, tRow, h1, hqq]
      have wx : R (x + 1) := ⟨by have := hCx.1; omega, by have := hCx.2; omega⟩
      rw [wr wx, hset, hpt _ (by simp)]
      exact fin
    · by_cases h2 : t.p < x
      · have hu : upS t x = x - 1 := by unfold upS; rw [if_neg h1, if_pos h2]
        have fin := fin (xs.set q (x - 1)) (by rw [hu])
        simp -dsimp [xc8h, hqn, hqi, hqr, hqx, htk, hxk, et, ex, tRow, h1, h2, hqq]
        have wx : R (x - 1) := ⟨by have := hCx.1; omega, by have := hCx.2; omega⟩
        rw [wr wx, hset, hpt _ (by simp)]
        exact fin
      · have hu : upS t x = x := by unfold upS; rw [if_neg h1, if_neg h2]
        have fin := fin xs (by rw [hu, ← ex, List.set_getElem_self])
        simp -dsimp [xc8h, hqn, hqi, hqr, hqx, htk, hxk, et, ex, tRow, h1, h2, hqq, hpt xs rfl]
        exact fin
  · have hnn : n = 0 := by omega
    subst hnn
    simp -dsimp [xc8f]
    exact hQ2
end Go.Abs.A09
namespace Go.Abs.A09
open Go Go.Abs Go.Proofs
set_option maxRecDepth 100000
set_option linter.unusedVariables false
set_option linter.unusedSimpArgs false
attribute [local simp ↓] awp_skip awp_seq awp_cond awp_block awp_exit awp_ret awp_reg awp_draw awp_ghost awp_loop awp_rfun awpR_nil awpR_cons awpX_nil awpX_0 awpX_1 awpX_2 awpI_eq awpI_t awpI_f awpStep_eq
attribute [local simp] condL_true condL_false condL_dec evDel evV evN evS evA initFr Ghost.app Fr.var Fr.blk Fr.ff FF.val Abs.look Fr.app Fr.erase Fr.noSlot AV.noSlot AV.noSlotL Blk.noSlot Fr.spoken AV.fz AV.fzL Blk.fz binV binI shI binS unV fillA FF.parts FF.vals headO intO boundO lenV scalarEq leavesEq AV.aggc AV.cells FF.read FF.rows AV.one PV.one chunk freshB newS pickV retK evRs evRl evR resOf mkTup mkAgg allP cloOf okP_nil okX_p okX okP addN Del.noSlot Del.owners Rnd reify_p normM insM Fr.back Fr.backV Fr.setPs normV insV
attribute [local simp ↓] and_wrap
attribute [local simp] FF.reify FF.reifyL PV.flat AV.fz AV.fzL Blk.fz
set_option maxHeartbeats 4000000 in
theorem b8 (c : Cs) (wh : Nat) (hc : c.ax < 256) (hw : wh < 256) : Best Tryd.prog 8 [.agg (csC c), .int .u8 wh] (.p (.bool true)) := by
  refine best mixed xn8 xk8 (by simp) ?_
  have h28 := b28 c hc
  have hn := c.n_le
  have h27 := b27 c hc
  have hrl := regs_len c
  have hrok := regs_ok c
  generalize c.regs = rs at *
  generalize c.n = n at *
  obtain ⟨rg, at', rn, wd, ax⟩ := c
  dsimp only at *
  simp -dsimp [csC] at h28 h27
  simp -dsimp [xc8, csC]
  refine call_p b11 rfl (by simp) ?_
  simp -dsimp
  refine call_p h28 (by simp) (by simp) ?_
  simp -dsimp
  have h22 := b22 at' n (by omega)
  have hxl : (madeAt at' n).length = n := by simp [madeAt]
  have hxC : ∀ x ∈ madeAt at' n, CO x := by
    intro x hx
    simp only [madeAt, List.mem_map] at hx
    obtain ⟨k, _, rfl⟩ := hx
    exact atS_bd at' k
  generalize madeAt at' n = xs at *
  refine call_p h22 (by simp) (by simp) ?_
  simp -dsimp
  refine call_o h27 (by simp) (by simp) ?_
  simp -dsimp
  have hx1 : xs.length ≤ maxLen := by unfold maxLen; omega
  have hx2 : xs.length * 8 ≤ 140737488355328 := by omega
  have hx3 := oneI xs
  refine loopC rs.length (fun k => ⟨[(1, .p (.int .u8 wh)), (5, .p (.bool true)), (6, .p (.int .i64 n)), (7, .p (.sl 1 (xs.map intRow))), (28, .ref (28, 0) 1 0 rs.length), (29, .p (.int .i64 rs.length)), (30, .p (.int .i64 k))], [((28, 0), .sl 42 1 (rs.map regRow))]⟩) (fun _ => True) (fun k hk _ => ?_) trivial (by simp)
  by_cases h : k < rs.length
  · obtain ⟨r, er⟩ : ∃ r, rs[k] = r := ⟨_, rfl⟩
    have hrk : rs[k]? = some r := by rw [List.getElem?_eq_getElem (by omega), er]
    have hrr := hrok r (List.mem_of_getElem? hrk)
    have w : R ((k : Int) + 1) := ⟨by omega, by omega⟩
    have hki : (k : Int) < rs.length := by omega
    simp -dsimp [xc8c, h, hki, hrk, er, regRow, List.range, List.range.loop, hx1, hx2, ↓hx3]
    have hxt : List.take xs.length (xs.map intRow) = xs.map intRow := List.take_of_length_le (by simp)
    have hrl2 : r.length = n := by have := hrr.2.2.1; omega
    have hT : ∀ t ∈ r, TE t := hrr.2.2.2
    have hn0 := n
    refine loopC n (fun j => ⟨[(1, .p (.int .u8 wh)), (5, .p (.bool true)), (6, .p (.int .i64 n)), (7, .p (.sl 1 (xs.map intRow))), (9, .ptr (9, 0) 1 0 0), (10, .ref (34, 1) 1 0 n), (11, .ptr (11, 0) 2 0 0), (12, .p (.int .i64 j)), (28, .ref (28, 0) 1 0 rs.length), (29, .p (.int .i64 rs.length)), (30, .p (.int .i64 k))], [((9, 0), .box [.p (.sl 3 (r.map tRow))]), ((11, 0), .box [.p (.int .i64 (scaF r xs j).1), .p (.int .i64 (scaF r xs j).2)]), ((28, 0), .sl 42 1 (rs.map regRow)), ((34, 1), .sl 3 1 ((partI (pkF r xs) xs j).map intRow))]⟩) (fun _ => True) (fun j hj _ => ?_) trivial (by simp [partI_zero, hxl, scaF])
    by_cases hj7 : j < n
    · obtain ⟨t, et⟩ : ∃ t, r[j]'(by omega) = t := ⟨_, rfl⟩
      obtain ⟨x, ex⟩ : ∃ x, xs[j]'(by omega) = x := ⟨_, rfl⟩
      have htk : r[j]? = some t := by rw [List.getElem?_eq_getElem (by omega), et]
      have hxk : xs[j]? = some x := by rw [List.getElem?_eq_getElem (by omega), ex]
      have hTt := hT t (List.mem_of_getElem? htk)
      have hCx := hxC x (List.mem_of_getElem? hxk)
      have wj : R ((j : Int) + 1) := ⟨by omega, by omega⟩
      have hji : (j : Int) < n := by omega
      have hjr : j < r.length := by omega
      have hjx : j < xs.length := by omega
      have hdt : List.drop j (List.take (j + 1) (xs.map intRow)) = [[.int .i64 x]] := by
        rw [List.take_succ_eq_append_getElem (by simpa using hjx), List.drop_append]
        have : min j xs.length = j := by omega
        simp [ex, intRow, this]
      have hsl : (j : Int) ≤ j + 1 ∧ (j : Int) + 1 ≤ xs.length := by omega
      have p1 := b25 [t] [x] (by simp)
      rw [scaS_one hTt hCx] at p1
      simp -dsimp [tRow, intRow] at p1
      have s1 := scaF_R r xs j
      have s2 := strR hTt hCx
      have p2 := b38 s1.1 s1.2 s2.1 s2.2
      rw [scaF_times hT hxC (by omega) htk hxk] at p2
      by_cases hp : t.p = 0
      · have hpk : pkF r xs j = x := by unfold pkF; rw [List.getD_eq_getElem?_getD, htk, List.getD_eq_getElem?_getD, hxk]; simp [hp]
        have hps : partI (pkF r xs) xs j = partI (pkF r xs) xs (j + 1) := partI_same _ _ _ hjx (by rw [hpk, ex])
        simp -dsimp [xc8d, hj7, hji, hjr, hjx, htk, hxk, et, ex, tRow, intRow]
        simp -dsimp [xc8i, hj7, hji, hjr, hjx, htk, hxk, et, ex, tRow, intRow, wr wj, hsl, hdt]
        refine call_f p1 (by simp) rfl (by simp) ?_
        simp -dsimp [hp, xc8j, xc8k]
        refine call_p p2 (by simp) (by simp) ?_
        simp -dsimp [wr wj, hj7]
        rw [← hps]
      · have hpk : pkF r xs j = t.p := by unfold pkF; rw [List.getD_eq_getElem?_getD, htk, List.getD_eq_getElem?_getD, hxk]; simp [hp]
        have hps := partI_set (pkF r xs) xs j hjx
        rw [hpk] at hps
        have hps : ((partI (pkF r xs) xs j).map intRow).set j [.int .i64 t.p] = (partI (pkF r xs) xs (j + 1)).map intRow := by rw [← hps, List.map_set]; rfl
        have hpl : (partI (pkF r xs) xs j).length = xs.length := partI_len _ _ _ (by omega)
        have hpj : j < (partI (pkF r xs) xs j).length := by omega
        simp -dsimp [xc8d, hj7, hji, hjr, hjx, htk, hxk, et, ex, tRow, intRow]
        simp -dsimp [xc8i, hj7, hji, hjr, hjx, htk, hxk, et, ex, tRow, intRow, wr wj, hsl, hdt]
        refine call_f p1 (by simp) rfl (by simp) ?_
        have ht : ∀ x, (intRow x).tail = [] := fun _ => rfl
        have hq : ∀ x, intRow x = [.int .i64 x] := fun _ => rfl
        simp -dsimp [hp, hpj, hps, hji, ht]
        by_cases hnx : x = t.p
        · simp -dsimp [xc8j, xc8k, hp, hji, hjx, hxk, ex, hq, hnx]
          refine call_p p2 (by simp [hnx]) (by simp) ?_
          simp -dsimp [wr wj, hj7]
        · have hz := str_zero hTt hCx hp hnx
          by_cases h1 : x ≤ t.f
          · have hz0 : (strS t x).1 = 0 := hz.2 (Or.inl h1)
            simp -dsimp [xc8j, xc8k, hp, hji, hjx, hxk, ex, hq, hnx, h1, hz0]
            rw [hz0] at p2
            refine call_p p2 (by simp) (by simp) ?_
            simp -dsimp [wr wj, hj7]
          · by_cases h2 : x ≥ t.t
            · have hz0 : (strS t x).1 = 0 := hz.2 (Or.inr h2)
              simp -dsimp [xc8j, xc8k, hp, hji, hjx, hxk, ex, hq, hnx, h1, h2, hz0]
              rw [hz0] at p2
              refine call_p p2 (by simp) (by simp) ?_
              simp -dsimp [wr wj, hj7]
            · have hz0 : ¬ (strS t x).1 = 0 := fun h => by rcases hz.1 h with h | h <;> contradiction
              simp -dsimp [xc8j, xc8k, hp, hji, hjx, hxk, ex, hq, hnx, h1, h2, hz0]
              refine call_p p2 (by simp) (by simp) ?_
              simp -dsimp [wr wj, hj7]
    · have : j = n := by omega
      subst this
      clear hj7
      have hpl : (partI (pkF r xs) xs j).length = j := by rw [partI_len _ _ _ (by omega)]; exact hxl
      have hpa : partI (pkF r xs) xs j = (List.range j).map (pkF r xs) := by have := partI_all (pkF r xs) xs; rwa [hxl] at this
      have hpt : ∀ (ps : List Int), ps.length = j → List.take j (ps.map intRow) = ps.map intRow := fun ps h => List.take_of_length_le (by simp; omega)
      generalize partI (pkF r xs) xs j = ps at *
      simp -dsimp [xc8d, hpl, hpt ps hpl]
      refine w8e r xs ps j wh k rs hrr hxl hxC hpa hw ?_ ?_
      · simp -dsimp [wr w, h]
      · simp -dsimp [wr w, h]
  · simp -dsimp [xc8c, h]
end Go.Abs.A09
