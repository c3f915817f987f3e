/- A part of the proof: an abstract reading of the model, contracts of functions. -/
import Derived.Test.YtnonjaonklngpaaDoorM6
import Derived.Test.YtnonjaonklngpaaDoorProg
namespace Go.Abs.A09
open Go Go.Abs Go.Proofs
set_option maxRecDepth 100000
set_option linter.unusedVariables false
set_option linter.unusedSimpArgs false
attribute [local simp ↓] awp_skip awp_seq awp_cond awp_block awp_exit awp_ret awp_reg awp_draw awp_ghost awp_loop awp_rfun awpR_nil awpR_cons awpX_nil awpX_0 awpX_1 awpX_2 awpI_eq awpI_t awpI_f awpStep_eq
attribute [local simp] condL_true condL_false condL_dec evDel evV evN evS evA initFr Ghost.app Fr.var Fr.blk Fr.ff FF.val Abs.look Fr.app Fr.erase Fr.noSlot AV.noSlot AV.noSlotL Blk.noSlot Fr.spoken AV.fz AV.fzL Blk.fz binV binI shI binS unV fillA FF.parts FF.vals headO intO boundO lenV scalarEq leavesEq AV.aggc AV.cells FF.read FF.rows AV.one PV.one chunk freshB newS pickV retK evRs evRl evR resOf mkTup mkAgg allP cloOf okP_nil okX_p okX okP addN Del.noSlot Del.owners Rnd reify_p normM insM Fr.back Fr.backV Fr.setPs normV insV
/-- What is right up to a point. -/
def pre (m : List (Int × Int)) (k : Nat) : Prop := (∀ p ∈ m.take k, CO p.2) ∧ ∀ i x y, i + 1 < k → m[i]? = some x → m[i + 1]? = some y → UP x y
theorem pre_all {m : List (Int × Int)} (h : pre m m.length) : (∀ p ∈ m, CO p.2) ∧ ∀ x ∈ m.zip m.tail, UP x.1 x.2 := by
  refine ⟨fun p hp => h.1 p (by rwa [List.take_length]), fun x hx => ?_⟩
  obtain ⟨i, hi⟩ := List.getElem?_of_mem hx
  obtain ⟨x1, x2⟩ := x
  have : m[i]? = some x1 ∧ m.tail[i]? = some x2 := by
    simp only [List.zip, List.getElem?_zipWith] at hi
    cases h1 : m[i]? <;> cases h2 : m.tail[i]? <;> simp [h1, h2] at hi
    obtain ⟨rfl, rfl⟩ := hi
    exact ⟨rfl, rfl⟩
  have h2 := this.2
  rw [List.getElem?_tail] at h2
  exact h.2 i x1 x2 (List.getElem?_eq_some_iff.1 h2).1 this.1 h2
set_option maxHeartbeats 2000000 in
theorem b15 (a : Ax) (hl : a.m.length ≤ 9223372036854775807) (hnl : a.nm.length ≤ 9223372036854775807) : Best Tryd.prog 15 [.agg (axC a)] (.p (.int .i64 (chkS a))) := by
  refine best mixed fn15 ok15 (by simp) ?_
  obtain ⟨nm, lo, df, hi, m⟩ := a
  dsimp only at hl
  simp -dsimp [ac15, axC]
  refine call_p (b48 nm hnl) rfl (by simp) ?_
  cases hn : nmB nm with
  | false =>
    have := chk_name (a := ⟨nm, lo, df, hi, m⟩) hn
    simp -dsimp [this]
  | true =>
  have no : ¬ AXP ⟨nm, lo, df, hi, m⟩ → chkS ⟨nm, lo, df, hi, m⟩ = 10 := chk_no hn
  by_cases q1 : lo < -10000
  · have := no fun h => by have := h.b1; dsimp only at this; omega
    simp -dsimp [q1, this]
  by_cases q2 : df < lo
  · have := no fun h => by have := h.b2; dsimp only at this; omega
    simp -dsimp [q1, q2, this]
  by_cases q3 : hi < df
  · have := no fun h => by have := h.b3; dsimp only at this; omega
    simp -dsimp [q1, q2, q3, this]
  by_cases q4 : 10000 < hi
  · have := no fun h => by have := h.b4; dsimp only at this; omega
    simp -dsimp [q1, q2, q3, q4, this]
  by_cases q5 : (m.length : Int) < 1
  · have := no fun h => by have := h.n1; dsimp only at this; omega
    simp -dsimp [q1, q2, q3, q4, q5, this]
  by_cases q6 : 6 < (m.length : Int)
  · have := no fun h => by have := h.n2; dsimp only at this; omega
    simp -dsimp [q1, q2, q3, q4, q5, q6, this]
  have hm0 : 0 < m.length := by omega
  obtain ⟨⟨x1, x2⟩, ex⟩ : ∃ x, m[0] = x := ⟨_, rfl⟩
  have hx : m[0]? = some (x1, x2) := by rw [List.getElem?_eq_getElem hm0, ex]
  obtain ⟨⟨y1, y2⟩, ey⟩ : ∃ x, m[m.length - 1] = x := ⟨_, rfl⟩
  have hy : m[m.length - 1]? = some (y1, y2) := by rw [List.getElem?_eq_getElem (by omega), ey]
  have g0 : m.getD 0 (0, 0) = (x1, x2) := by simp [List.getD, hx]
  have gl : m.getD (m.length - 1) (0, 0) = (y1, y2) := by simp [List.getD, hy]
  by_cases q7 : x1 = lo
  rotate_left
  · have := no fun h => by have := h.f0; dsimp only at this; rw [g0] at this; exact q7 this
    simp -dsimp [q1, q2, q3, q4, q5, q6, hm0, ex, pRow, q7, this]
  have w1 : R ((m.length : Int) - 1) := ⟨by omega, by omega⟩
  have c1 : (0 : Int) ≤ (m.length : Int) - 1 := by omega
  have c2 : ((m.length : Int) - 1).toNat = m.length - 1 := by omega
  have c3 : m.length - 1 < m.length := by omega
  have c4 : (1 : Int) ≤ (m.length : Int) := by omega
  by_cases q8 : y1 = hi
  rotate_left
  · have := no fun h => by have := h.fl; dsimp only at this; rw [gl] at this; exact q8 this
    simp -dsimp [q1, q2, q3, q4, q5, q6, hm0, ex, pRow, q7, wr w1, c1, c2, c3, c4, ey, hy, q8, this]
  simp -dsimp [q1, q2, q3, q4, q5, q6, hm0, ex, pRow, q7, wr w1, c1, c2, c3, c4, ey, hy, q8]
  have ci : ∀ k : Nat, (decide ((df, (0 : Int)) ∈ m.take k)) = (m.take k).any fun p => decide (p.1 = df) && decide (p.2 = 0) := fun k => by
    rw [Bool.eq_iff_iff]
    simp only [List.any_eq_true, Bool.and_eq_true, decide_eq_true_eq]
    constructor
    · intro h; exact ⟨_, h, rfl, rfl⟩
    · rintro ⟨⟨p1, p2⟩, h1, rfl, rfl⟩; exact h1
  refine loopC m.length (fun k => ⟨[(1, .ptr (1, 0) 5 0 0), (4, .p (.int .i64 m.length)), (5, .p (.bool (decide ((df, (0 : Int)) ∈ m.take k)))), (6, .p (.int .i64 k))], [((1, 0), .box [.p (.str (ba nm)), .p (.int .i64 lo), .p (.int .i64 df), .p (.int .i64 hi), .p (.sl 2 (m.map pRow))])]⟩) (fun k => pre m k) (fun k hk hpre => ?_) ⟨by simp, fun i _ _ h => by omega⟩ (by simp)
  by_cases h : k < m.length
  · obtain ⟨⟨u1, u2⟩, eu⟩ : ∃ x, m[k] = x := ⟨_, rfl⟩
    have hu : m[k]? = some (u1, u2) := by rw [List.getElem?_eq_getElem h, eu]
    have w : R ((k : Int) + 1) := ⟨by omega, by omega⟩
    have cz : decide ((df, (0 : Int)) ∈ m.take (k + 1)) = (decide ((df, (0 : Int)) ∈ m.take k) || (decide (u1 = df) && decide (u2 = 0))) := by
      rw [ci, ci, List.take_add_one, hu]; simp
    have noc : ¬ CO u2 → chkS ⟨nm, lo, df, hi, m⟩ = 10 := fun h1 => no fun h2 => h1 (h2.co _ (List.mem_of_getElem? hu))
    simp -dsimp [h, eu, pRow]
    refine call_p (b19' u2) rfl (by simp) ?_
    by_cases r1 : CO u2
    rotate_left
    · have := noc r1
      simp -dsimp [r1, this]
    have fin : ∀ (hp : pre m (k + 1)), True := fun _ => trivial
    generalize decide ((df, (0 : Int)) ∈ m.take k) = z at cz ⊢
    generalize decide ((df, (0 : Int)) ∈ m.take (k + 1)) = z' at cz ⊢
    by_cases r2 : k = 0
    · subst r2
      have hp : pre m (0 + 1) := ⟨take_succ_all (p := fun p : Int × Int => CO p.2) hu hpre.1 r1, fun i _ _ h => by omega⟩
      cases z with
      | true =>
        rw [Bool.true_or] at cz
        simp -dsimp [r1, wr w, cz, hm0]; exact ⟨hp, wr ⟨by omega, by omega⟩⟩
      | false =>
        rw [Bool.false_or] at cz
        simp -dsimp [r1, wr w, cz, hm0]; exact ⟨hp, wr ⟨by omega, by omega⟩⟩
    · have hk0 : (0 : Int) < k := by omega
      have hk0n : 0 < k := by omega
      have d1n : 1 ≤ k := by omega
      have w2 : R ((k : Int) - 1) := ⟨by omega, by omega⟩
      have d1 : (1 : Int) ≤ k := by omega
      have d1' : (0 : Int) ≤ (k : Int) - 1 := by omega
      have d2 : ((k : Int) - 1).toNat = k - 1 := by omega
      have d3 : k - 1 < m.length := by omega
      obtain ⟨⟨t1, t2⟩, et⟩ : ∃ x, m[k - 1] = x := ⟨_, rfl⟩
      have hT : m[k - 1]? = some (t1, t2) := by rw [List.getElem?_eq_getElem d3, et]
      have hu' : m[k - 1 + 1]? = some (u1, u2) := by rw [show k - 1 + 1 = k by omega]; exact hu
      have bad : ¬ UP (t1, t2) (u1, u2) → chkS ⟨nm, lo, df, hi, m⟩ = 10 := fun h1 => no fun h2 => h1 (up_get h2.up hT hu')
      by_cases r3 : u1 ≤ t1
      · have := bad fun h => by have := h.1; dsimp only at this; omega
        simp -dsimp [r1, hk0, hk0n, d1n, wr w2, d1, d1', d2, d3, et, hT, pRow, r3, this]
      by_cases r4 : u2 < t2
      · have := bad fun h => by have := h.2; dsimp only at this; omega
        simp -dsimp [r1, hk0, hk0n, d1n, wr w2, d1, d1', d2, d3, et, hT, pRow, r3, r4, this]
      have hup : UP (t1, t2) (u1, u2) := ⟨by dsimp only; omega, by dsimp only; omega⟩
      have hp : pre m (k + 1) := ⟨take_succ_all (p := fun p : Int × Int => CO p.2) hu hpre.1 r1, fun i x y hi' h1 h2 => by
        by_cases hik : i + 1 = k
        · have : i = k - 1 := by omega
          subst this
          rw [hT] at h1; rw [hu'] at h2
          simp at h1 h2; subst h1 h2; exact hup
        · exact hpre.2 i x y (by omega) h1 h2⟩
      cases z with
      | true =>
        rw [Bool.true_or] at cz
        simp -dsimp [r1, hk0, hk0n, d1n, wr w, wr w2, d1, d1', d2, d3, et, hT, pRow, r3, r4, cz, h]; exact hp
      | false =>
        rw [Bool.false_or] at cz
        simp -dsimp [r1, hk0, hk0n, d1n, wr w, wr w2, d1, d1', d2, d3, et, hT, pRow, r3, r4, cz, h]; exact hp
  · have : k = m.length := by omega
    subst this
    obtain ⟨p1, p2⟩ := pre_all hpre
    rw [List.take_length]
    by_cases q9 : (df, (0 : Int)) ∈ m
    · have : chkS ⟨nm, lo, df, hi, m⟩ = 0 := chk_ok hn ⟨by dsimp only; omega, by dsimp only; omega, by dsimp only; omega, by dsimp only; omega, by dsimp only; omega, by dsimp only; omega, by dsimp only; rw [g0]; exact q7, by dsimp only; rw [gl]; exact q8, q9, p2, p1⟩
      simp -dsimp [q9, this]
    · have := no fun h => q9 h.dm
      simp -dsimp [q9, this]
end Go.Abs.A09
namespace Go.Abs.A09
open Go Go.Abs Go.Proofs
set_option maxRecDepth 100000
set_option linter.unusedVariables false
set_option linter.unusedSimpArgs false
attribute [local simp ↓] awp_skip awp_seq awp_cond awp_block awp_exit awp_ret awp_reg awp_draw awp_ghost awp_loop awp_rfun awpR_nil awpR_cons awpX_nil awpX_0 awpX_1 awpX_2 awpI_eq awpI_t awpI_f awpStep_eq
attribute [local simp] condL_true condL_false condL_dec evDel evV evN evS evA initFr Ghost.app Fr.var Fr.blk Fr.ff FF.val Abs.look Fr.app Fr.erase Fr.noSlot AV.noSlot AV.noSlotL Blk.noSlot Fr.spoken AV.fz AV.fzL Blk.fz binV binI shI binS unV fillA FF.parts FF.vals headO intO boundO lenV scalarEq leavesEq AV.aggc AV.cells FF.read FF.rows AV.one PV.one chunk freshB newS pickV retK evRs evRl evR resOf mkTup mkAgg allP cloOf okP_nil okX_p okX okP addN Del.noSlot Del.owners Rnd reify_p normM insM Fr.back Fr.backV Fr.setPs normV insV
noncomputable def lineS (x f0 f1 t0 t1 : Int) : Int × Bool :=
  if SM x ∧ SM f0 ∧ SM f1 ∧ SM t0 ∧ SM t1 ∧ f0 < t0 ∧ f0 ≤ x ∧ x ≤ t0 then (f1 + roundS ((x - f0) * (t1 - f1)) (t0 - f0), true) else (0, false)
theorem roundS_add {a n d : Int} (hd : 1 ≤ d) : roundS (a * d + n) d = a + roundS n d := by
  unfold roundS
  have e1 : (a * d + n) % d = n % d := by rw [Int.add_comm, Int.mul_comm]; exact Int.add_mul_emod_self_left n d a
  have e2 : (a * d + n) / d = a + n / d := by
    rw [Int.add_comm (a * d), Int.add_mul_ediv_right _ _ (by omega)]; omega
  rw [e1, e2]
  split <;> omega
theorem lineB {x f0 f1 t0 t1 : Int} (h0 : SM x) (h1 : SM f0) (h2 : SM f1) (h3 : SM t0) (h4 : SM t1) (h5 : f0 < t0) (h6 : f0 ≤ x) (h7 : x ≤ t0) :
    -4398046511104 ≤ (x - f0) * (t1 - f1) ∧ (x - f0) * (t1 - f1) ≤ 4398046511104 ∧ -4398046511104 ≤ f1 * (t0 - f0) ∧ f1 * (t0 - f0) ≤ 4398046511104 := by
  unfold SM at *
  have a1 : (x - f0) * (-2097152) ≤ (x - f0) * (t1 - f1) := Int.mul_le_mul_of_nonneg_left (by omega) (by omega)
  have a2 : (x - f0) * (t1 - f1) ≤ (x - f0) * 2097152 := Int.mul_le_mul_of_nonneg_left (by omega) (by omega)
  have a3 : (-1048576) * (t0 - f0) ≤ f1 * (t0 - f0) := Int.mul_le_mul_of_nonneg_right (by omega) (by omega)
  have a4 : f1 * (t0 - f0) ≤ 1048576 * (t0 - f0) := Int.mul_le_mul_of_nonneg_right (by omega) (by omega)
  omega
theorem lineN {x f0 f1 t0 t1 : Int} (h : ¬ (SM x ∧ SM f0 ∧ SM f1 ∧ SM t0 ∧ SM t1 ∧ f0 < t0 ∧ f0 ≤ x ∧ x ≤ t0)) : lineS x f0 f1 t0 t1 = (0, false) := if_neg h
theorem roundS_bd {n d m : Int} (hd : 1 ≤ d) (h1 : -m ≤ n) (h2 : n ≤ m) (hm : 0 ≤ m) : -m - 1 ≤ roundS n d ∧ roundS n d ≤ m + 1 := by
  have a1 := ediv_le (n := n) (d := d) h2 hm hd
  have a2 : -m ≤ n / d := by
    refine Int.le_ediv_of_mul_le (by omega) ?_
    have : (-m) * d ≤ (-m) * 1 := Int.mul_le_mul_of_nonpos_left (by omega) hd
    omega
  unfold roundS
  split <;> omega
theorem b53t (ns : List Int) (hl : ns.length ≤ 9223372036854775807) (h : ∀ n ∈ ns, SM n) : Best Tryd.prog 53 [.sl 1 (ns.map intRow)] (.p (.bool true)) := by
  have := b53 ns hl; rwa [decide_eq_true h] at this
theorem b53f (ns : List Int) (hl : ns.length ≤ 9223372036854775807) (h : ¬ ∀ n ∈ ns, SM n) : Best Tryd.prog 53 [.sl 1 (ns.map intRow)] (.p (.bool false)) := by
  have := b53 ns hl; rwa [decide_eq_false h] at this
theorem b18 {x f0 f1 t0 t1 : Int} : Best Tryd.prog 18 [.int .i64 x, .agg [.int .i64 f0, .int .i64 f1], .agg [.int .i64 t0, .int .i64 t1]] (.p (.tup [.int .i64 (lineS x f0 f1 t0 t1).1, .bool (lineS x f0 f1 t0 t1).2])) := by
  refine best mixed fn18 ok18 (by simp) ?_
  simp -dsimp [ac18]
  by_cases h : ∀ n ∈ [x, f0, f1, t0, t1], SM n
  · refine call_f (b53t [x, f0, f1, t0, t1] (by simp) h) (by simp [FF.reifyL, FF.reify, FF.rows, Fr.ff, Fr.blk, Fr.app, look, chunk, intRow, List.range, List.range.loop]) rfl (by simp) ?_
    have h' := h
    simp only [List.mem_cons, List.not_mem_nil, or_false, forall_eq_or_imp, forall_eq] at h'
    obtain ⟨s0, s1, s2, s3, s4⟩ := h'
    by_cases h5 : f0 ≥ t0
    · have e := lineN (x := x) (f0 := f0) (f1 := f1) (t0 := t0) (t1 := t1) (by omega)
      simp -dsimp [h5, e]
    · by_cases h6 : x < f0
      · have e := lineN (x := x) (f0 := f0) (f1 := f1) (t0 := t0) (t1 := t1) (by omega)
        simp -dsimp [h5, h6, e]
      · by_cases h7 : x > t0
        · have e := lineN (x := x) (f0 := f0) (f1 := f1) (t0 := t0) (t1 := t1) (by omega)
          simp -dsimp [h5, h6, h7, e]
        · have hb := lineB s0 s1 s2 s3 s4 (by omega) (by omega) (by omega)
          have e : lineS x f0 f1 t0 t1 = (f1 + roundS ((x - f0) * (t1 - f1)) (t0 - f0), true) := if_pos ⟨s0, s1, s2, s3, s4, by omega, by omega, by omega⟩
          have hr := roundS_bd (n := (x - f0) * (t1 - f1)) (d := t0 - f0) (m := 4398046511104) (by omega) (by omega) (by omega) (by omega)
          unfold SM at s0 s1 s2 s3 s4
          have w1 : R (x - f0) := ⟨by omega, by omega⟩
          have w2 : R (t1 - f1) := ⟨by omega, by omega⟩
          have w3 : R (t0 - f0) := ⟨by omega, by omega⟩
          have w4 : R ((x - f0) * (t1 - f1)) := ⟨by omega, by omega⟩
          have w5 : R (f1 + roundS ((x - f0) * (t1 - f1)) (t0 - f0)) := ⟨by omega, by omega⟩
          simp -dsimp [h5, h6, h7, e, wr w1, wr w2, wr w3, wr w4]
          refine call_p (b54 w4 (by omega) w3) rfl (by simp) ?_
          have d1 : ¬ t0 - f0 < 1 := by omega
          have d2 : 1 ≤ t0 - f0 := by omega
          simp -dsimp [d1, d2, wr w5, e]
  · have e := lineN (x := x) (f0 := f0) (f1 := f1) (t0 := t0) (t1 := t1) (fun q => h (by simp [q]))
    refine call_f (b53f [x, f0, f1, t0, t1] (by simp) h) (by simp [FF.reifyL, FF.reify, FF.rows, Fr.ff, Fr.blk, Fr.app, look, chunk, intRow, List.range, List.range.loop]) rfl (by simp) ?_
    simp -dsimp [e]
theorem b67' (n : Int) : Best Tryd.prog 67 [.int .i64 n] (.p (.bool (decide (SM n)))) := by
  have e : (decide (-1048576 ≤ n) && decide (n ≤ 1048576)) = decide (SM n) := by rw [← Bool.decide_and]; rfl
  rw [← e]; exact b67 n
theorem b52 {x f0 f1 t0 t1 : Int} : Best Tryd.prog 52 [.int .i64 x, .agg [.int .i64 f0, .int .i64 f1], .agg [.int .i64 t0, .int .i64 t1]] (.p (.tup [.int .i64 (lineS x f0 f1 t0 t1).1, .bool (lineS x f0 f1 t0 t1).2])) := by
  refine best mixed fn52 ok52 (by simp) ?_
  simp -dsimp [ac52]
  refine call_p (b67' x) rfl (by simp) ?_
  by_cases s0 : SM x
  rotate_left
  · have e := lineN (x := x) (f0 := f0) (f1 := f1) (t0 := t0) (t1 := t1) (fun q => s0 q.1)
    simp -dsimp [s0, e]
  simp -dsimp [s0]
  refine call_p (b67' f0) rfl (by simp) ?_
  by_cases s1 : SM f0
  rotate_left
  · have e := lineN (x := x) (f0 := f0) (f1 := f1) (t0 := t0) (t1 := t1) (fun q => s1 q.2.1)
    simp -dsimp [s1, e]
  simp -dsimp [s1]
  refine call_p (b67' f1) rfl (by simp) ?_
  by_cases s2 : SM f1
  rotate_left
  · have e := lineN (x := x) (f0 := f0) (f1 := f1) (t0 := t0) (t1 := t1) (fun q => s2 q.2.2.1)
    simp -dsimp [s2, e]
  simp -dsimp [s2]
  refine call_p (b67' t0) rfl (by simp) ?_
  by_cases s3 : SM t0
  rotate_left
  · have e := lineN (x := x) (f0 := f0) (f1 := f1) (t0 := t0) (t1 := t1) (fun q => s3 q.2.2.2.1)
    simp -dsimp [s3, e]
  simp -dsimp [s3]
  refine call_p (b67' t1) rfl (by simp) ?_
  by_cases s4 : SM t1
  rotate_left
  · have e := lineN (x := x) (f0 := f0) (f1 := f1) (t0 := t0) (t1 := t1) (fun q => s4 q.2.2.2.2.1)
    simp -dsimp [s4, e]
  by_cases h5 : f0 ≥ t0
  · have e := lineN (x := x) (f0 := f0) (f1 := f1) (t0 := t0) (t1 := t1) (by omega)
    simp -dsimp [s4, h5, e]
  by_cases h6 : x < f0
  · have e := lineN (x := x) (f0 := f0) (f1 := f1) (t0 := t0) (t1 := t1) (by omega)
    simp -dsimp [s4, h5, h6, e]
  by_cases h7 : x > t0
  · have e := lineN (x := x) (f0 := f0) (f1 := f1) (t0 := t0) (t1 := t1) (by omega)
    simp -dsimp [s4, h5, h6, h7, e]
  have hb := lineB s0 s1 s2 s3 s4 (by omega) (by omega) (by omega)
  have e : lineS x f0 f1 t0 t1 = (f1 + roundS ((x - f0) * (t1 - f1)) (t0 - f0), true) := if_pos ⟨s0, s1, s2, s3, s4, by omega, by omega, by omega⟩
  have ra := roundS_add (a := f1) (n := (x - f0) * (t1 - f1)) (d := t0 - f0) (by omega)
  have s4' := s4
  unfold SM at s0 s1 s2 s3 s4'
  have w1 : R (x - f0) := ⟨by omega, by omega⟩
  have w2 : R (t1 - f1) := ⟨by omega, by omega⟩
  have w3 : R (t0 - f0) := ⟨by omega, by omega⟩
  have w4 : R ((x - f0) * (t1 - f1)) := ⟨by omega, by omega⟩
  have w5 : R (f1 * (t0 - f0)) := ⟨by omega, by omega⟩
  have w6 : R (f1 * (t0 - f0) + (x - f0) * (t1 - f1)) := ⟨by omega, by omega⟩
  simp -dsimp [s4, h5, h6, h7, e, wr w1, wr w2, wr w3, wr w4, wr w5, wr w6]
  refine call_p (b79 w6 (by omega) w3) rfl (by simp) ?_
  have d1 : ¬ t0 - f0 < 1 := by omega
  have d2 : 1 ≤ t0 - f0 := by omega
  simp -dsimp [d1, d2, ra, e]
end Go.Abs.A09
namespace Go.Abs.A09
open Go Go.Abs Go.Proofs
set_option maxRecDepth 100000
set_option linter.unusedVariables false
set_option linter.unusedSimpArgs false
attribute [local simp ↓] awp_skip awp_seq awp_cond awp_block awp_exit awp_ret awp_reg awp_draw awp_ghost awp_loop awp_rfun awpR_nil awpR_cons awpX_nil awpX_0 awpX_1 awpX_2 awpI_eq awpI_t awpI_f awpStep_eq
attribute [local simp] condL_true condL_false condL_dec evDel evV evN evS evA initFr Ghost.app Fr.var Fr.blk Fr.ff FF.val Abs.look Fr.app Fr.erase Fr.noSlot AV.noSlot AV.noSlotL Blk.noSlot Fr.spoken AV.fz AV.fzL Blk.fz binV binI shI binS unV fillA FF.parts FF.vals headO intO boundO lenV scalarEq leavesEq AV.aggc AV.cells FF.read FF.rows AV.one PV.one chunk freshB newS pickV retK evRs evRl evR resOf mkTup mkAgg allP cloOf okP_nil okX_p okX okP addN Del.noSlot Del.owners Rnd reify_p normM insM Fr.back Fr.backV Fr.setPs normV insV
attribute [local simp] FF.reify FF.reifyL PV.flat
/-- Where a choice lies among the points. -/
def seat (m : List (Int × Int)) (x : Int) : Nat := m.findIdx fun p => decide (x ≤ p.1)
open Classical in
noncomputable def normS (a : Ax) (v : Int) : Int :=
  if chkS a = 0 then
    (if (a.m.getD (seat a.m (max a.lo (min v a.hi))) (0, 0)).1 = max a.lo (min v a.hi) then (a.m.getD (seat a.m (max a.lo (min v a.hi))) (0, 0)).2
     else (lineS (max a.lo (min v a.hi)) (a.m.getD (seat a.m (max a.lo (min v a.hi)) - 1) (0, 0)).1 (a.m.getD (seat a.m (max a.lo (min v a.hi)) - 1) (0, 0)).2 (a.m.getD (seat a.m (max a.lo (min v a.hi))) (0, 0)).1 (a.m.getD (seat a.m (max a.lo (min v a.hi))) (0, 0)).2).1)
  else 0
theorem getD_of {m : List (Int × Int)} {i : Nat} {x : Int × Int} (h : m[i]? = some x) : m.getD i (0, 0) = x := by simp [List.getD, h]
/-- What is known of the seat. -/
theorem seat_spec {a : Ax} (hA : AXP a) {x : Int} (h1 : a.lo ≤ x) (h2 : x ≤ a.hi) : seat a.m x < a.m.length ∧ (∀ i, i < seat a.m x → (a.m.getD i (0, 0)).1 < x) ∧ (∀ i, seat a.m x ≤ i → i < a.m.length → x ≤ (a.m.getD i (0, 0)).1) ∧ (seat a.m x = 0 → (a.m.getD 0 (0, 0)).1 = x) := by
  have hn := hA.n1
  have hlt : seat a.m x < a.m.length := by
    rw [seat, List.findIdx_lt_length]
    refine ⟨a.m[a.m.length - 1], by simp, ?_⟩
    have := hA.fl
    rw [getD_of (List.getElem?_eq_getElem (by omega : a.m.length - 1 < a.m.length))] at this
    simp [this, h2]
  have hpos : x ≤ (a.m.getD (seat a.m x) (0, 0)).1 := by
    rw [getD_of (List.getElem?_eq_getElem hlt)]
    have := List.findIdx_getElem (p := fun p : Int × Int => decide (x ≤ p.1)) (xs := a.m) (w := hlt)
    exact of_decide_eq_true this
  refine ⟨hlt, fun i hi => ?_, fun i hi hil => ?_, fun h0 => ?_⟩
  · have hil : i < a.m.length := by omega
    rw [getD_of (List.getElem?_eq_getElem hil)]
    have := List.not_of_lt_findIdx (p := fun p : Int × Int => decide (x ≤ p.1)) (xs := a.m) hi
    simp at this
    exact this
  · rw [getD_of (List.getElem?_eq_getElem hil)]
    rw [getD_of (List.getElem?_eq_getElem hlt)] at hpos
    have := (up_le hA.up hi (List.getElem?_eq_getElem hlt) (List.getElem?_eq_getElem hil)).1
    omega
  · rw [h0] at hpos
    have := hA.f0
    omega
theorem b51 (a : Ax) (x : Int) (i : Nat) (hi : i < a.m.length) : Best Tryd.prog 51 [.int .i64 i, .ro (axC a), .ro [.int .i64 x]] (.p (.bool (decide (x ≤ (a.m.getD i (0, 0)).1)))) := by
  refine best mixed fn51 ok51 (by simp) ?_
  obtain ⟨⟨u1, u2⟩, eu⟩ : ∃ x, a.m[i] = x := ⟨_, rfl⟩
  have hu : a.m[i]? = some (u1, u2) := by rw [List.getElem?_eq_getElem hi, eu]
  have e := getD_of hu
  obtain ⟨nm, lo, df, hi', m⟩ := a
  dsimp only at *
  simp -dsimp [ac51, axC, hi, eu, hu, pRow, e]
set_option maxHeartbeats 1000000 in
theorem b16 (a : Ax) (v : Int) (hl : a.m.length ≤ 9223372036854775807) : Best Tryd.prog 16 [.agg (axC a), .int .i64 v] (.p (.int .i64 (normS a v))) := by
  refine best mixed fn16 ok16 (by simp) ?_
  have h14 := b14 a hl
  by_cases hc : chkS a = 0
  rotate_left
  · have : normS a v = 0 := if_neg hc
    generalize chkS a = c at *
    obtain ⟨nm, lo, df, hi, m⟩ := a
    simp -dsimp [ac16, axC] at h14 ⊢
    refine call_p h14 rfl (by simp) ?_
    simp -dsimp [hc, this]
  have hA := (chk_zero.1 hc).2
  have hb1 := hA.b1
  have hb2 := hA.b2
  have hb3 := hA.b3
  have hb4 := hA.b4
  have hnorm : normS a v = _ := if_pos hc
  rw [hc] at h14
  obtain ⟨x, hx⟩ : ∃ x, max a.lo (min v a.hi) = x := ⟨_, rfl⟩
  rw [hx] at hnorm
  have h49 := b49 v a.lo a.hi
  rw [hx] at h49
  obtain ⟨p1, p2, p3, p4⟩ := seat_spec hA (x := x) (by omega) (by omega)
  have h50 := b50 (f := 51) (ca := [.ro (axC a), .ro [.int .i64 x]]) (q := fun i => decide (x ≤ (a.m.getD i (0, 0)).1)) (n := a.m.length) (by have := hA.n2; omega) (fun i hi => b51 a x i hi) (k0 := seat a.m x) (by omega) (fun i hi => decide_eq_false (by have := p2 i hi; omega)) (fun i h1 h2 => decide_eq_true (p3 i h1 h2))
  generalize seat a.m x = K at *
  obtain ⟨⟨u1, u2⟩, eu⟩ : ∃ x, a.m[K] = x := ⟨_, rfl⟩
  have hu : a.m[K]? = some (u1, u2) := by rw [List.getElem?_eq_getElem p1, eu]
  rw [getD_of hu] at hnorm
  have w1 : R ((K : Int) - 1) := ⟨by omega, by omega⟩
  have hK0 : u1 ≠ x → 1 ≤ K := fun h => by
    rcases Nat.eq_zero_or_pos K with h0 | h0
    · subst h0; have := p4 rfl; rw [getD_of hu] at this; exact absurd this h
    · exact h0
  obtain ⟨⟨t1, t2⟩, ht⟩ : ∃ z, a.m.getD (K - 1) (0, 0) = z := ⟨_, rfl⟩
  have ht' : a.m[K - 1]? = some (t1, t2) := by
    rw [List.getElem?_eq_getElem (by omega)]
    rw [getD_of (List.getElem?_eq_getElem (by omega : K - 1 < a.m.length))] at ht
    rw [ht]
  have et : ∀ h : K - 1 < a.m.length, a.m[K - 1] = (t1, t2) := fun h => by rw [List.getElem?_eq_getElem h] at ht'; simpa using ht'
  rw [ht] at hnorm
  have d3 : K - 1 < a.m.length := by omega
  have et := et d3
  clear hc hA p2 p3 p4
  obtain ⟨nm, lo, df, hi, m⟩ := a
  dsimp only at *
  simp -dsimp [ac16, axC] at h14 ⊢
  refine call_p h14 rfl (by simp) ?_
  simp -dsimp
  refine call_p h49 rfl (by simp) ?_
  simp -dsimp
  refine call_f h50 (by simp [axC]) rfl (by simp) ?_
  by_cases q : u1 = x
  · rw [if_pos q] at hnorm
    simp -dsimp [p1, eu, hu, pRow, q, hnorm]
  · rw [if_neg q] at hnorm
    have hK := hK0 q
    have d1 : (1 : Int) ≤ K := by omega
    have d1' : (0 : Int) ≤ (K : Int) - 1 := by omega
    have d2 : ((K : Int) - 1).toNat = K - 1 := by omega
    simp -dsimp [p1, eu, hu, pRow, q, wr w1, d1, d1', d2, d3, et, ht', hK]
    refine call_p b18 rfl (by simp) ?_
    simp -dsimp [hnorm]

set_option maxHeartbeats 1000000 in
theorem b17 (a : Ax) (v : Int) (hl : a.m.length ≤ 9223372036854775807) (hnl : a.nm.length ≤ 9223372036854775807) : Best Tryd.prog 17 [.agg (axC a), .int .i64 v] (.p (.int .i64 (normS a v))) := by
  refine best mixed fn17 ok17 (by simp) ?_
  have h15 := b15 a hl hnl
  by_cases hc : chkS a = 0
  rotate_left
  · have : normS a v = 0 := if_neg hc
    generalize chkS a = c at *
    obtain ⟨nm, lo, df, hi, m⟩ := a
    simp -dsimp [ac17, axC] at h15 ⊢
    refine call_p h15 rfl (by simp) ?_
    simp -dsimp [hc, this]
  have hA := (chk_zero.1 hc).2
  have hb1 := hA.b1
  have hb2 := hA.b2
  have hb3 := hA.b3
  have hb4 := hA.b4
  have hn1 := hA.n1
  have hf0 := hA.f0
  have hfl := hA.fl
  have hup := hA.up
  have hnorm : normS a v = _ := if_pos hc
  rw [hc] at h15
  obtain ⟨x, hx⟩ : ∃ x, max a.lo (min v a.hi) = x := ⟨_, rfl⟩
  rw [hx] at hnorm
  have hx1 : a.lo ≤ x := by omega
  have hx2 : x ≤ a.hi := by omega
  obtain ⟨p1, p2, p3, p4⟩ := seat_spec hA hx1 hx2
  generalize seat a.m x = K at *
  clear hc hA
  obtain ⟨nm, lo, df, hi, m⟩ := a
  dsimp only at *
  simp -dsimp [ac17, axC] at h15 ⊢
  refine call_p h15 rfl (by simp) ?_
  simp -dsimp [hx]
  refine loopC m.length (fun k => ⟨[(2, .ptr (2, 0) 5 0 0), (5, .p (.int .i64 x)), (6, .p (.int .i64 k))], [((2, 0), .box [.p (.str (ba nm)), .p (.int .i64 lo), .p (.int .i64 df), .p (.int .i64 hi), .p (.sl 2 (m.map pRow))])]⟩) (fun k => (∀ i, i < k → (m.getD i (0, 0)).1 < x) ∧ (k < m.length → (m.getD k (0, 0)).1 ≤ x)) (fun k hk hQ => ?_) ⟨fun i h => by omega, fun _ => by omega⟩ (by simp)
  obtain ⟨hQ1, hQ2⟩ := hQ
  by_cases h : k < m.length
  · obtain ⟨⟨u1, u2⟩, eu⟩ : ∃ x, m[k] = x := ⟨_, rfl⟩
    have hu : m[k]? = some (u1, u2) := by rw [List.getElem?_eq_getElem h, eu]
    have w : R ((k : Int) + 1) := ⟨by omega, by omega⟩
    have gk := getD_of hu
    by_cases q : u1 = x
    · have hKk : K = k := by
        rcases Nat.lt_trichotomy K k with h1 | h1 | h1
        · have a1 := hQ1 K h1
          have a2 := p3 K (Nat.le_refl _) p1
          omega
        · exact h1
        · have a1 := p2 k h1
          rw [gk] at a1; dsimp only at a1; omega
      subst hKk
      rw [gk, if_pos q] at hnorm
      simp -dsimp [h, eu, hu, pRow, q, hnorm]
    · have hlt : u1 < x := by have := hQ2 h; rw [gk] at this; dsimp only at this; omega
      have hk1 : k + 1 < m.length := by
        rcases Nat.lt_or_ge (k + 1) m.length with h1 | h1
        · exact h1
        · have : k = m.length - 1 := by omega
          rw [this] at gk
          rw [gk] at hfl; dsimp only at hfl; omega
      obtain ⟨⟨v1, v2⟩, ev⟩ : ∃ x, m[k + 1] = x := ⟨_, rfl⟩
      have hv : m[k + 1]? = some (v1, v2) := by rw [List.getElem?_eq_getElem hk1, ev]
      have gv := getD_of hv
      have d1 : (0 : Int) ≤ (k : Int) + 1 := by omega
      have d2 : ((k : Int) + 1).toNat = k + 1 := by omega
      by_cases r : x < v1
      · have hKk : K = k + 1 := by
          rcases Nat.lt_trichotomy K (k + 1) with h1 | h1 | h1
          · have a2 := p3 K (Nat.le_refl _) p1
            by_cases hKe : K = k
            · subst hKe; rw [gk] at a2; dsimp only at a2; omega
            · have a1 := hQ1 K (by omega); omega
          · exact h1
          · have a1 := p2 (k + 1) h1
            rw [gv] at a1; dsimp only at a1; omega
        subst hKk
        have e1 : k + 1 - 1 = k := by omega
        rw [gv, e1, gk, if_neg (by dsimp only; omega)] at hnorm
        simp -dsimp [h, eu, hu, pRow, q, hlt, wr w, d1, d2, hk1, ev, hv, r]
        refine call_p b52 rfl (by simp) ?_
        simp -dsimp [hnorm]
      · simp -dsimp [h, eu, hu, pRow, q, hlt, wr w, d1, d2, hk1, ev, hv, r]
        refine ⟨fun i hi' => ?_, ?_⟩
        · by_cases hik : i = k
          · subst hik; have := gk; simp [List.getD, hu]; exact hlt
          · have := hQ1 i (by omega); simpa [List.getD] using this
        · omega
  · exfalso
    have := hQ1 (m.length - 1) (by omega)
    omega
end Go.Abs.A09
namespace Go.Abs.A09
open Go Go.Abs Go.Proofs
set_option maxRecDepth 100000
set_option linter.unusedVariables false
set_option linter.unusedSimpArgs false
attribute [local simp ↓] awp_skip awp_seq awp_cond awp_block awp_exit awp_ret awp_reg awp_draw awp_ghost awp_loop awp_rfun awpR_nil awpR_cons awpX_nil awpX_0 awpX_1 awpX_2 awpI_eq awpI_t awpI_f awpStep_eq
attribute [local simp] condL_true condL_false condL_dec evDel evV evN evS evA initFr Ghost.app Fr.var Fr.blk Fr.ff FF.val Abs.look Fr.app Fr.erase Fr.noSlot AV.noSlot AV.noSlotL Blk.noSlot Fr.spoken AV.fz AV.fzL Blk.fz binV binI shI binS unV fillA FF.parts FF.vals headO intO boundO lenV scalarEq leavesEq AV.aggc AV.cells FF.read FF.rows AV.one PV.one chunk freshB newS pickV retK evRs evRl evR resOf mkTup mkAgg allP cloOf okP_nil okX_p okX okP addN Del.noSlot Del.owners Rnd reify_p normM insM Fr.back Fr.backV Fr.setPs normV insV
/-- A tent and a range meet. -/
def TC (t : T3) (p : Int × Int) : Prop := t.p = 0 ∨ (min (t.f + 1) t.p ≤ p.2 ∧ p.1 ≤ max (t.t - 1) t.p)
instance {t : T3} {p : Int × Int} : Decidable (TC t p) := inferInstanceAs (Decidable (_ ∨ _ ∧ _))
def TO (r : List T3) (l : List (Int × Int)) : Prop := RG l l.length ∧ RI r l.length ∧ ∀ x ∈ r.zip l, TC x.1 x.2
instance {r : List T3} {l : List (Int × Int)} : Decidable (TO r l) := inferInstanceAs (Decidable (_ ∧ _ ∧ _))
theorem b36 (r : List T3) (l : List (Int × Int)) (hr : r.length ≤ 9223372036854775807) (hl : l.length ≤ 9223372036854775807) : Best Tryd.prog 36 [.agg [.sl 3 (r.map tRow)], .sl 2 (l.map pRow)] (.p (.bool (decide (TO r l)))) := by
  refine best mixed fn36 ok36 (by simp) ?_
  simp -dsimp [ac36]
  refine call_p (b32 l l.length hl) rfl (by simp) ?_
  by_cases h1 : RG l l.length
  rotate_left
  · have : ¬ TO r l := fun h => h1 h.1
    simp -dsimp [h1, this]
  simp -dsimp [h1]
  refine call_p (b23 r l.length hr) rfl (by simp) ?_
  by_cases h2 : RI r l.length
  rotate_left
  · have : ¬ TO r l := fun h => h2 h.2.1
    simp -dsimp [h2, this]
  simp -dsimp [h2]
  refine call_p (b72 (r.map tRow) (l.map pRow)) rfl (by simp) ?_
  simp -dsimp
  refine rfunL_rule rfl rfl (g91 r l hr) (fun k F => F = ⟨[(4, .ptr (4, 0) 1 0 0), (24, .p (.clo (.func 91) [] [.ro [.sl 3 (r.map tRow)], .ro [.sl 2 (l.map pRow)]]))], [((4, 0), .box [.p (.bool false)])]⟩ ∧ ∀ x ∈ (r.zip l).take k, TC x.1 x.2) ?_ ?_ ⟨by simp, by simp⟩
  · rintro k z F hz ⟨hF, hall⟩
    obtain ⟨⟨x1, x2, x3⟩, ⟨y1, y2⟩, hxy, rfl⟩ := zipS_inv hz
    refine ⟨by simp, ?_⟩
    have hT : TE ⟨x1, x2, x3⟩ := h2.2.2.2 _ (List.of_mem_zip (List.mem_of_getElem? hxy)).1
    have no : ¬ TC ⟨x1, x2, x3⟩ (y1, y2) → ¬ TO r l := fun h1 h2 => h1 (h2.2.2 _ (List.mem_of_getElem? hxy))
    have go : TC ⟨x1, x2, x3⟩ (y1, y2) → ∀ z ∈ (r.zip l).take (k + 1), TC z.1 z.2 := fun h => take_succ_all (p := fun z : T3 × Int × Int => TC z.1 z.2) hxy hall h
    unfold TE at hT
    dsimp only at hT
    have w1 : R (x1 + 1) := ⟨by omega, by omega⟩
    have w2 : R (x3 - 1) := ⟨by omega, by omega⟩
    by_cases q0 : x2 = 0
    · have := go (.inl q0)
      have q0d : (x2 = 0) = True := by simp [q0]
      subst hF
      simp -dsimp [vT, vP, tRow, pRow, q0d]; exact fun a b c => this (a, b, c)
    by_cases q1 : y2 < min (x1 + 1) x2
    · have := no (by unfold TC; dsimp only; omega)
      subst hF; simp -dsimp [vT, vP, tRow, pRow, q0, wr w1, wr w2, q1, this]
    by_cases q2 : max (x3 - 1) x2 < y1
    · have := no (by unfold TC; dsimp only; omega)
      subst hF; simp -dsimp [vT, vP, tRow, pRow, q0, wr w1, wr w2, q1, q2, this]
    have := go (.inr (by dsimp only; omega))
    subst hF
    simp -dsimp [vT, vP, tRow, pRow, q0, wr w1, wr w2, q1, q2]; exact fun a b c => this (a, b, c)
  · rintro F ⟨hF, hall⟩
    have hz : (zipS vT vP r l).length = (r.zip l).length := by simp [zipS]
    rw [hz, List.take_length] at hall
    have : TO r l := ⟨h1, h2, hall⟩
    subst hF; simp -dsimp [this]
end Go.Abs.A09
namespace Go.Abs.A09
open Go Go.Abs Go.Proofs
set_option maxRecDepth 100000
set_option linter.unusedVariables false
set_option linter.unusedSimpArgs false
attribute [local simp ↓] awp_skip awp_seq awp_cond awp_block awp_exit awp_ret awp_reg awp_draw awp_ghost awp_loop awp_rfun awpR_nil awpR_cons awpX_nil awpX_0 awpX_1 awpX_2 awpI_eq awpI_t awpI_f awpStep_eq
attribute [local simp] condL_true condL_false condL_dec evDel evV evN evS evA initFr Ghost.app Fr.var Fr.blk Fr.ff FF.val Abs.look Fr.app Fr.erase Fr.noSlot AV.noSlot AV.noSlotL Blk.noSlot Fr.spoken AV.fz AV.fzL Blk.fz binV binI shI binS unV fillA FF.parts FF.vals headO intO boundO lenV scalarEq leavesEq AV.aggc AV.cells FF.read FF.rows AV.one PV.one chunk freshB newS pickV retK evRs evRl evR resOf mkTup mkAgg allP cloOf okP_nil okX_p okX okP addN Del.noSlot Del.owners Rnd reify_p normM insM Fr.back Fr.backV Fr.setPs normV insV
theorem gcdI_ge {a b : Int} (ha : 0 ≤ a) (hb : 1 ≤ b) : 1 ≤ gcdI a b := by
  induction h : b.toNat using Nat.strongRecOn generalizing a b with
  | _ n ih =>
    rw [gcdI_pos (by omega)]
    have h1 := tmod_bd (n := a) (d := b) hb
    have h2 : 0 ≤ a.tmod b := Int.tmod_nonneg b ha
    by_cases h3 : 1 ≤ a.tmod b
    · exact ih (a.tmod b).toNat (by omega) (by omega) h3 rfl
    · rw [gcdI_neg (by omega)]; omega
theorem gcdI_nat : ∀ (n m : Nat), gcdI (m : Int) (n : Int) = (Nat.gcd m n : Nat) := by
  intro n
  induction n using Nat.strongRecOn with
  | _ n ih =>
    intro m
    by_cases h0 : 0 < n
    · rw [gcdI_pos (by omega), ← Int.ofNat_tmod, ih (m % n) (Nat.mod_lt _ h0), Nat.gcd_comm, ← Nat.gcd_rec, Nat.gcd_comm]
    · have : n = 0 := by omega
      subst this
      rw [gcdI_neg (by omega)]
      simp
noncomputable def timesS (a b c d : Int) : (Int × Int) × Bool :=
  if RS a b ∧ RS c d then (let g := gcdI (a * c) (b * d); if 262144 < b * d / g then ((0, 0), false) else ((a * c / g, b * d / g), true)) else ((0, 0), false)
theorem mul_bd {a c m k : Int} (h1 : 0 ≤ a) (h2 : a ≤ m) (h3 : 0 ≤ c) (h4 : c ≤ k) : 0 ≤ a * c ∧ a * c ≤ m * k := by
  refine ⟨Int.mul_nonneg h1 h3, ?_⟩
  have := Int.mul_le_mul h2 h4 h3 (by omega)
  exact this
theorem timesB {a b c d : Int} (h1 : RS a b) (h2 : RS c d) : 0 ≤ a * c ∧ a * c ≤ 68719476736 ∧ 1 ≤ b * d ∧ b * d ≤ 68719476736 ∧ 1 ≤ gcdI (a * c) (b * d) := by
  obtain ⟨p1, p2, p3, p4, p5⟩ := h1
  obtain ⟨q1, q2, q3, q4, q5⟩ := h2
  have r1 := mul_bd p3 (by omega : a ≤ 262144) q3 (by omega : c ≤ 262144)
  have r2 := mul_bd (by omega : 0 ≤ b) p2 (by omega : 0 ≤ d) q2
  have r3 : 1 * 1 ≤ b * d := Int.mul_le_mul p1 q1 (by omega) (by omega)
  refine ⟨r1.1, by omega, by omega, by omega, ?_⟩
  exact gcdI_ge r1.1 (by omega)
theorem b64 {a b c d : Int} (ha : R a) (hb : R b) (hc : R c) (hd : R d) : Best Tryd.prog 64 [.agg [.int .i64 a, .int .i64 b], .agg [.int .i64 c, .int .i64 d]] (.p (.tup [.agg [.int .i64 (timesS a b c d).1.1, .int .i64 (timesS a b c d).1.2], .bool (timesS a b c d).2])) := by
  refine best mixed fn64 ok64 (by simp) ?_
  simp -dsimp [ac64]
  refine call_p (b87 ha hb) rfl (by simp) ?_
  by_cases h1 : RS a b
  · simp -dsimp [h1]
    refine call_p (b87 hc hd) rfl (by simp) ?_
    by_cases h2 : RS c d
    · obtain ⟨p1, p2, p3, p4, p5⟩ := timesB h1 h2
      have w1 : R (a * c) := ⟨by omega, by omega⟩
      have w2 : R (b * d) := ⟨by omega, by omega⟩
      simp -dsimp [h2, wr w1, wr w2]
      refine call_p (b88 w2) rfl (by simp) ?_
      have e : timesS a b c d = if 262144 < b * d / gcdI (a * c) (b * d) then ((0, 0), false) else ((a * c / gcdI (a * c) (b * d), b * d / gcdI (a * c) (b * d)), true) := by
        unfold timesS; rw [if_pos ⟨h1, h2⟩]
      generalize gcdI (a * c) (b * d) = g at p5 e
      have g0 : g ≠ 0 := by omega
      have t1 : (a * c).tdiv g = a * c / g := Int.tdiv_eq_ediv_of_nonneg p1
      have t2 : (b * d).tdiv g = b * d / g := Int.tdiv_eq_ediv_of_nonneg (by omega)
      have w3 := R_ediv w1 p5
      have w4 := R_ediv w2 p5
      by_cases h3 : 262144 < b * d / g
      · simp -dsimp [g0, t1, t2, wr w3, wr w4, h3, e]
      · simp -dsimp [g0, t1, t2, wr w3, wr w4, h3, e]
    · simp -dsimp [timesS, h1, h2]
  · simp -dsimp [timesS, h1]
theorem b38 {a b c d : Int} (ha : R a) (hb : R b) (hc : R c) (hd : R d) : Best Tryd.prog 38 [.agg [.int .i64 a, .int .i64 b], .agg [.int .i64 c, .int .i64 d]] (.p (.tup [.agg [.int .i64 (timesS a b c d).1.1, .int .i64 (timesS a b c d).1.2], .bool (timesS a b c d).2])) := by
  refine best mixed fn38 ok38 (by simp) ?_
  simp -dsimp [ac38]
  refine call_p (b73 ha hb) rfl (by simp) ?_
  by_cases h1 : RS a b
  · simp -dsimp [h1]
    refine call_p (b73 hc hd) rfl (by simp) ?_
    by_cases h2 : RS c d
    · obtain ⟨p1, p2, p3, p4, p5⟩ := timesB h1 h2
      have w1 : R (a * c) := ⟨by omega, by omega⟩
      have w2 : R (b * d) := ⟨by omega, by omega⟩
      simp -dsimp [h2, wr w1, wr w2]
      refine call_p (b74 w2) rfl (by simp) ?_
      have e : timesS a b c d = if 262144 < b * d / gcdI (a * c) (b * d) then ((0, 0), false) else ((a * c / gcdI (a * c) (b * d), b * d / gcdI (a * c) (b * d)), true) := by
        unfold timesS; rw [if_pos ⟨h1, h2⟩]
      generalize gcdI (a * c) (b * d) = g at p5 e
      have g0 : g ≠ 0 := by omega
      have t1 : (a * c).tdiv g = a * c / g := Int.tdiv_eq_ediv_of_nonneg p1
      have t2 : (b * d).tdiv g = b * d / g := Int.tdiv_eq_ediv_of_nonneg (by omega)
      have w3 := R_ediv w1 p5
      have w4 := R_ediv w2 p5
      by_cases h3 : 262144 < b * d / g
      · simp -dsimp [g0, t1, t2, wr w3, wr w4, h3, e]
      · simp -dsimp [g0, t1, t2, wr w3, wr w4, h3, e]
    · simp -dsimp [timesS, h1, h2]
  · simp -dsimp [timesS, h1]
end Go.Abs.A09
namespace Go.Abs.A09
open Go Go.Abs Go.Proofs
set_option maxRecDepth 100000
set_option linter.unusedVariables false
set_option linter.unusedSimpArgs false
attribute [local simp ↓] awp_skip awp_seq awp_cond awp_block awp_exit awp_ret awp_reg awp_draw awp_ghost awp_loop awp_rfun awpR_nil awpR_cons awpX_nil awpX_0 awpX_1 awpX_2 awpI_eq awpI_t awpI_f awpStep_eq
attribute [local simp] condL_true condL_false condL_dec evDel evV evN evS evA initFr Ghost.app Fr.var Fr.blk Fr.ff FF.val Abs.look Fr.app Fr.erase Fr.noSlot AV.noSlot AV.noSlotL Blk.noSlot Fr.spoken AV.fz AV.fzL Blk.fz binV binI shI binS unV fillA FF.parts FF.vals headO intO boundO lenV scalarEq leavesEq AV.aggc AV.cells FF.read FF.rows AV.one PV.one chunk freshB newS pickV retK evRs evRl evR resOf mkTup mkAgg allP cloOf okP_nil okX_p okX okP addN Del.noSlot Del.owners Rnd reify_p normM insM Fr.back Fr.backV Fr.setPs normV insV
theorem wr0 : IntKind.i64.wrap 0 = 0 := wr ⟨by omega, by omega⟩
def rawS (x : T3) (n : Int) : Int × Int := if x.p = 0 ∨ n = x.p then (1, 1) else if n ≤ x.f ∨ n ≥ x.t then (0, 1) else if n < x.p then (n - x.f, x.p - x.f) else (x.t - n, x.t - x.p)
noncomputable def strS (x : T3) (n : Int) : Int × Int := ((rawS x n).1 / gcdI (rawS x n).1 (rawS x n).2, (rawS x n).2 / gcdI (rawS x n).1 (rawS x n).2)
theorem rawB {x : T3} {n : Int} (hT : TE x) (hn : CO n) : 0 ≤ (rawS x n).1 ∧ (rawS x n).1 ≤ (rawS x n).2 ∧ 1 ≤ (rawS x n).2 ∧ (rawS x n).2 ≤ 128 := by
  obtain ⟨f, p, t⟩ := x
  unfold TE at hT
  unfold CO at hn
  unfold rawS
  dsimp only at *
  split
  · simp
  · split
    · simp
    · split
      · dsimp only; omega
      · dsimp only; omega
/-- What is known at the end: the raw pair, its divisor. -/
theorem strE {x : T3} {n a b : Int} (hT : TE x) (hn : CO n) (h : rawS x n = (a, b)) : 0 ≤ a ∧ a ≤ b ∧ 1 ≤ b ∧ b ≤ 128 ∧ 1 ≤ gcdI a b ∧ strS x n = (a / gcdI a b, b / gcdI a b) := by
  have hb := rawB hT hn
  unfold strS
  rw [h] at hb ⊢
  exact ⟨hb.1, hb.2.1, hb.2.2.1, hb.2.2.2, gcdI_ge hb.1 hb.2.2.1, rfl⟩
theorem b62 {x : T3} {n : Int} (hT : TE x) (hn : CO n) : Best Tryd.prog 62 [.agg (tRow x), .int .i64 n] (.p (.agg [.int .i64 (strS x n).1, .int .i64 (strS x n).2])) := by
  refine best mixed fn62 ok62 (by simp) ?_
  obtain ⟨f, p, t⟩ := x
  have hT' := hT
  have hn' := hn
  unfold TE at hT'
  unfold CO at hn'
  dsimp only at hT'
  by_cases h1 : p = 0
  · have h1d : (p = 0) = True := by simp [h1]
    have hr : rawS ⟨f, p, t⟩ n = (1, 1) := by unfold rawS; simp only []; rw [if_pos (.inl h1)]
    obtain ⟨q1, q2, q3, q4, q5, q6⟩ := strE hT hn hr
    have wb : R (1) := ⟨by omega, by omega⟩
    have wa : R (1) := ⟨by omega, by omega⟩
    simp -dsimp [ac62, tRow, h1d, wr wb, wr wa]
    refine call_p (b86 (a := 1) wb) rfl (by simp) ?_
    generalize gcdI (1) (1) = g at q5 q6
    have g0 : g ≠ 0 := by omega
    have t1 : Int.tdiv (1) g = (1) / g := Int.tdiv_eq_ediv_of_nonneg q1
    have t2 : Int.tdiv (1) g = (1) / g := Int.tdiv_eq_ediv_of_nonneg (by omega)
    have w3 := R_ediv wa q5
    have w4 := R_ediv wb q5
    simp -dsimp [g0, t1, t2, wr w3, wr w4, q6, wr0]

  by_cases h2 : n = p
  · have h2d : (n = p) = True := by simp [h2]
    have hr : rawS ⟨f, p, t⟩ n = (1, 1) := by unfold rawS; simp only []; rw [if_pos (.inr h2)]
    obtain ⟨q1, q2, q3, q4, q5, q6⟩ := strE hT hn hr
    have wb : R (1) := ⟨by omega, by omega⟩
    have wa : R (1) := ⟨by omega, by omega⟩
    simp -dsimp [ac62, tRow, h1, h2d, wr wb, wr wa]
    refine call_p (b86 (a := 1) wb) rfl (by simp) ?_
    generalize gcdI (1) (1) = g at q5 q6
    have g0 : g ≠ 0 := by omega
    have t1 : Int.tdiv (1) g = (1) / g := Int.tdiv_eq_ediv_of_nonneg q1
    have t2 : Int.tdiv (1) g = (1) / g := Int.tdiv_eq_ediv_of_nonneg (by omega)
    have w3 := R_ediv wa q5
    have w4 := R_ediv wb q5
    simp -dsimp [g0, t1, t2, wr w3, wr w4, q6, wr0]

  have hn1 : ¬ (p = 0 ∨ n = p) := by omega
  by_cases h3 : n ≤ f
  ·
    have hr : rawS ⟨f, p, t⟩ n = (0, 1) := by unfold rawS; simp only []; rw [if_neg hn1, if_pos (.inl h3)]
    obtain ⟨q1, q2, q3, q4, q5, q6⟩ := strE hT hn hr
    have wb : R (1) := ⟨by omega, by omega⟩
    have wa : R (0) := ⟨by omega, by omega⟩
    simp -dsimp [ac62, tRow, h1, h2, h3, wr wb, wr wa]
    refine call_p (b86 (a := 0) wb) rfl (by simp) ?_
    generalize gcdI (0) (1) = g at q5 q6
    have g0 : g ≠ 0 := by omega
    have t1 : Int.tdiv (0) g = (0) / g := Int.tdiv_eq_ediv_of_nonneg q1
    have t2 : Int.tdiv (1) g = (1) / g := Int.tdiv_eq_ediv_of_nonneg (by omega)
    have w3 := R_ediv wa q5
    have w4 := R_ediv wb q5
    simp -dsimp [g0, t1, t2, wr w3, wr w4, q6, wr0]

  by_cases h4 : t ≤ n
  ·
    have hr : rawS ⟨f, p, t⟩ n = (0, 1) := by unfold rawS; simp only []; rw [if_neg hn1, if_pos (.inr h4)]
    obtain ⟨q1, q2, q3, q4, q5, q6⟩ := strE hT hn hr
    have wb : R (1) := ⟨by omega, by omega⟩
    have wa : R (0) := ⟨by omega, by omega⟩
    simp -dsimp [ac62, tRow, h1, h2, h3, h4, wr wb, wr wa]
    refine call_p (b86 (a := 0) wb) rfl (by simp) ?_
    generalize gcdI (0) (1) = g at q5 q6
    have g0 : g ≠ 0 := by omega
    have t1 : Int.tdiv (0) g = (0) / g := Int.tdiv_eq_ediv_of_nonneg q1
    have t2 : Int.tdiv (1) g = (1) / g := Int.tdiv_eq_ediv_of_nonneg (by omega)
    have w3 := R_ediv wa q5
    have w4 := R_ediv wb q5
    simp -dsimp [g0, t1, t2, wr w3, wr w4, q6, wr0]

  have hn2 : ¬ (n ≤ f ∨ n ≥ t) := by omega
  by_cases h5 : n < p
  ·
    have hr : rawS ⟨f, p, t⟩ n = (n - f, p - f) := by unfold rawS; simp only []; rw [if_neg hn1, if_neg hn2, if_pos h5]
    obtain ⟨q1, q2, q3, q4, q5, q6⟩ := strE hT hn hr
    have wb : R (p - f) := ⟨by omega, by omega⟩
    have wa : R (n - f) := ⟨by omega, by omega⟩
    simp -dsimp [ac62, tRow, h1, h2, h3, h4, h5, wr wb, wr wa]
    refine call_p (b86 (a := n - f) wb) rfl (by simp) ?_
    generalize gcdI (n - f) (p - f) = g at q5 q6
    have g0 : g ≠ 0 := by omega
    have t1 : Int.tdiv (n - f) g = (n - f) / g := Int.tdiv_eq_ediv_of_nonneg q1
    have t2 : Int.tdiv (p - f) g = (p - f) / g := Int.tdiv_eq_ediv_of_nonneg (by omega)
    have w3 := R_ediv wa q5
    have w4 := R_ediv wb q5
    simp -dsimp [g0, t1, t2, wr w3, wr w4, q6, wr0]

  have hr : rawS ⟨f, p, t⟩ n = (t - n, t - p) := by unfold rawS; simp only []; rw [if_neg hn1, if_neg hn2, if_neg h5]
  obtain ⟨q1, q2, q3, q4, q5, q6⟩ := strE hT hn hr
  have wb : R (t - p) := ⟨by omega, by omega⟩
  have wa : R (t - n) := ⟨by omega, by omega⟩
  simp -dsimp [ac62, tRow, h1, h2, h3, h4, h5, wr wb, wr wa]
  refine call_p (b86 (a := t - n) wb) rfl (by simp) ?_
  generalize gcdI (t - n) (t - p) = g at q5 q6
  have g0 : g ≠ 0 := by omega
  have t1 : Int.tdiv (t - n) g = (t - n) / g := Int.tdiv_eq_ediv_of_nonneg q1
  have t2 : Int.tdiv (t - p) g = (t - p) / g := Int.tdiv_eq_ediv_of_nonneg (by omega)
  have w3 := R_ediv wa q5
  have w4 := R_ediv wb q5
  simp -dsimp [g0, t1, t2, wr w3, wr w4, q6, wr0]
theorem b65 {x : T3} {n : Int} (hT : TE x) (hn : CO n) : Best Tryd.prog 65 [.agg (tRow x), .int .i64 n] (.p (.agg [.int .i64 (strS x n).1, .int .i64 (strS x n).2])) := by
  refine best mixed fn65 ok65 (by simp) ?_
  obtain ⟨f, p, t⟩ := x
  have hT' := hT
  have hn' := hn
  unfold TE at hT'
  unfold CO at hn'
  dsimp only at hT'
  by_cases h1 : p = 0
  · have h1d : (p = 0) = True := by simp [h1]
    have hr : rawS ⟨f, p, t⟩ n = (1, 1) := by unfold rawS; simp only []; rw [if_pos (.inl h1)]
    obtain ⟨q1, q2, q3, q4, q5, q6⟩ := strE hT hn hr
    have wb : R (1) := ⟨by omega, by omega⟩
    have wa : R (1) := ⟨by omega, by omega⟩
    simp -dsimp [ac65, tRow, h1d, wr wb, wr wa]
    refine call_p (b88 (a := 1) wb) rfl (by simp) ?_
    generalize gcdI (1) (1) = g at q5 q6
    have g0 : g ≠ 0 := by omega
    have t1 : Int.tdiv (1) g = (1) / g := Int.tdiv_eq_ediv_of_nonneg q1
    have t2 : Int.tdiv (1) g = (1) / g := Int.tdiv_eq_ediv_of_nonneg (by omega)
    have w3 := R_ediv wa q5
    have w4 := R_ediv wb q5
    simp -dsimp [g0, t1, t2, wr w3, wr w4, q6, wr0]

  by_cases h2 : n = p
  · have h2d : (n = p) = True := by simp [h2]
    have hr : rawS ⟨f, p, t⟩ n = (1, 1) := by unfold rawS; simp only []; rw [if_pos (.inr h2)]
    obtain ⟨q1, q2, q3, q4, q5, q6⟩ := strE hT hn hr
    have wb : R (1) := ⟨by omega, by omega⟩
    have wa : R (1) := ⟨by omega, by omega⟩
    simp -dsimp [ac65, tRow, h1, h2d, wr wb, wr wa]
    refine call_p (b88 (a := 1) wb) rfl (by simp) ?_
    generalize gcdI (1) (1) = g at q5 q6
    have g0 : g ≠ 0 := by omega
    have t1 : Int.tdiv (1) g = (1) / g := Int.tdiv_eq_ediv_of_nonneg q1
    have t2 : Int.tdiv (1) g = (1) / g := Int.tdiv_eq_ediv_of_nonneg (by omega)
    have w3 := R_ediv wa q5
    have w4 := R_ediv wb q5
    simp -dsimp [g0, t1, t2, wr w3, wr w4, q6, wr0]

  have hn1 : ¬ (p = 0 ∨ n = p) := by omega
  by_cases h3 : n ≤ f
  ·
    have hr : rawS ⟨f, p, t⟩ n = (0, 1) := by unfold rawS; simp only []; rw [if_neg hn1, if_pos (.inl h3)]
    obtain ⟨q1, q2, q3, q4, q5, q6⟩ := strE hT hn hr
    have wb : R (1) := ⟨by omega, by omega⟩
    have wa : R (0) := ⟨by omega, by omega⟩
    simp -dsimp [ac65, tRow, h1, h2, h3, wr wb, wr wa]
    refine call_p (b88 (a := 0) wb) rfl (by simp) ?_
    generalize gcdI (0) (1) = g at q5 q6
    have g0 : g ≠ 0 := by omega
    have t1 : Int.tdiv (0) g = (0) / g := Int.tdiv_eq_ediv_of_nonneg q1
    have t2 : Int.tdiv (1) g = (1) / g := Int.tdiv_eq_ediv_of_nonneg (by omega)
    have w3 := R_ediv wa q5
    have w4 := R_ediv wb q5
    simp -dsimp [g0, t1, t2, wr w3, wr w4, q6, wr0]

  by_cases h4 : t ≤ n
  ·
    have hr : rawS ⟨f, p, t⟩ n = (0, 1) := by unfold rawS; simp only []; rw [if_neg hn1, if_pos (.inr h4)]
    obtain ⟨q1, q2, q3, q4, q5, q6⟩ := strE hT hn hr
    have wb : R (1) := ⟨by omega, by omega⟩
    have wa : R (0) := ⟨by omega, by omega⟩
    simp -dsimp [ac65, tRow, h1, h2, h3, h4, wr wb, wr wa]
    refine call_p (b88 (a := 0) wb) rfl (by simp) ?_
    generalize gcdI (0) (1) = g at q5 q6
    have g0 : g ≠ 0 := by omega
    have t1 : Int.tdiv (0) g = (0) / g := Int.tdiv_eq_ediv_of_nonneg q1
    have t2 : Int.tdiv (1) g = (1) / g := Int.tdiv_eq_ediv_of_nonneg (by omega)
    have w3 := R_ediv wa q5
    have w4 := R_ediv wb q5
    simp -dsimp [g0, t1, t2, wr w3, wr w4, q6, wr0]

  have hn2 : ¬ (n ≤ f ∨ n ≥ t) := by omega
  by_cases h5 : n < p
  ·
    have hr : rawS ⟨f, p, t⟩ n = (n - f, p - f) := by unfold rawS; simp only []; rw [if_neg hn1, if_neg hn2, if_pos h5]
    obtain ⟨q1, q2, q3, q4, q5, q6⟩ := strE hT hn hr
    have wb : R (p - f) := ⟨by omega, by omega⟩
    have wa : R (n - f) := ⟨by omega, by omega⟩
    simp -dsimp [ac65, tRow, h1, h2, h3, h4, h5, wr wb, wr wa]
    refine call_p (b88 (a := n - f) wb) rfl (by simp) ?_
    generalize gcdI (n - f) (p - f) = g at q5 q6
    have g0 : g ≠ 0 := by omega
    have t1 : Int.tdiv (n - f) g = (n - f) / g := Int.tdiv_eq_ediv_of_nonneg q1
    have t2 : Int.tdiv (p - f) g = (p - f) / g := Int.tdiv_eq_ediv_of_nonneg (by omega)
    have w3 := R_ediv wa q5
    have w4 := R_ediv wb q5
    simp -dsimp [g0, t1, t2, wr w3, wr w4, q6, wr0]

  have hr : rawS ⟨f, p, t⟩ n = (t - n, t - p) := by unfold rawS; simp only []; rw [if_neg hn1, if_neg hn2, if_neg h5]
  obtain ⟨q1, q2, q3, q4, q5, q6⟩ := strE hT hn hr
  have wb : R (t - p) := ⟨by omega, by omega⟩
  have wa : R (t - n) := ⟨by omega, by omega⟩
  simp -dsimp [ac65, tRow, h1, h2, h3, h4, h5, wr wb, wr wa]
  refine call_p (b88 (a := t - n) wb) rfl (by simp) ?_
  generalize gcdI (t - n) (t - p) = g at q5 q6
  have g0 : g ≠ 0 := by omega
  have t1 : Int.tdiv (t - n) g = (t - n) / g := Int.tdiv_eq_ediv_of_nonneg q1
  have t2 : Int.tdiv (t - p) g = (t - p) / g := Int.tdiv_eq_ediv_of_nonneg (by omega)
  have w3 := R_ediv wa q5
  have w4 := R_ediv wb q5
  simp -dsimp [g0, t1, t2, wr w3, wr w4, q6, wr0]
end Go.Abs.A09
namespace Go.Abs.A09
open Go Go.Abs Go.Proofs
set_option maxRecDepth 100000
set_option linter.unusedVariables false
set_option linter.unusedSimpArgs false
attribute [local simp ↓] awp_skip awp_seq awp_cond awp_block awp_exit awp_ret awp_reg awp_draw awp_ghost awp_loop awp_rfun awpR_nil awpR_cons awpX_nil awpX_0 awpX_1 awpX_2 awpI_eq awpI_t awpI_f awpStep_eq
attribute [local simp] condL_true condL_false condL_dec evDel evV evN evS evA initFr Ghost.app Fr.var Fr.blk Fr.ff FF.val Abs.look Fr.app Fr.erase Fr.noSlot AV.noSlot AV.noSlotL Blk.noSlot Fr.spoken AV.fz AV.fzL Blk.fz binV binI shI binS unV fillA FF.parts FF.vals headO intO boundO lenV scalarEq leavesEq AV.aggc AV.cells FF.read FF.rows AV.one PV.one chunk freshB newS pickV retK evRs evRl evR resOf mkTup mkAgg allP cloOf okP_nil okX_p okX okP addN Del.noSlot Del.owners Rnd reify_p normM insM Fr.back Fr.backV Fr.setPs normV insV
theorem gcdI_dvd {a b : Int} (ha : 0 ≤ a) (hb : 0 ≤ b) : gcdI a b ∣ a ∧ gcdI a b ∣ b := by
  obtain ⟨m, rfl⟩ := Int.eq_ofNat_of_zero_le ha
  obtain ⟨n, rfl⟩ := Int.eq_ofNat_of_zero_le hb
  rw [gcdI_nat]
  exact ⟨Int.ofNat_dvd.2 (Nat.gcd_dvd_left m n), Int.ofNat_dvd.2 (Nat.gcd_dvd_right m n)⟩
theorem str_pos {t : T3} {n : Int} (hT : TE t) (hn : CO n) : 0 < (strS t n).1 ↔ 0 < (rawS t n).1 := by
  obtain ⟨h0, h1, h2, h3⟩ := rawB hT hn
  have hg := gcdI_ge h0 h2
  have hd := (gcdI_dvd h0 (by omega : 0 ≤ (rawS t n).2)).1
  unfold strS
  dsimp only
  constructor
  · intro h
    rcases Int.lt_or_le 0 (rawS t n).1 with h4 | h4
    · exact h4
    · have : (rawS t n).1 = 0 := by omega
      rw [this] at h; simp at h
  · intro h
    have := Int.le_of_dvd h hd
    exact Int.ediv_pos_of_pos_of_dvd h (by omega) hd
theorem raw_pos {t : T3} {n : Int} (hT : TE t) : 0 < (rawS t n).1 ↔ (t.p = 0 ∨ n = t.p ∨ (t.f < n ∧ n < t.t)) := by
  obtain ⟨f, p, t⟩ := t
  unfold TE at hT
  unfold rawS
  dsimp only at *
  split
  · simp; omega
  · split
    · simp; omega
    · split
      · dsimp only; omega
      · dsimp only; omega
theorem TC_iff {t : T3} {p : Int × Int} (hT : TE t) (hp : PG p) : (∃ n, p.1 ≤ n ∧ n ≤ p.2 ∧ 0 < (strS t n).1) ↔ TC t p := by
  have hp' := hp
  unfold PG CO at hp'
  have e : (∃ n, p.1 ≤ n ∧ n ≤ p.2 ∧ 0 < (strS t n).1) ↔ ∃ n, p.1 ≤ n ∧ n ≤ p.2 ∧ (t.p = 0 ∨ n = t.p ∨ (t.f < n ∧ n < t.t)) := by
    constructor
    · rintro ⟨n, h1, h2, h3⟩
      exact ⟨n, h1, h2, (raw_pos hT).1 ((str_pos hT ⟨by omega, by omega⟩).1 h3)⟩
    · rintro ⟨n, h1, h2, h3⟩
      exact ⟨n, h1, h2, (str_pos hT ⟨by omega, by omega⟩).2 ((raw_pos hT).2 h3)⟩
  rw [e]
  obtain ⟨f, pk, t⟩ := t
  obtain ⟨p1, p2⟩ := p
  unfold TE at hT
  unfold TC
  dsimp only at *
  constructor
  · rintro ⟨n, h1, h2, h3⟩
    omega
  · intro h
    by_cases h0 : pk = 0
    · exact ⟨p1, by omega, by omega, .inl h0⟩
    · refine ⟨max p1 (min (f + 1) pk), by omega, by omega, ?_⟩
      omega
/-- Is there a coordinate with a part, among the first? -/
def fnd (st : Int → Int × Int) (y : Int) (j : Nat) : Bool := (List.range j).any fun i => decide (0 < (st (y + i)).1)
theorem fnd_succ {st : Int → Int × Int} {y : Int} {j : Nat} : fnd st y (j + 1) = (fnd st y j || decide (0 < (st (y + j)).1)) := by
  simp [fnd, List.range_succ]
theorem fnd_iff {st : Int → Int × Int} {y : Int} {j : Nat} : fnd st y j = true ↔ ∃ i : Nat, i < j ∧ 0 < (st (y + i)).1 := by
  simp [fnd]
theorem b35 (a : List Int) (l : List (Int × Int)) (ha : a.length ≤ 9223372036854775807) : Best Tryd.prog 35 [.sl 1 (a.map intRow), .sl 2 (l.map pRow)] (.p (.bool (decide (WI a l)))) := by
  refine best mixed fn35 ok35 (by simp) ?_
  simp -dsimp [ac35]
  refine call_p (b33 l a.length) rfl (by simp) ?_
  by_cases h1 : RG l a.length
  rotate_left
  · have : ¬ WI a l := fun h => h1 h.1
    simp -dsimp [h1, this]
  simp -dsimp [h1]
  refine loopC a.length (fun k => ⟨[(0, .p (.sl 1 (a.map intRow))), (1, .p (.sl 2 (l.map pRow))), (6, .p (.int .i64 k))], []⟩) (fun k => ∀ x ∈ (a.zip l).take k, x.2.1 ≤ x.1 ∧ x.1 ≤ x.2.2) (fun k hk hall => ?_) (by simp) (by simp)
  have hlen : l.length = a.length := by have := h1.2.2.1; omega
  by_cases h : k < a.length
  · have h' : k < l.length := by omega
    obtain ⟨x, ex⟩ : ∃ x, a[k] = x := ⟨_, rfl⟩
    obtain ⟨⟨y1, y2⟩, ey⟩ : ∃ x, l[k] = x := ⟨_, rfl⟩
    have w : R ((k : Int) + 1) := ⟨by omega, by omega⟩
    have hxy : (a.zip l)[k]? = some (x, y1, y2) := zip_get (by rw [List.getElem?_eq_getElem h, ex]) (by rw [List.getElem?_eq_getElem h', ey])
    have no : ¬ (y1 ≤ x ∧ x ≤ y2) → ¬ WI a l := fun h1 h2 => h1 (h2.2 _ (List.mem_of_getElem? hxy))
    have go : y1 ≤ x ∧ x ≤ y2 → ∀ z ∈ (a.zip l).take (k + 1), z.2.1 ≤ z.1 ∧ z.1 ≤ z.2.2 := fun h => take_succ_all (p := fun z : Int × Int × Int => z.2.1 ≤ z.1 ∧ z.1 ≤ z.2.2) hxy hall h
    by_cases q1 : x < y1
    · have := no (by omega)
      simp -dsimp [h, h', ex, ey, intRow, pRow, q1, this]
    by_cases q2 : y2 < x
    · have := no (by omega)
      simp -dsimp [h, h', ex, ey, intRow, pRow, q1, q2, this]
    have := go (by omega)
    simp -dsimp [h, h', ex, ey, intRow, pRow, q1, q2, wr w]
    exact fun a b c => this (a, b, c)
  · have : k = a.length := by omega
    subst this
    have e : (a.zip l).length = a.length := by simp [hlen]
    rw [← e, List.take_length] at hall
    have : WI a l := ⟨h1, hall⟩
    simp -dsimp [this]
theorem b37 (r : List T3) (l : List (Int × Int)) : Best Tryd.prog 37 [.agg [.sl 3 (r.map tRow)], .sl 2 (l.map pRow)] (.p (.bool (decide (TO r l)))) := by
  refine best mixed fn37 ok37 (by simp) ?_
  simp -dsimp [ac37]
  refine call_p (b33 l l.length) rfl (by simp) ?_
  simp -dsimp
  refine call_p (b24 r l.length) rfl (by simp) ?_
  by_cases h1 : RG l l.length
  rotate_left
  · have : ¬ TO r l := fun h => h1 h.1
    simp -dsimp [h1, this]
  by_cases h2 : RI r l.length
  rotate_left
  · have : ¬ TO r l := fun h => h2 h.2.1
    simp -dsimp [h1, h2, this]
  simp -dsimp [h1, h2]
  have hlen : r.length = l.length := by have := h2.2.2.1; omega
  have hl3 : l.length ≤ 3 := by have := h1.2.1; omega
  refine loopC l.length (fun k => ⟨[(1, .p (.sl 2 (l.map pRow))), (2, .ptr (2, 0) 1 0 0), (7, .p (.int .i64 k))], [((2, 0), .box [.p (.sl 3 (r.map tRow))])]⟩) (fun k => ∀ x ∈ (r.zip l).take k, TC x.1 x.2) (fun k hk hall => ?_) (by simp) (by simp)
  by_cases h : k < l.length
  · have h' : k < r.length := by omega
    obtain ⟨x, ex⟩ : ∃ x, r[k] = x := ⟨_, rfl⟩
    obtain ⟨⟨y1, y2⟩, ey⟩ : ∃ x, l[k] = x := ⟨_, rfl⟩
    have w : R ((k : Int) + 1) := ⟨by omega, by omega⟩
    have hxy : (r.zip l)[k]? = some (x, y1, y2) := zip_get (by rw [List.getElem?_eq_getElem h', ex]) (by rw [List.getElem?_eq_getElem h, ey])
    have hT : TE x := h2.2.2.2 _ (List.of_mem_zip (List.mem_of_getElem? hxy)).1
    have hP : PG (y1, y2) := h1.2.2.2 _ (List.of_mem_zip (List.mem_of_getElem? hxy)).2
    have hP' := hP
    unfold PG CO at hP'
    dsimp only at hP'
    have no : ¬ TC x (y1, y2) → ¬ TO r l := fun h1 h2 => h1 (h2.2.2 _ (List.mem_of_getElem? hxy))
    have go : TC x (y1, y2) → ∀ z ∈ (r.zip l).take (k + 1), TC z.1 z.2 := fun h => take_succ_all (p := fun z : T3 × Int × Int => TC z.1 z.2) hxy hall h
    have hiff := TC_iff hT hP
    dsimp only at hiff
    have hcall := fun n (hn : CO n) => b65 (x := x) (n := n) hT hn
    generalize strS x = st at hiff hcall
    obtain ⟨x1, x2, x3⟩ := x
    simp -dsimp [h, h', ex, ey, pRow]
    refine loopC (y2 - y1 + 1).toNat (fun j => ⟨[(1, .p (.sl 2 (l.map pRow))), (2, .ptr (2, 0) 1 0 0), (7, .p (.int .i64 k)), (8, .p (.bool (fnd st y1 j))), (9, .p (.int .i64 (y1 + j)))], [((2, 0), .box [.p (.sl 3 (r.map tRow))])]⟩) (fun j => True) (fun j hj _ => ?_) trivial (by simp [fnd])
    have hext := fnd_succ (st := st) (y := y1) (j := j)
    by_cases hlt : y1 + (j : Int) ≤ y2
    · have hc := hcall (y1 + j) ⟨by omega, by omega⟩
      have w2 : R (y1 + (j : Int) + 1) := ⟨by omega, by omega⟩
      have hj' : (j : Int) < (y2 - y1 + 1).toNat := by omega
      have hj'' : j < (y2 - y1 + 1).toNat := by omega
      have eadd : y1 + ((j : Int) + 1) = y1 + j + 1 := by omega
      cases hf : fnd st y1 j with
      | true =>
        rw [hf, Bool.true_or] at hext
        simp -dsimp [h, ey, pRow, hlt, wr w2, hj'', eadd, hext]
      | false =>
        rw [hf, Bool.false_or] at hext
        simp -dsimp [tRow] at hc
        simp -dsimp [h, h', ex, ey, pRow, tRow, hlt, wr w2, hj'', eadd]
        refine call_p hc rfl (by simp) ?_
        by_cases h0 : 0 < (st (y1 + j)).1 <;> simp only [h0, decide_true, decide_false] at hext <;> simp -dsimp [h0, hj'', wr w2, eadd, hext]
    · have hj' : (j : Int) = y2 - y1 + 1 := by omega
      have e : fnd st y1 j = true ↔ TC ⟨x1, x2, x3⟩ (y1, y2) := by
        rw [← hiff, fnd_iff]
        constructor
        · rintro ⟨i, h1, h2⟩; exact ⟨y1 + i, by omega, by omega, h2⟩
        · rintro ⟨n, h1, h2, h3⟩
          refine ⟨(n - y1).toNat, by omega, ?_⟩
          rw [show y1 + ((n - y1).toNat : Int) = n by omega]; exact h3
      by_cases hC : TC ⟨x1, x2, x3⟩ (y1, y2)
      · have := go hC
        have hf := e.2 hC
        simp -dsimp [h, ey, pRow, hlt, hf, wr w]
        exact fun a b c => this (a, b, c)
      · have := no hC
        have hf : fnd st y1 j = false := by cases hq : fnd st y1 j with
          | true => exact absurd (e.1 hq) hC
          | false => rfl
        simp -dsimp [h, ey, pRow, hlt, hf, this]
  · have : k = l.length := by omega
    subst this
    have e : (r.zip l).length = l.length := by simp [hlen]
    rw [← e, List.take_length] at hall
    have : TO r l := ⟨h1, h2, hall⟩
    simp -dsimp [this]
end Go.Abs.A09
namespace Go.Abs.A09
open Go Go.Abs Go.Proofs
set_option maxRecDepth 100000
set_option linter.unusedVariables false
set_option linter.unusedSimpArgs false
attribute [local simp ↓] awp_skip awp_seq awp_cond awp_block awp_exit awp_ret awp_reg awp_draw awp_ghost awp_loop awp_rfun awpR_nil awpR_cons awpX_nil awpX_0 awpX_1 awpX_2 awpI_eq awpI_t awpI_f awpStep_eq
attribute [local simp] condL_true condL_false condL_dec evDel evV evN evS evA initFr Ghost.app Fr.var Fr.blk Fr.ff FF.val Abs.look Fr.app Fr.erase Fr.noSlot AV.noSlot AV.noSlotL Blk.noSlot Fr.spoken AV.fz AV.fzL Blk.fz binV binI shI binS unV fillA FF.parts FF.vals headO intO boundO lenV scalarEq leavesEq AV.aggc AV.cells FF.read FF.rows AV.one PV.one chunk freshB newS pickV retK evRs evRl evR resOf mkTup mkAgg allP cloOf okP_nil okX_p okX okP addN Del.noSlot Del.owners Rnd reify_p normM insM Fr.back Fr.backV Fr.setPs normV insV
theorem timesR (a b c d : Int) : R (timesS a b c d).1.1 ∧ R (timesS a b c d).1.2 := by
  unfold timesS
  split
  · rename_i h
    obtain ⟨p1, p2, p3, p4, p5⟩ := timesB h.1 h.2
    dsimp only
    split
    · exact ⟨⟨by simp, by simp⟩, ⟨by simp, by simp⟩⟩
    · exact ⟨R_ediv ⟨by omega, by omega⟩ p5, R_ediv ⟨by omega, by omega⟩ p5⟩
  · exact ⟨⟨by simp, by simp⟩, ⟨by simp, by simp⟩⟩
theorem strR {x : T3} {n : Int} (hT : TE x) (hn : CO n) : R (strS x n).1 ∧ R (strS x n).2 := by
  obtain ⟨h0, h1, h2, h3⟩ := rawB hT hn
  have hg := gcdI_ge h0 h2
  exact ⟨R_ediv ⟨by omega, by omega⟩ hg, R_ediv ⟨by omega, by omega⟩ hg⟩
noncomputable def mulS (s : Int × Int) (x : T3 × Int) : Int × Int := (timesS s.1 s.2 (strS x.1 x.2).1 (strS x.1 x.2).2).1
noncomputable def scaF (r : List T3) (a : List Int) (k : Nat) : Int × Int := ((r.zip a).take k).foldl mulS (1, 1)
noncomputable def scaS (r : List T3) (a : List Int) : Int × Int := if RI r a.length ∧ CL a then (r.zip a).foldl mulS (1, 1) else (0, 1)
theorem scaF_succ {r : List T3} {a : List Int} {k : Nat} {x : T3} {n : Int} (h : (r.zip a)[k]? = some (x, n)) : scaF r a (k + 1) = mulS (scaF r a k) (x, n) := by
  simp [scaF, List.take_add_one, h]
theorem scaF_R (r : List T3) (a : List Int) (k : Nat) : R (scaF r a k).1 ∧ R (scaF r a k).2 := by
  induction k with
  | zero => simp [scaF, R]
  | succ k ih =>
    by_cases h : k < (r.zip a).length
    · rw [scaF_succ (x := (r.zip a)[k].1) (n := (r.zip a)[k].2) (List.getElem?_eq_getElem h)]
      exact timesR ..
    · have : scaF r a (k + 1) = scaF r a k := by
        unfold scaF; rw [List.take_of_length_le (by omega), List.take_of_length_le (by omega)]
      rw [this]; exact ih
theorem b26 (r : List T3) (a : List Int) (ha : a.length ≤ 9223372036854775807) : Best Tryd.prog 26 [.agg [.sl 3 (r.map tRow)], .sl 1 (a.map intRow)] (.p (.agg [.int .i64 (scaS r a).1, .int .i64 (scaS r a).2])) := by
  refine best mixed fn26 ok26 (by simp) ?_
  simp -dsimp [ac26]
  refine call_p (b24 r a.length) rfl (by simp) ?_
  simp -dsimp
  refine call_p (b63 a ha) rfl (by simp) ?_
  by_cases h1 : RI r a.length
  rotate_left
  · have : scaS r a = (0, 1) := if_neg fun h => h1 h.1
    simp -dsimp [h1, this]
  by_cases h2 : CL a
  rotate_left
  · have : scaS r a = (0, 1) := if_neg fun h => h2 h.2
    simp -dsimp [h1, h2, this]
  simp -dsimp [h1, h2]
  have hlen : r.length = a.length := by have := h1.2.2.1; omega
  refine loopC a.length (fun k => ⟨[(1, .p (.sl 1 (a.map intRow))), (2, .ptr (2, 0) 1 0 0), (4, .ptr (4, 0) 2 0 0), (7, .ptr (7, 0) 2 0 0), (8, .p (.int .i64 k))], [((2, 0), .box [.p (.sl 3 (r.map tRow))]), ((4, 0), .box [.p (.int .i64 0), .p (.int .i64 0)]), ((7, 0), .box [.p (.int .i64 (scaF r a k).1), .p (.int .i64 (scaF r a k).2)])]⟩) (fun _ => True) (fun k hk _ => ?_) trivial (by simp [scaF])
  by_cases h : k < a.length
  · have h' : k < r.length := by omega
    obtain ⟨x, ex⟩ : ∃ x, r[k] = x := ⟨_, rfl⟩
    obtain ⟨n, en⟩ : ∃ x, a[k] = x := ⟨_, rfl⟩
    have w : R ((k : Int) + 1) := ⟨by omega, by omega⟩
    have hxy : (r.zip a)[k]? = some (x, n) := zip_get (by rw [List.getElem?_eq_getElem h', ex]) (by rw [List.getElem?_eq_getElem h, en])
    have hT : TE x := h1.2.2.2 _ (List.of_mem_zip (List.mem_of_getElem? hxy)).1
    have hN : CO n := h2.2 _ (List.of_mem_zip (List.mem_of_getElem? hxy)).2
    have hs := scaF_succ hxy
    unfold mulS at hs
    dsimp only at hs
    have hc := b65 (x := x) (n := n) hT hN
    have hcr := strR hT hN
    have hsr := scaF_R r a k
    generalize scaF r a k = s at *
    generalize scaF r a (k + 1) = s' at *
    generalize strS x n = u at *
    obtain ⟨x1, x2, x3⟩ := x
    simp -dsimp [tRow] at hc
    simp -dsimp [h, h', ex, en, tRow, intRow]
    refine call_p hc rfl (by simp) ?_
    simp -dsimp
    refine call_p (b64 hsr.1 hsr.2 hcr.1 hcr.2) rfl (by simp) ?_
    simp -dsimp [wr w, h, hs]
  · have : k = a.length := by omega
    subst this
    have e : (r.zip a).length = a.length := by simp [hlen]
    have : scaS r a = scaF r a a.length := by
      unfold scaS scaF; rw [if_pos ⟨h1, h2⟩, ← e, List.take_length]
    simp -dsimp [this]
theorem b25 (r : List T3) (a : List Int) (hr : r.length ≤ 9223372036854775807) : Best Tryd.prog 25 [.agg [.sl 3 (r.map tRow)], .sl 1 (a.map intRow)] (.p (.agg [.int .i64 (scaS r a).1, .int .i64 (scaS r a).2])) := by
  refine best mixed fn25 ok25 (by simp) ?_
  simp -dsimp [ac25]
  refine call_p (b23 r a.length hr) rfl (by simp) ?_
  by_cases h1 : RI r a.length
  rotate_left
  · have : scaS r a = (0, 1) := if_neg fun h => h1 h.1
    simp -dsimp [h1, this]
  simp -dsimp [h1]
  refine call_p (b60 a) rfl (by simp) ?_
  by_cases h2 : CL a
  rotate_left
  · have : scaS r a = (0, 1) := if_neg fun h => h2 h.2
    simp -dsimp [h2, this]
  simp -dsimp [h2]
  refine call_p (b61 (r.map tRow) (a.map intRow)) rfl (by simp) ?_
  simp -dsimp
  have hlen : r.length = a.length := by have := h1.2.2.1; omega
  refine rfunL_rule rfl rfl (g85 r a hr) (fun k F => F = ⟨[(4, .ptr (4, 0) 2 0 0), (5, .ptr (5, 0) 2 0 0), (23, .p (.clo (.func 85) [] [.ro [.sl 3 (r.map tRow)], .ro [.sl 1 (a.map intRow)]]))], [((4, 0), .box [.p (.int .i64 0), .p (.int .i64 0)]), ((5, 0), .box [.p (.int .i64 (scaF r a k).1), .p (.int .i64 (scaF r a k).2)])]⟩) ?_ ?_ (by simp [scaF])
  · rintro k z F hz hF
    obtain ⟨x, n, hxy, rfl⟩ := zipS_inv hz
    refine ⟨by simp, ?_⟩
    have hT : TE x := h1.2.2.2 _ (List.of_mem_zip (List.mem_of_getElem? hxy)).1
    have hN : CO n := h2.2 _ (List.of_mem_zip (List.mem_of_getElem? hxy)).2
    have hs := scaF_succ hxy
    unfold mulS at hs
    dsimp only at hs
    have hc := b62 (x := x) (n := n) hT hN
    have hcr := strR hT hN
    have hsr := scaF_R r a k
    generalize scaF r a k = s at *
    generalize scaF r a (k + 1) = s' at *
    generalize strS x n = u at *
    obtain ⟨x1, x2, x3⟩ := x
    simp -dsimp [tRow] at hc
    subst hF
    simp -dsimp [vT, vI, tRow]
    refine call_p hc rfl (by simp) ?_
    simp -dsimp
    refine call_p (b38 hsr.1 hsr.2 hcr.1 hcr.2) rfl (by simp) ?_
    simp -dsimp [hs]
  · rintro F hF
    have hz : (zipS vT vI r a).length = a.length := by simp [zipS, hlen]
    have e : (r.zip a).length = a.length := by simp [hlen]
    have : scaS r a = scaF r a a.length := by
      unfold scaS scaF; rw [if_pos ⟨h1, h2⟩, ← e, List.take_length]
    rw [hz] at hF
    subst hF
    simp -dsimp [this]
end Go.Abs.A09
namespace Go.Abs.A09
open Go Go.Abs Go.Proofs
set_option maxRecDepth 100000
set_option linter.unusedVariables false
set_option linter.unusedSimpArgs false
attribute [local simp ↓] awp_skip awp_seq awp_cond awp_block awp_exit awp_ret awp_reg awp_draw awp_ghost awp_loop awp_rfun awpR_nil awpR_cons awpX_nil awpX_0 awpX_1 awpX_2 awpI_eq awpI_t awpI_f awpStep_eq
attribute [local simp] condL_true condL_false condL_dec evDel evV evN evS evA initFr Ghost.app Fr.var Fr.blk Fr.ff FF.val Abs.look Fr.app Fr.erase Fr.noSlot AV.noSlot AV.noSlotL Blk.noSlot Fr.spoken AV.fz AV.fzL Blk.fz binV binI shI binS unV fillA FF.parts FF.vals headO intO boundO lenV scalarEq leavesEq AV.aggc AV.cells FF.read FF.rows AV.one PV.one chunk freshB newS pickV retK evRs evRl evR resOf mkTup mkAgg allP cloOf okP_nil okX_p okX okP addN Del.noSlot Del.owners Rnd reify_p normM insM Fr.back Fr.backV Fr.setPs normV insV
def regRow (r : List T3) : List PV := [.sl 3 (r.map tRow)]
theorem scaS_R (r : List T3) (a : List Int) : R (scaS r a).1 ∧ R (scaS r a).2 := by
  unfold scaS
  split
  · have := scaF_R r a (r.zip a).length
    unfold scaF at this
    rwa [List.take_length] at this
  · simp [R]
noncomputable def growS (rs : List (List T3)) (a : List Int) (g : Int × Int) : Option Int :=
  if 0 ≤ g.1 ∧ g.1 < rs.length ∧ RI (rs.getD g.1.toNat []) a.length ∧ (partS g.2 (scaS (rs.getD g.1.toNat []) a).1 (scaS (rs.getD g.1.toNat []) a).2).2 = true then some (partS g.2 (scaS (rs.getD g.1.toNat []) a).1 (scaS (rs.getD g.1.toNat []) a).2).1 else none
noncomputable def sumL (rs : List (List T3)) (a : List Int) (s0 : Int) (l : List (Int × Int)) : Option Int := l.foldl (fun o g => o.bind fun s => (growS rs a g).map (s + ·)) (some s0)
noncomputable def sumS (base : Int) (l : List (Int × Int)) (rs : List (List T3)) (a : List Int) : Int × Bool :=
  if SM base ∧ CL a ∧ l.length ≤ 8 then (match sumL rs a (64 * base) l with | some s => (s, true) | none => (0, false)) else (0, false)
theorem sumL_none {rs : List (List T3)} {a : List Int} : ∀ {l : List (Int × Int)}, l.foldl (fun o g => o.bind fun s => (growS rs a g).map (s + ·)) none = none
  | [] => rfl
  | g :: l => by simp only [List.foldl_cons, Option.bind_none]; exact sumL_none
theorem sumL_app {rs : List (List T3)} {a : List Int} {s0 : Int} {l m : List (Int × Int)} : sumL rs a s0 (l ++ m) = (sumL rs a s0 l).bind fun s => sumL rs a s m := by
  unfold sumL
  rw [List.foldl_append]
  cases l.foldl (fun o g => o.bind fun s => (growS rs a g).map (s + ·)) (some s0) with
  | none => rw [sumL_none]; rfl
  | some s => rfl
theorem sumL_succ {rs : List (List T3)} {a : List Int} {s0 s : Int} {l : List (Int × Int)} {k : Nat} {g : Int × Int} (hk : l[k]? = some g) (hs : sumL rs a s0 (l.take k) = some s) : sumL rs a s0 (l.take (k + 1)) = (growS rs a g).map (s + ·) := by
  rw [List.take_add_one, hk, sumL_app, hs]
  simp [sumL]
theorem sumL_fail {rs : List (List T3)} {a : List Int} {s0 s : Int} {l : List (Int × Int)} {k : Nat} {g : Int × Int} (hk : l[k]? = some g) (hs : sumL rs a s0 (l.take k) = some s) (hg : growS rs a g = none) : sumL rs a s0 l = none := by
  rw [← List.take_append_drop (k + 1) l, sumL_app, sumL_succ hk hs, hg]
  rfl
theorem partB (a n d : Int) : -17592186044417 ≤ (partS a n d).1 ∧ (partS a n d).1 ≤ 17592186044417 := by
  unfold partS
  split
  · rename_i h
    have hb := mulb h.1 h.2.2.2.1 (by have := h.2.2.1; have := h.2.2.2.2.1; omega)
    have := roundS_bd (n := 64 * a * n) (d := d) (m := 17592186044416) h.2.1 (by omega) (by omega) (by omega)
    dsimp only; omega
  · simp
theorem part1 (a : Int) : partS a 1 1 = if SM a then (64 * a, true) else (0, false) := by
  have h1 : RS 1 1 := ⟨by omega, by omega, by omega, by omega, by rw [gcdI_pos (by omega), gcdI_neg (by decide)]⟩
  unfold partS
  by_cases h : SM a
  · rw [if_pos ⟨h, h1⟩, if_pos h]
    simp [roundS, Int.emod_one]
  · rw [if_neg (fun q => h q.1), if_neg h]
theorem sumN {base : Int} {l : List (Int × Int)} {rs : List (List T3)} {a : List Int} (h : ¬ (SM base ∧ CL a ∧ l.length ≤ 8)) : sumS base l rs a = (0, false) := if_neg h
theorem b29 {base : Int} {l : List (Int × Int)} {rs : List (List T3)} {a : List Int} (hb : R base) (hl : l.length ≤ 9223372036854775807) (ha : a.length ≤ 9223372036854775807) (hrs : ∀ r ∈ rs, r.length ≤ 9223372036854775807) : Best Tryd.prog 29 [.int .i64 base, .sl 2 (l.map pRow), .sl 1 (rs.map regRow), .sl 1 (a.map intRow)] (.p (.tup [.int .i64 (sumS base l rs a).1, .bool (sumS base l rs a).2])) := by
  refine best mixed fn29 ok29 (by simp) ?_
  simp -dsimp [ac29]
  refine call_p (b66 (a := base) (n := 1) (d := 1) (by simp [R]) (by simp [R])) rfl (by simp) ?_
  rw [part1]
  by_cases h1 : SM base
  rotate_left
  · have := sumN (l := l) (rs := rs) (a := a) (fun h => h1 h.1)
    simp -dsimp [h1, this]
  simp -dsimp [h1]
  refine call_p (b60 a) rfl (by simp) ?_
  by_cases h2 : CL a
  rotate_left
  · have := sumN (base := base) (l := l) (rs := rs) (fun h => h2 h.2.1)
    simp -dsimp [h2, this]
  by_cases h3 : (8 : Int) < l.length
  · have := sumN (base := base) (rs := rs) (a := a) (l := l) (fun h => by have := h.2.2; omega)
    simp -dsimp [h2, h3, this]
  simp -dsimp [h2, h3]
  refine loopC l.length (fun k => ⟨[(2, .p (.sl 1 (rs.map regRow))), (3, .p (.sl 1 (a.map intRow))), (10, .p (.int .i64 ((sumL rs a (64 * base) (l.take k)).getD 0))), (34, .p (.sl 2 (l.map pRow))), (35, .p (.int .i64 l.length)), (36, .p (.int .i64 k))], []⟩) (fun k => ∃ s, sumL rs a (64 * base) (l.take k) = some s ∧ -17592186044417 * (k + 1) ≤ s ∧ s ≤ 17592186044417 * (k + 1)) (fun k hk hQ => ?_) ⟨64 * base, by simp [sumL], by have := h1.1; omega, by have := h1.2; omega⟩ (by simp [sumL])
  obtain ⟨s, hs, hs1, hs2⟩ := hQ
  by_cases h : k < l.length
  · obtain ⟨⟨g, y⟩, ex⟩ : ∃ x, l[k] = x := ⟨_, rfl⟩
    have hx : l[k]? = some (g, y) := by rw [List.getElem?_eq_getElem h, ex]
    have w : R ((k : Int) + 1) := ⟨by omega, by omega⟩
    have hsu := sumL_succ hx hs
    have no : growS rs a (g, y) = none → sumS base l rs a = (0, false) := fun hg => by
      unfold sumS; rw [if_pos ⟨h1, h2, by omega⟩, sumL_fail hx hs hg]
    by_cases q1 : g < 0
    · have := no (if_neg fun h => by have := h.1; dsimp only at this; omega)
      simp -dsimp [h, ex, pRow, hs, q1, this]
    by_cases q2 : (rs.length : Int) ≤ g
    · have := no (if_neg fun h => by have := h.2.1; dsimp only at this; omega)
      simp -dsimp [h, ex, pRow, hs, q1, q2, this]
    obtain ⟨m, rfl⟩ := Int.eq_ofNat_of_zero_le (by omega : 0 ≤ g)
    have hm : m < rs.length := by omega
    obtain ⟨r, er⟩ : ∃ x, rs[m] = x := ⟨_, rfl⟩
    have hmem : r ∈ rs := by rw [← er]; simp
    have hgd : rs.getD m [] = r := by simp [List.getD, hm, er]
    have hgr : growS rs a (m, y) = if RI r a.length ∧ (partS y (scaS r a).1 (scaS r a).2).2 = true then some (partS y (scaS r a).1 (scaS r a).2).1 else none := by
      unfold growS
      have c1 : (0 : Int) ≤ (m : Int) := by omega
      have c2 : (m : Int) < rs.length := by omega
      simp only [Int.toNat_natCast, hgd, c1, c2, true_and]
    have hpb := partB y (scaS r a).1 (scaS r a).2
    have hpart := b66 (a := y) (scaS_R r a).1 (scaS_R r a).2
    have hmem' := b25 r a (hrs _ hmem)
    have q1' : ¬ (m : Int) < 0 := by omega
    have hri := b23 r a.length (hrs _ hmem)
    have nl : ¬ ((rs.length : Int) ≤ m) := by omega
    have nl' : ¬ (rs.length ≤ m) := by omega
    simp -dsimp [h, ex, pRow, hs, q1', nl', hm, er, regRow]
    refine call_p hri rfl (by simp) ?_
    by_cases q3 : RI r a.length
    rotate_left
    · have := no (by rw [hgr, if_neg fun h => q3 h.1])
      simp -dsimp [q3, this]
    simp -dsimp [q3, hm, er, regRow]
    refine call_p hmem' rfl (by simp) ?_
    simp -dsimp
    generalize scaS r a = u at *
    refine call_p hpart rfl (by simp) ?_
    generalize partS y u.1 u.2 = z at *
    obtain ⟨z1, z2⟩ := z
    cases z2 with
    | false =>
      have := no (by rw [hgr, if_neg fun h => by simp at h])
      simp -dsimp [this]
    | true =>
      rw [if_pos ⟨q3, rfl⟩] at hgr
      rw [hgr] at hsu
      dsimp only [Option.map_some] at hsu hpb
      have wz : R (s + z1) := ⟨by omega, by omega⟩
      simp -dsimp [wr w, wr wz, hsu, h]
      omega
  · have : k = l.length := by omega
    subst this
    have hs' := hs
    rw [List.take_length] at hs'
    have : sumS base l rs a = (s, true) := by
      unfold sumS; rw [if_pos ⟨h1, h2, by omega⟩, hs']
    simp -dsimp [hs', this]
theorem b30 {base : Int} {l : List (Int × Int)} {rs : List (List T3)} {a : List Int} (hb : R base) (hl : l.length ≤ 9223372036854775807) (ha : a.length ≤ 9223372036854775807) (hrs : ∀ r ∈ rs, r.length ≤ 9223372036854775807) : Best Tryd.prog 30 [.int .i64 base, .sl 2 (l.map pRow), .sl 1 (rs.map regRow), .sl 1 (a.map intRow)] (.p (.tup [.int .i64 (sumS base l rs a).1, .bool (sumS base l rs a).2])) := by
  refine best mixed fn30 ok30 (by simp) ?_
  simp -dsimp [ac30]
  refine call_p (b67' base) rfl (by simp) ?_
  simp -dsimp
  refine call_p (b63 a ha) rfl (by simp) ?_
  by_cases h1 : SM base
  rotate_left
  · have := sumN (l := l) (rs := rs) (a := a) (fun h => h1 h.1)
    simp -dsimp [h1, this]
  by_cases h2 : CL a
  rotate_left
  · have := sumN (base := base) (l := l) (rs := rs) (fun h => h2 h.2.1)
    simp -dsimp [h1, h2, this]
  by_cases h3 : (8 : Int) < l.length
  · have := sumN (base := base) (rs := rs) (a := a) (l := l) (fun h => by have := h.2.2; omega)
    simp -dsimp [h1, h2, h3, this]
  have w0 : R (64 * base) := ⟨by have := h1.1; omega, by have := h1.2; omega⟩
  simp -dsimp [h1, h2, h3, wr w0]
  refine loopC l.length (fun k => ⟨[(1, .p (.sl 2 (l.map pRow))), (2, .p (.sl 1 (rs.map regRow))), (3, .p (.sl 1 (a.map intRow))), (12, .p (.int .i64 ((sumL rs a (64 * base) (l.take k)).getD 0))), (13, .p (.int .i64 k))], []⟩) (fun k => ∃ s, sumL rs a (64 * base) (l.take k) = some s ∧ -17592186044417 * (k + 1) ≤ s ∧ s ≤ 17592186044417 * (k + 1)) (fun k hk hQ => ?_) ⟨64 * base, by simp [sumL], by have := h1.1; omega, by have := h1.2; omega⟩ (by simp [sumL])
  obtain ⟨s, hs, hs1, hs2⟩ := hQ
  by_cases h : k < l.length
  · obtain ⟨⟨g, y⟩, ex⟩ : ∃ x, l[k] = x := ⟨_, rfl⟩
    have hx : l[k]? = some (g, y) := by rw [List.getElem?_eq_getElem h, ex]
    have w : R ((k : Int) + 1) := ⟨by omega, by omega⟩
    have hsu := sumL_succ hx hs
    have no : growS rs a (g, y) = none → sumS base l rs a = (0, false) := fun hg => by
      unfold sumS; rw [if_pos ⟨h1, h2, by omega⟩, sumL_fail hx hs hg]
    by_cases q1 : g < 0
    · have := no (if_neg fun h => by have := h.1; dsimp only at this; omega)
      simp -dsimp [h, ex, pRow, hs, q1, this]
    by_cases q2 : (rs.length : Int) ≤ g
    · have := no (if_neg fun h => by have := h.2.1; dsimp only at this; omega)
      simp -dsimp [h, ex, pRow, hs, q1, q2, this]
    obtain ⟨m, rfl⟩ := Int.eq_ofNat_of_zero_le (by omega : 0 ≤ g)
    have hm : m < rs.length := by omega
    obtain ⟨r, er⟩ : ∃ x, rs[m] = x := ⟨_, rfl⟩
    have hmem : r ∈ rs := by rw [← er]; simp
    have hgd : rs.getD m [] = r := by simp [List.getD, hm, er]
    have hgr : growS rs a (m, y) = if RI r a.length ∧ (partS y (scaS r a).1 (scaS r a).2).2 = true then some (partS y (scaS r a).1 (scaS r a).2).1 else none := by
      unfold growS
      have c1 : (0 : Int) ≤ (m : Int) := by omega
      have c2 : (m : Int) < rs.length := by omega
      simp only [Int.toNat_natCast, hgd, c1, c2, true_and]
    have hpb := partB y (scaS r a).1 (scaS r a).2
    have hpart := b68 (a := y) (scaS_R r a).1 (scaS_R r a).2
    have hmem' := b26 r a ha
    have q1' : ¬ (m : Int) < 0 := by omega
    have hri := b24 r a.length
    have nl : ¬ ((rs.length : Int) ≤ m) := by omega
    have nl' : ¬ (rs.length ≤ m) := by omega
    simp -dsimp [h, ex, pRow, hs, q1', nl', hm, er, regRow]
    refine call_p hri rfl (by simp) ?_
    simp -dsimp [h, ex, pRow]
    refine call_p hmem' rfl (by simp) ?_
    simp -dsimp
    generalize scaS r a = u at *
    refine call_p hpart rfl (by simp) ?_
    by_cases q3 : RI r a.length
    rotate_left
    · have := no (by rw [hgr, if_neg fun h => q3 h.1])
      simp -dsimp [q3, this]
    generalize partS y u.1 u.2 = z at *
    obtain ⟨z1, z2⟩ := z
    cases z2 with
    | false =>
      have := no (by rw [hgr, if_neg fun h => by simp at h])
      simp -dsimp [q3, this]
    | true =>
      rw [if_pos ⟨q3, rfl⟩] at hgr
      rw [hgr] at hsu
      dsimp only [Option.map_some] at hsu hpb
      have wz : R (s + z1) := ⟨by omega, by omega⟩
      simp -dsimp [q3, wr w, wr wz, hsu, h]
      omega
  · have : k = l.length := by omega
    subst this
    have hs' := hs
    rw [List.take_length] at hs'
    have : sumS base l rs a = (s, true) := by
      unfold sumS; rw [if_pos ⟨h1, h2, by omega⟩, hs']
    simp -dsimp [hs', this]
end Go.Abs.A09
namespace Go.Abs.A09
open Go Go.Abs Go.Proofs
set_option maxRecDepth 100000
set_option linter.unusedVariables false
/-- abugida/abugidalaw09.sanity -/
def ac11 : AC := (.ghost (.keep [])
  (.seq (.reg [⟨some 0, .mov (.c (.bool false)), none, []⟩])
  (.ghost (.keep []) (.seq (.reg [⟨some 9, .build [.int .i64 0, .int .i64 0] [(0, 1, .c (.int .i64 100)), (1, 1, .c (.int .i64 (-64)))], none, []⟩,
    ⟨some 10, .build [.int .i64 0, .int .i64 0] [(0, 1, .c (.int .i64 400)), (1, 1, .c (.int .i64 0))], none, []⟩,
    ⟨some 11, .build [.int .i64 0, .int .i64 0] [(0, 1, .c (.int .i64 700)), (1, 1, .c (.int .i64 16))], none, []⟩,
    ⟨some 12, .build [.int .i64 0, .int .i64 0] [(0, 1, .c (.int .i64 900)), (1, 1, .c (.int .i64 64))], none, []⟩,
    ⟨some 13, .bslice 30 2 4 [.int .i64 0, .int .i64 0, .int .i64 0, .int .i64 0, .int .i64 0, .int .i64 0, .int .i64 0, .int .i64 0] [(0, 2, .v 9), (2, 2, .v 10), (4, 2, .v 11), (6, 2, .v 12)], none, [0, 1, 2, 3]⟩,
    ⟨some 14, .build [.str ⟨#[]⟩, .int .i64 0, .int .i64 0, .int .i64 0, .nsl] [(0, 1, .c (.str ⟨#[119, 103, 104, 116]⟩)), (1, 1, .c (.int .i64 100)), (2, 1, .c (.int .i64 400)), (3, 1, .c (.int .i64 900)), (4, 1, .v 13)], none, [4]⟩,
    ⟨some 1, .alloc [.str ⟨#[]⟩, .int .i64 0, .int .i64 0, .int .i64 0, .nsl], none, []⟩,
    ⟨none, .store 5 (.v 1) (.v 14), none, [6, 5, 0, 1, 2, 3, 4, 5, 6]⟩])
  (.ghost (.keep [1]) (.seq (.reg [⟨some 15, .call 40 [.c (.int .i64 0), .c (.int .i64 32), .c (.int .i64 64)], none, []⟩,
    ⟨some 2, .alloc [.nsl], none, []⟩,
    ⟨none, .store 1 (.v 2) (.v 15), none, [1, 0, 0, 0, 1]⟩])
  (.ghost (.keep [1, 2]) (.seq (.reg [⟨some 16, .load true 5 (.v 1), none, []⟩,
    ⟨some 17, .build [.int .i64 0, .int .i64 0] [(0, 1, .c (.int .i64 100)), (1, 1, .c (.int .i64 (-64)))], none, []⟩,
    ⟨some 18, .build [.int .i64 0, .int .i64 0] [(0, 1, .c (.int .i64 250)), (1, 1, .c (.int .i64 (-32)))], none, []⟩,
    ⟨some 19, .build [.int .i64 0, .int .i64 0] [(0, 1, .c (.int .i64 400)), (1, 1, .c (.int .i64 0))], none, []⟩,
    ⟨some 20, .build [.int .i64 0, .int .i64 0] [(0, 1, .c (.int .i64 550)), (1, 1, .c (.int .i64 8))], none, []⟩,
    ⟨some 21, .build [.int .i64 0, .int .i64 0] [(0, 1, .c (.int .i64 800)), (1, 1, .c (.int .i64 40))], none, []⟩,
    ⟨some 22, .build [.int .i64 0, .int .i64 0] [(0, 1, .c (.int .i64 2000)), (1, 1, .c (.int .i64 64))], none, []⟩,
    ⟨some 23, .build [.int .i64 0, .int .i64 0] [(0, 1, .c (.int .i64 101)), (1, 1, .c (.int .i64 (-64)))], none, []⟩,
    ⟨some 24, .bslice 30 2 7 [.int .i64 0, .int .i64 0, .int .i64 0, .int .i64 0, .int .i64 0, .int .i64 0, .int .i64 0, .int .i64 0, .int .i64 0, .int .i64 0, .int .i64 0, .int .i64 0, .int .i64 0, .int .i64 0] [(0, 2, .v 17), (2, 2, .v 18), (4, 2, .v 19), (6, 2, .v 20), (8, 2, .v 21), (10, 2, .v 22), (12, 2, .v 23)], none, [1, 2, 3, 4, 5, 6, 7]⟩,
    ⟨some 25, .call 41 [.v 16, .v 24], none, [0, 8]⟩,
    ⟨some 3, .mov (.v 25), none, [9, 9, 0, 1, 2, 3, 4, 5, 6, 7, 8, 9]⟩])
  (.ghost (.keep [2, 3]) (.seq (.reg [⟨some 26, .build [.int .i64 0, .int .i64 0, .int .i64 0] [(0, 1, .c (.int .i64 0)), (1, 1, .c (.int .i64 32)), (2, 1, .c (.int .i64 64))], none, []⟩,
    ⟨some 27, .build [.int .i64 0, .int .i64 0, .int .i64 0] [(0, 1, .c (.int .i64 (-64))), (1, 1, .c (.int .i64 0)), (2, 1, .c (.int .i64 9))], none, []⟩,
    ⟨some 28, .build [.int .i64 0, .int .i64 0, .int .i64 0] [(0, 1, .c (.int .i64 (-30))), (1, 1, .c (.int .i64 (-30))), (2, 1, .c (.int .i64 (-10)))], none, []⟩,
    ⟨some 29, .bslice 71 3 3 [.int .i64 0, .int .i64 0, .int .i64 0, .int .i64 0, .int .i64 0, .int .i64 0, .int .i64 0, .int .i64 0, .int .i64 0] [(0, 3, .v 26), (3, 3, .v 27), (6, 3, .v 28)], none, [0, 1, 2]⟩,
    ⟨some 30, .build [.nsl] [(0, 1, .v 29)], none, [3]⟩,
    ⟨some 4, .alloc [.nsl], none, []⟩,
    ⟨none, .store 1 (.v 4) (.v 30), none, [5, 4, 0, 1, 2, 3, 4, 5]⟩])
  (.ghost (.keep [2, 3, 4]) (.seq (.reg [⟨some 31, .load true 1 (.v 2), none, []⟩,
    ⟨some 32, .bslice 3 1 1 [.int .i64 0] [(0, 1, .c (.int .i64 16))], none, []⟩,
    ⟨some 33, .call 42 [.v 31, .c (.int .i64 1), .c (.int .i64 2), .v 32], none, [0, 1]⟩,
    ⟨some 34, .mov (.v 33), none, [2, 2]⟩,
    ⟨some 35, .load true 1 (.v 2), some (34, true), [3]⟩,
    ⟨some 36, .bslice 3 1 1 [.int .i64 0] [(0, 1, .c (.int .i64 32))], some (34, true), [3]⟩,
    ⟨some 37, .call 42 [.v 35, .c (.int .i64 1), .c (.int .i64 1), .v 36], some (34, true), [4, 5, 3, 3]⟩,
    ⟨some 38, .pick (.v 34) (.v 37) (.c (.bool false)), none, [3, 6]⟩,
    ⟨some 39, .mov (.v 38), none, [7, 6]⟩,
    ⟨some 40, .load true 1 (.v 2), some (39, true), [8]⟩,
    ⟨some 41, .bslice 3 1 1 [.int .i64 0] [(0, 1, .c (.int .i64 48))], some (39, true), [8]⟩,
    ⟨some 42, .call 42 [.v 40, .c (.int .i64 1), .c (.int .i64 2), .v 41], some (39, true), [9, 10, 8, 8]⟩,
    ⟨some 43, .pick (.v 39) (.v 42) (.c (.bool false)), none, [8, 11]⟩,
    ⟨some 44, .mov (.v 43), none, [12, 11]⟩,
    ⟨some 45, .load true 1 (.v 2), some (44, true), [13]⟩,
    ⟨some 46, .bslice 3 1 1 [.int .i64 0] [(0, 1, .c (.int .i64 64))], some (44, true), [13]⟩,
    ⟨some 47, .call 42 [.v 45, .c (.int .i64 0), .c (.int .i64 1), .v 46], some (44, true), [14, 15, 13, 13]⟩,
    ⟨some 48, .pick (.v 44) (.v 47) (.c (.bool false)), none, [13, 16]⟩,
    ⟨some 49, .mov (.v 48), none, [17, 16]⟩,
    ⟨some 50, .load true 1 (.v 2), some (49, true), [18]⟩,
    ⟨some 51, .bslice 3 1 1 [.int .i64 0] [(0, 1, .c (.int .i64 0))], some (49, true), [18]⟩,
    ⟨some 52, .call 42 [.v 50, .c (.int .i64 0), .c (.int .i64 1), .v 51], some (49, true), [19, 20, 18, 18]⟩,
    ⟨some 53, .pick (.v 49) (.v 52) (.c (.bool false)), none, [18, 21]⟩,
    ⟨some 54, .mov (.v 53), none, [22, 21]⟩,
    ⟨some 55, .load true 1 (.v 2), some (54, true), [23]⟩,
    ⟨some 56, .bslice 3 1 1 [.int .i64 0] [(0, 1, .c (.int .i64 20))], some (54, true), [23]⟩,
    ⟨some 57, .call 42 [.v 55, .c (.int .i64 5), .c (.int .i64 8), .v 56], some (54, true), [24, 25, 23, 23]⟩,
    ⟨some 58, .pick (.v 54) (.v 57) (.c (.bool false)), none, [23, 26]⟩,
    ⟨some 59, .mov (.v 58), none, [27, 26]⟩,
    ⟨some 60, .load true 1 (.v 4), some (59, true), [28]⟩,
    ⟨some 61, .bslice 3 1 3 [.int .i64 0, .int .i64 0, .int .i64 0] [(0, 1, .c (.int .i64 8)), (1, 1, .c (.int .i64 50)), (2, 1, .c (.int .i64 (-20)))], some (59, true), [28]⟩,
    ⟨some 62, .call 42 [.v 60, .c (.int .i64 1), .c (.int .i64 8), .v 61], some (59, true), [29, 30, 28, 28]⟩,
    ⟨some 63, .pick (.v 59) (.v 62) (.c (.bool false)), none, [28, 31]⟩,
    ⟨some 5, .mov (.v 63), none, [32, 31, 0, 1, 2, 3, 4, 5, 6, 7, 8, 9, 10, 11, 12, 13, 14, 15, 16, 17, 18, 19, 20, 21, 22, 23, 24, 25, 26, 27, 28, 29, 30, 31, 32]⟩])
  (.ghost (.keep [2, 3, 5]) (.seq (.reg [⟨some 65, .build [.int .i64 0, .int .i64 0] [(0, 1, .c (.int .i64 0)), (1, 1, .c (.int .i64 4))], none, []⟩,
    ⟨some 66, .build [.int .i64 0, .int .i64 0] [(0, 1, .c (.int .i64 0)), (1, 1, .c (.int .i64 (-3)))], none, []⟩,
    ⟨some 67, .bslice 60 2 2 [.int .i64 0, .int .i64 0, .int .i64 0, .int .i64 0] [(0, 2, .v 65), (2, 2, .v 66)], none, [0, 1]⟩,
    ⟨some 68, .load true 1 (.v 2), none, []⟩,
    ⟨some 69, .bslice 42 1 1 [.nsl] [(0, 1, .v 68)], none, [3]⟩,
    ⟨some 70, .bslice 3 1 1 [.int .i64 0] [(0, 1, .c (.int .i64 16))], none, []⟩,
    ⟨some 71, .call 29 [.c (.int .i64 10), .v 67, .v 69, .v 70], none, [2, 4, 5]⟩,
    ⟨some 64, .mov (.v 71), none, [6]⟩,
    ⟨some 72, .ext (.v 64) 0, none, [7]⟩,
    ⟨some 73, .ext (.v 64) 1, none, [7]⟩,
    ⟨some 6, .mov (.v 72), none, [8, 6, 0, 1, 2, 3, 4, 5, 6, 7, 8]⟩,
    ⟨some 7, .mov (.v 73), none, [9, 10, 0, 1, 2, 3, 4, 5, 6, 7, 8, 9, 10]⟩])
  (.ghost (.keep [2, 3, 5, 6, 7]) (.seq (.reg [⟨some 74, .mov (.v 7), none, []⟩,
    ⟨some 75, .mov (.v 74), none, [0]⟩,
    ⟨some 76, .mov (.v 6), some (75, true), [1]⟩,
    ⟨some 77, .bin .eql (.v 76) (.c (.int .i64 672)), some (75, true), [2, 1]⟩,
    ⟨some 78, .pick (.v 75) (.v 77) (.c (.bool false)), none, [1, 3]⟩,
    ⟨some 79, .mov (.v 78), none, [4, 1]⟩,
    ⟨some 80, .load true 1 (.v 2), some (79, true), [5]⟩,
    ⟨some 81, .build [.int .i64 0, .int .i64 0] [(0, 1, .c (.int .i64 (-64))), (1, 1, .c (.int .i64 0))], some (79, true), [5]⟩,
    ⟨some 82, .bslice 30 2 1 [.int .i64 0, .int .i64 0] [(0, 2, .v 81)], some (79, true), [7, 5]⟩,
    ⟨some 83, .call 36 [.v 80, .v 82], some (79, true), [6, 8, 5, 5]⟩,
    ⟨some 84, .un .not (.v 83), some (79, true), [9, 5]⟩,
    ⟨some 85, .pick (.v 79) (.v 84) (.c (.bool false)), none, [5, 10]⟩,
    ⟨some 86, .mov (.v 85), none, [11, 9]⟩,
    ⟨some 87, .load true 1 (.v 2), some (86, true), [12]⟩,
    ⟨some 88, .build [.int .i64 0, .int .i64 0] [(0, 1, .c (.int .i64 0)), (1, 1, .c (.int .i64 1))], some (86, true), [12]⟩,
    ⟨some 89, .bslice 30 2 1 [.int .i64 0, .int .i64 0] [(0, 2, .v 88)], some (86, true), [14, 12]⟩,
    ⟨some 90, .call 36 [.v 87, .v 89], some (86, true), [13, 15, 12, 12]⟩,
    ⟨some 91, .pick (.v 86) (.v 90) (.c (.bool false)), none, [12, 16]⟩,
    ⟨some 92, .mov (.v 91), none, [17, 16]⟩,
    ⟨some 93, .load true 1 (.v 2), some (92, true), [18]⟩,
    ⟨some 94, .build [.int .i64 0, .int .i64 0] [(0, 1, .c (.int .i64 64)), (1, 1, .c (.int .i64 64))], some (92, true), [18]⟩,
    ⟨some 95, .bslice 30 2 1 [.int .i64 0, .int .i64 0] [(0, 2, .v 94)], some (92, true), [20, 18]⟩,
    ⟨some 96, .call 36 [.v 93, .v 95], some (92, true), [19, 21, 18, 18]⟩,
    ⟨some 97, .un .not (.v 96), some (92, true), [22, 18]⟩,
    ⟨some 98, .pick (.v 92) (.v 97) (.c (.bool false)), none, [18, 23]⟩,
    ⟨some 8, .mov (.v 98), none, [24, 22, 0, 1, 2, 3, 4, 5, 6, 7, 8, 9, 10, 11, 12, 13, 14, 15, 16, 17, 18, 19, 20, 21, 22, 23, 24]⟩])
  (.ghost (.keep [3, 5, 8]) (.seq (.reg [⟨some 99, .mov (.v 3), none, []⟩,
    ⟨some 100, .mov (.v 99), none, [0]⟩,
    ⟨some 101, .mov (.v 5), some (100, true), [1]⟩,
    ⟨some 102, .pick (.v 100) (.v 101) (.c (.bool false)), none, [1, 2]⟩,
    ⟨some 103, .mov (.v 102), none, [3, 1]⟩,
    ⟨some 104, .mov (.v 8), some (103, true), [4]⟩,
    ⟨some 105, .pick (.v 103) (.v 104) (.c (.bool false)), none, [4, 5]⟩,
    ⟨some 106, .mov (.v 105), none, [6, 4]⟩,
    ⟨some 107, .call 40 [.c (.int .i64 (-1)), .c (.int .i64 1), .c (.int .i64 5)], some (106, true), [7, 7]⟩,
    ⟨some 108, .call 23 [.v 107, .c (.int .i64 1)], some (106, true), [8, 8, 7]⟩,
    ⟨some 109, .un .not (.v 108), some (106, true), [9, 7]⟩,
    ⟨some 110, .pick (.v 106) (.v 109) (.c (.bool false)), none, [7, 10]⟩,
    ⟨some 111, .mov (.v 110), none, [11, 9]⟩,
    ⟨some 112, .call 40 [.c (.int .i64 5), .c (.int .i64 5), .c (.int .i64 5)], some (111, true), [12, 12]⟩,
    ⟨some 113, .call 23 [.v 112, .c (.int .i64 1)], some (111, true), [13, 13, 12]⟩,
    ⟨some 114, .pick (.v 111) (.v 113) (.c (.bool false)), none, [12, 14]⟩,
    ⟨some 115, .mov (.v 114), none, [15, 14]⟩,
    ⟨some 116, .bslice 3 1 1 [.int .i64 0] [(0, 1, .c (.int .i64 3))], some (115, true), [16]⟩,
    ⟨some 117, .build [.int .i64 0, .int .i64 0] [(0, 1, .c (.int .i64 3)), (1, 1, .c (.int .i64 4))], some (115, true), [16]⟩,
    ⟨some 118, .bslice 30 2 1 [.int .i64 0, .int .i64 0] [(0, 2, .v 117)], some (115, true), [18, 16]⟩,
    ⟨some 119, .call 34 [.v 116, .v 118], some (115, true), [17, 19, 16, 16]⟩,
    ⟨some 120, .pick (.v 115) (.v 119) (.c (.bool false)), none, [16, 20]⟩,
    ⟨some 121, .mov (.v 120), none, [21, 20]⟩,
    ⟨some 122, .call 32 [.c .nsl, .c (.int .i64 0)], some (121, true), [22, 22]⟩,
    ⟨some 123, .pick (.v 121) (.v 122) (.c (.bool false)), none, [22, 23]⟩,
    ⟨some 0, .mov (.v 123), none, [24, 23, 0, 1, 2, 3, 4, 5, 6, 7, 8, 9, 10, 11, 12, 13, 14, 15, 16, 17, 18, 19, 20, 21, 22, 23, 24]⟩])
  (.ghost (.keep [0]) .ret)))))))))))))))))))
theorem fn11 : factOf Tryd.prog 11 = some (ac11.strip, [.tmp 0], 124) := by kernel_rfl
theorem ok11 : ac11.okAll = true := by kernel_rfl

end Go.Abs.A09
namespace Go.Abs.A09
open Go Go.Abs Go.Proofs
set_option maxRecDepth 100000
set_option linter.unusedVariables false
set_option linter.unusedSimpArgs false
attribute [local simp ↓] awp_skip awp_seq awp_cond awp_block awp_exit awp_ret awp_reg awp_draw awp_ghost awp_loop awp_rfun awpR_nil awpR_cons awpX_nil awpX_0 awpX_1 awpX_2 awpI_eq awpI_t awpI_f awpStep_eq
attribute [local simp] condL_true condL_false condL_dec evDel evV evN evS evA initFr Ghost.app Fr.var Fr.blk Fr.ff FF.val Abs.look Fr.app Fr.erase Fr.noSlot AV.noSlot AV.noSlotL Blk.noSlot Fr.spoken AV.fz AV.fzL Blk.fz binV binI shI binS unV fillA FF.parts FF.vals headO intO boundO lenV scalarEq leavesEq AV.aggc AV.cells FF.read FF.rows AV.one PV.one chunk freshB newS pickV retK evRs evRl evR resOf mkTup mkAgg allP cloOf okP_nil okX_p okX okP addN Del.noSlot Del.owners Rnd reify_p normM insM Fr.back Fr.backV Fr.setPs normV insV
attribute [local simp] FF.reify FF.reifyL PV.flat
theorem b40 (f p t : Int) : Best Tryd.prog 40 [.int .i64 f, .int .i64 p, .int .i64 t] (.p (.agg [.sl 3 [[.int .i64 f, .int .i64 p, .int .i64 t]]])) := by
  refine best mixed fn40 ok40 (by simp) ?_
  simp -dsimp [ac40, List.range, List.range.loop]
theorem b42 (r : List T3) (num den : Int) (l : List Int) (hr : r.length ≤ 9223372036854775807) : Best Tryd.prog 42 [.agg [.sl 3 (r.map tRow)], .int .i64 num, .int .i64 den, .sl 1 (l.map intRow)] (.p (.bool (decide ((scaS r l).1 = num) && decide ((scaS r l).2 = den)))) := by
  refine best mixed fn42 ok42 (by simp) ?_
  simp -dsimp [ac42]
  refine call_p (b25 r l hr) rfl (by simp) ?_
  simp -dsimp
theorem b41 (a : Ax) (l : List (Int × Int)) (hl : a.m.length ≤ 9223372036854775807) (hl2 : l.length ≤ 9223372036854775807) (h0 : chkS a = 0) (h1 : ∀ x ∈ l, normS a x.1 = x.2) : Best Tryd.prog 41 [.agg (axC a), .sl 2 (l.map pRow)] (.p (.bool true)) := by
  refine best mixed fn41 ok41 (by simp) ?_
  have h14 := b14 a hl
  have h16 := fun v => b16 a v hl
  rw [h0] at h14
  generalize normS a = no at *
  obtain ⟨nm, lo, df, hi, m⟩ := a
  clear h0
  simp -dsimp [ac41, axC] at h14 h16 ⊢
  refine loopC l.length (fun k => ⟨[(2, .ptr (2, 0) 5 0 0), (7, .p (.sl 2 (l.map pRow))), (8, .p (.int .i64 l.length)), (9, .p (.int .i64 k))], [((2, 0), .box [.p (.str (ba nm)), .p (.int .i64 lo), .p (.int .i64 df), .p (.int .i64 hi), .p (.sl 2 (m.map pRow))])]⟩) (fun _ => True) (fun k hk _ => ?_) trivial (by simp)
  by_cases h : k < l.length
  · obtain ⟨⟨x, y⟩, ex⟩ : ∃ x, l[k] = x := ⟨_, rfl⟩
    have hx : l[k]? = some (x, y) := by rw [List.getElem?_eq_getElem h, ex]
    have w : R ((k : Int) + 1) := ⟨by omega, by omega⟩
    have e := h1 _ (List.mem_of_getElem? hx)
    dsimp only at e
    simp -dsimp [h, ex, pRow]
    refine call_p (h16 x) rfl (by simp) ?_
    simp -dsimp [e, wr w, h]
  · have : k = l.length := by omega
    subst this
    simp -dsimp
    refine call_p h14 rfl (by simp) ?_
    simp -dsimp
/-! ### the examples -/
def a0 : Ax := ⟨[119, 103, 104, 116], 100, 400, 900, [(100, -64), (400, 0), (700, 16), (900, 64)]⟩
theorem a0_ok : AXP a0 := by
  refine ⟨by decide, by decide, by decide, by decide, by decide, by decide, by decide, by decide, by decide, by decide, by decide⟩
theorem a0_chk : chkS a0 = 0 := chk_ok (by decide) a0_ok
theorem a0_norm : ∀ x ∈ [((100 : Int), (-64 : Int)), (250, -32), (400, 0), (550, 8), (800, 40), (2000, 64), (101, -64)], normS a0 x.1 = x.2 := by
  intro x hx
  unfold normS
  rw [if_pos a0_chk]
  revert x
  decide +kernel
theorem gcd_l (m n : Nat) {a b : Int} (ha : a = m) (hb : b = n) : gcdI a b = (Nat.gcd m n : Nat) := by subst ha hb; exact gcdI_nat n m
theorem sc1 : scaS [⟨0, 32, 64⟩] [16] = (1, 2) := by
  simp [scaS, mulS, timesS, strS, rawS, gcdI, RI, CL, TE, CO, RS]
theorem sc2 : scaS [⟨0, 32, 64⟩] [32] = (1, 1) := by
  simp [scaS, mulS, timesS, strS, rawS, gcdI, RI, CL, TE, CO, RS]
theorem sc3 : scaS [⟨0, 32, 64⟩] [48] = (1, 2) := by
  simp [scaS, mulS, timesS, strS, rawS, gcdI, RI, CL, TE, CO, RS]
theorem sc4 : scaS [⟨0, 32, 64⟩] [64] = (0, 1) := by
  simp [scaS, mulS, timesS, strS, rawS, gcdI, RI, CL, TE, CO, RS]
theorem sc5 : scaS [⟨0, 32, 64⟩] [0] = (0, 1) := by
  simp [scaS, mulS, timesS, strS, rawS, gcdI, RI, CL, TE, CO, RS]
theorem sc6 : scaS [⟨0, 32, 64⟩] [20] = (5, 8) := by
  simp [scaS, mulS, timesS, strS, rawS, gcdI, RI, CL, TE, CO, RS]
theorem sc7 : scaS [⟨0, 32, 64⟩, ⟨-64, 0, 9⟩, ⟨-30, -30, -10⟩] [8, 50, -20] = (1, 8) := by
  simp [scaS, mulS, timesS, strS, rawS, gcdI, RI, CL, TE, CO, RS]
theorem rs12 : RS 1 2 := ⟨by decide, by decide, by decide, by decide, by simp [gcdI]⟩
theorem pa1 {y : Int} (h : SM y) : partS y 1 2 = (roundS (64 * y * 1) 2, true) := if_pos ⟨h, rs12⟩
theorem gr1 {y : Int} (h : SM y) : growS [[⟨0, 32, 64⟩]] [16] (0, y) = some (roundS (64 * y * 1) 2) := by
  have e : ([[⟨0, 32, 64⟩]] : List (List T3)).getD ((0 : Int), y).1.toNat [] = [⟨0, 32, 64⟩] := rfl
  unfold growS
  rw [e, sc1, pa1 h]
  rw [if_pos ⟨by dsimp only; omega, by simp, by decide, rfl⟩]
theorem su1 : sumS 10 [(0, 4), (0, -3)] [[⟨0, 32, 64⟩]] [16] = (672, true) := by
  have e : sumL [[⟨0, 32, 64⟩]] [16] (64 * 10) [(0, 4), (0, -3)] = some 672 := by
    unfold sumL
    simp only [List.foldl_cons, List.foldl_nil, Option.bind_some, gr1 (show SM 4 by decide), gr1 (show SM (-3) by decide), Option.map_some]
    decide
  unfold sumS
  rw [if_pos ⟨by decide, by decide, by decide⟩, e]
theorem b32n : Best Tryd.prog 32 [.nsl, .int .i64 0] (.p (.bool true)) := by
  have := b32 [] 0 (by simp)
  rw [decide_eq_true (by decide : RG [] 0)] at this
  exact Best.args (fun S xs h => Ps.cons_imp (fun v hv => hv.nsl_sl 2) (fun _ h => h) h) this
theorem b42t (r : List T3) (num den : Int) (l : List Int) (hr : r.length ≤ 9223372036854775807) (h : scaS r l = (num, den)) : Best Tryd.prog 42 [.agg [.sl 3 (r.map tRow)], .int .i64 num, .int .i64 den, .sl 1 (l.map intRow)] (.p (.bool true)) := by
  have := b42 r num den l hr
  rw [h] at this; simpa using this
set_option maxHeartbeats 4000000 in
theorem b11 : Best Tryd.prog 11 [] (.p (.bool true)) := by
  refine best mixed fn11 ok11 (by simp) ?_
  have h41 := b41 a0 [((100 : Int), (-64 : Int)), (250, -32), (400, 0), (550, 8), (800, 40), (2000, 64), (101, -64)] (by decide) (by decide) a0_chk a0_norm
  simp -dsimp [ac11, List.range, List.range.loop]
  refine call_p (b40 0 32 64) rfl (by simp) ?_
  simp -dsimp [List.range, List.range.loop]
  refine call_f h41 (by simp [axC, a0, pRow, ba]) rfl (by simp) ?_
  simp -dsimp [List.range, List.range.loop]
  refine call_f (b42t [⟨0, 32, 64⟩] 1 2 [16] (by simp) sc1) (by simp [tRow, intRow]) rfl (by simp) ?_
  simp -dsimp [List.range, List.range.loop]
  refine call_f (b42t [⟨0, 32, 64⟩] 1 1 [32] (by simp) sc2) (by simp [tRow, intRow]) rfl (by simp) ?_
  simp -dsimp [List.range, List.range.loop]
  refine call_f (b42t [⟨0, 32, 64⟩] 1 2 [48] (by simp) sc3) (by simp [tRow, intRow]) rfl (by simp) ?_
  simp -dsimp [List.range, List.range.loop]
  refine call_f (b42t [⟨0, 32, 64⟩] 0 1 [64] (by simp) sc4) (by simp [tRow, intRow]) rfl (by simp) ?_
  simp -dsimp [List.range, List.range.loop]
  refine call_f (b42t [⟨0, 32, 64⟩] 0 1 [0] (by simp) sc5) (by simp [tRow, intRow]) rfl (by simp) ?_
  simp -dsimp [List.range, List.range.loop]
  refine call_f (b42t [⟨0, 32, 64⟩] 5 8 [20] (by simp) sc6) (by simp [tRow, intRow]) rfl (by simp) ?_
  simp -dsimp [List.range, List.range.loop]
  refine call_f (b42t [⟨0, 32, 64⟩, ⟨-64, 0, 9⟩, ⟨-30, -30, -10⟩] 1 8 [8, 50, -20] (by simp) sc7) (by simp [tRow, intRow]) rfl (by simp) ?_
  simp -dsimp [List.range, List.range.loop]
  have h29 := b29 (base := 10) (l := [((0 : Int), (4 : Int)), (0, -3)]) (rs := [[⟨0, 32, 64⟩]]) (a := [16]) (by simp [R]) (by simp) (by simp) (by simp)
  rw [su1] at h29
  refine call_f h29 (by simp [tRow, intRow, pRow, regRow]) rfl (by simp) ?_
  simp -dsimp [List.range, List.range.loop]
  have h36 := fun x y => b36 [⟨0, 32, 64⟩] [((x : Int), (y : Int))] (by simp) (by simp)
  have t1 := h36 (-64) 0
  rw [decide_eq_false (by decide : ¬ TO [⟨0, 32, 64⟩] [(-64, 0)])] at t1
  have t2 := h36 0 1
  rw [decide_eq_true (by decide : TO [⟨0, 32, 64⟩] [(0, 1)])] at t2
  have t3 := h36 64 64
  rw [decide_eq_false (by decide : ¬ TO [⟨0, 32, 64⟩] [(64, 64)])] at t3
  refine call_f t1 (by simp [tRow, pRow]) rfl (by simp) ?_
  simp -dsimp [List.range, List.range.loop]
  refine call_f t2 (by simp [tRow, pRow]) rfl (by simp) ?_
  simp -dsimp [List.range, List.range.loop]
  refine call_f t3 (by simp [tRow, pRow]) rfl (by simp) ?_
  simp -dsimp [List.range, List.range.loop]
  refine call_p (b40 (-1) 1 5) rfl (by simp) ?_
  simp -dsimp [List.range, List.range.loop]
  have r1 := b23 [⟨-1, 1, 5⟩] 1 (by simp)
  rw [decide_eq_false (by decide : ¬ RI [⟨-1, 1, 5⟩] 1)] at r1
  refine call_p r1 rfl (by simp) ?_
  simp -dsimp [List.range, List.range.loop]
  refine call_p (b40 5 5 5) rfl (by simp) ?_
  simp -dsimp [List.range, List.range.loop]
  have r2 := b23 [⟨5, 5, 5⟩] 1 (by simp)
  rw [decide_eq_true (by decide : RI [⟨5, 5, 5⟩] 1)] at r2
  refine call_p r2 rfl (by simp) ?_
  simp -dsimp [List.range, List.range.loop]
  have r3 := b34 [3] [(3, 4)] (by simp) (by simp)
  rw [decide_eq_true (by decide : WI [3] [(3, 4)])] at r3
  refine call_f r3 (by simp [intRow, pRow]) rfl (by simp) ?_
  simp -dsimp [List.range, List.range.loop]
  refine call_p b32n rfl (by simp) ?_
  simp -dsimp
end Go.Abs.A09
namespace Go.Abs.A09
open Go Go.Abs Go.Proofs
set_option maxRecDepth 100000
set_option linter.unusedVariables false
set_option linter.unusedSimpArgs false
attribute [local simp ↓] awp_skip awp_seq awp_cond awp_block awp_exit awp_ret awp_reg awp_draw awp_ghost awp_loop awp_rfun awpR_nil awpR_cons awpX_nil awpX_0 awpX_1 awpX_2 awpI_eq awpI_t awpI_f awpStep_eq
attribute [local simp] condL_true condL_false condL_dec evDel evV evN evS evA initFr Ghost.app Fr.var Fr.blk Fr.ff FF.val Abs.look Fr.app Fr.erase Fr.noSlot AV.noSlot AV.noSlotL Blk.noSlot Fr.spoken AV.fz AV.fzL Blk.fz binV binI shI binS unV fillA FF.parts FF.vals headO intO boundO lenV scalarEq leavesEq AV.aggc AV.cells FF.read FF.rows AV.one PV.one chunk freshB newS pickV retK evRs evRl evR resOf mkTup mkAgg allP cloOf okP_nil okX_p okX okP addN Del.noSlot Del.owners Rnd reify_p normM insM Fr.back Fr.backV Fr.setPs normV insV
attribute [local simp] FF.reify FF.reifyL PV.flat
def andS (x : Int) : Int := ((BitVec.ofInt 64 x &&& BitVec.ofInt 64 65535).toNat : Nat)
theorem andS_bd (x : Int) : 0 ≤ andS x ∧ andS x ≤ 65535 := by
  unfold andS
  refine ⟨by omega, ?_⟩
  have : (BitVec.ofInt 64 x &&& BitVec.ofInt 64 65535).toNat ≤ 65535 := by
    rw [BitVec.toNat_and]
    exact Nat.le_trans Nat.and_le_right (by decide)
  omega
def numS (l : List Int) (k : Nat) : Int := match l[k]? with
  | some x => andS x
  | none => 0
theorem numS_bd (l : List Int) (k : Nat) : 0 ≤ numS l k ∧ numS l k ≤ 65535 := by
  unfold numS
  cases l[k]? with
  | some x => exact andS_bd x
  | none => simp
theorem and_wrap (x : Int) : IntKind.i64.wrap ((BitVec.ofInt IntKind.i64.bits x &&& BitVec.ofInt IntKind.i64.bits 65535).toNat) = andS x := by
  have h := andS_bd x
  exact wr (n := andS x) ⟨by omega, by omega⟩
theorem b43 (l : List Int) (k : Nat) : Best Tryd.prog 43 [.sl 1 (l.map intRow), .int .i64 k] (.p (.int .i64 (numS l k))) := by
  refine best mixed fn43 ok43 (by simp) ?_
  by_cases h : k < l.length
  · obtain ⟨x, ex⟩ : ∃ x, l[k] = x := ⟨_, rfl⟩
    have hx : l[k]? = some x := by rw [List.getElem?_eq_getElem h, ex]
    have e : numS l k = andS x := by unfold numS; rw [hx]
    have ha := and_wrap x
    simp -dsimp [ac43, h, ex, intRow, e]
    exact ha
  · have e : numS l k = 0 := by unfold numS; rw [List.getElem?_eq_none (by omega)]
    simp -dsimp [ac43, h, e]
def peakS (a : Int) : Int := if a / 129 % 7 = 2 then 64 else if a / 129 % 7 = 3 then -64 else if a / 129 % 7 = 4 then 32 else if a / 129 % 7 = 5 then -16 else if a / 129 % 7 = 6 then a % 129 - 64 else 0
def mtS (a b c : Int) : T3 := if 0 < peakS a then ⟨min (b % 65) (peakS a), peakS a, max (c % 65) (peakS a)⟩ else if peakS a < 0 then ⟨min (-(b % 65)) (peakS a), peakS a, max (-(c % 65)) (peakS a)⟩ else ⟨-(b % 65), 0, c % 65⟩
theorem mt_def (a b c : Int) : mtS a b c = if 0 < peakS a then ⟨min (b % 65) (peakS a), peakS a, max (c % 65) (peakS a)⟩ else if peakS a < 0 then ⟨min (-(b % 65)) (peakS a), peakS a, max (-(c % 65)) (peakS a)⟩ else ⟨-(b % 65), 0, c % 65⟩ := rfl
theorem peak_bd {a : Int} (h : 0 ≤ a) : -64 ≤ peakS a ∧ peakS a ≤ 64 := by unfold peakS; omega
theorem mt_ok {a b c : Int} (ha : 0 ≤ a) : TE (mtS a b c) := by
  have h := peak_bd ha
  unfold mtS
  generalize peakS a = p at *
  split
  · unfold TE; dsimp only; omega
  · split
    · unfold TE; dsimp only; omega
    · unfold TE; dsimp only; omega
theorem b55 {a b c : Int} (ha : 0 ≤ a) (ha2 : a ≤ 65535) (hb : 0 ≤ b) (hb2 : b ≤ 65535) (hc : 0 ≤ c) (hc2 : c ≤ 65535) : Best Tryd.prog 55 [.int .i64 a, .int .i64 b, .int .i64 c] (.p (.agg (tRow (mtS a b c)))) := by
  refine best mixed fn55 ok55 (by simp) ?_
  have e1 : a.tmod 129 = a % 129 := Int.tmod_eq_emod_of_nonneg ha
  have e2 : a.tdiv 129 = a / 129 := Int.tdiv_eq_ediv_of_nonneg ha
  have e3 : (a / 129).tmod 7 = a / 129 % 7 := Int.tmod_eq_emod_of_nonneg (by omega)
  have e4 : b.tmod 65 = b % 65 := Int.tmod_eq_emod_of_nonneg hb
  have e5 : c.tmod 65 = c % 65 := Int.tmod_eq_emod_of_nonneg hc
  have w1 : R (a % 129 - 64) := ⟨by omega, by omega⟩
  have w2 : R (a / 129) := ⟨by omega, by omega⟩
  have w3 : R (0 - b % 65) := ⟨by omega, by omega⟩
  have w4 : R (0 - c % 65) := ⟨by omega, by omega⟩
  have z1 : 0 - b % 65 = -(b % 65) := by omega
  have z2 : 0 - c % 65 = -(c % 65) := by omega
  have w3' : IntKind.i64.wrap (-(b % 65)) = -(b % 65) := wr ⟨by omega, by omega⟩
  have w4' : IntKind.i64.wrap (-(c % 65)) = -(c % 65) := wr ⟨by omega, by omega⟩
  have hp : ∀ m : Nat, (m : Int) = a / 129 % 7 → ([[PV.int .i64 0], [PV.int .i64 0], [PV.int .i64 64], [PV.int .i64 (-64)], [PV.int .i64 32], [PV.int .i64 (-16)], [PV.int .i64 (a % 129 - 64)]] : List (List PV))[m]? = some [.int .i64 (peakS a)] := by
    intro m hm
    unfold peakS
    rw [← hm]
    match m with
    | 0 => rfl
    | 1 => rfl
    | 2 => rfl
    | 3 => rfl
    | 4 => rfl
    | 5 => rfl
    | 6 => rfl
    | k + 7 => omega
  obtain ⟨m, hm⟩ := Int.eq_ofNat_of_zero_le (show 0 ≤ a / 129 % 7 by omega)
  have hp := hp m hm.symm
  have hm7 : (m : Int) < 7 := by omega
  have hm7' : m < 7 := by omega
  have hml := mt_def a b c
  obtain ⟨hh, hp'⟩ := List.getElem?_eq_some_iff.1 hp
  generalize peakS a = p at *
  by_cases q1 : 0 < p
  · rw [if_pos q1] at hml
    simp -dsimp [ac55, List.range, List.range.loop, e1, e2, e3, e4, e5, wr w1, wr w2, hm, hm7, hm7', hp, hp', q1, tRow, hml]
  · rw [if_neg q1] at hml
    by_cases q2 : p < 0
    · rw [if_pos q2] at hml
      simp -dsimp [ac55, List.range, List.range.loop, e1, e2, e3, e4, e5, wr w1, wr w2, hm, hm7, hm7', hp, hp', q1, q2, tRow, hml, z1, z2, w3', w4']
    · rw [if_neg q2] at hml
      simp -dsimp [ac55, List.range, List.range.loop, e1, e2, e3, e4, e5, wr w1, wr w2, hm, hm7, hm7', hp, hp', q1, q2, tRow, hml, z1, z2, w3', w4']
end Go.Abs.A09
namespace Go.Abs.A09
open Go Go.Abs Go.Proofs
set_option maxRecDepth 100000
set_option linter.unusedVariables false
set_option linter.unusedSimpArgs false
attribute [local simp ↓] awp_skip awp_seq awp_cond awp_block awp_exit awp_ret awp_reg awp_draw awp_ghost awp_loop awp_rfun awpR_nil awpR_cons awpX_nil awpX_0 awpX_1 awpX_2 awpI_eq awpI_t awpI_f awpStep_eq
attribute [local simp] condL_true condL_false condL_dec evDel evV evN evS evA initFr Ghost.app Fr.var Fr.blk Fr.ff FF.val Abs.look Fr.app Fr.erase Fr.noSlot AV.noSlot AV.noSlotL Blk.noSlot Fr.spoken AV.fz AV.fzL Blk.fz binV binI shI binS unV fillA FF.parts FF.vals headO intO boundO lenV scalarEq leavesEq AV.aggc AV.cells FF.read FF.rows AV.one PV.one chunk freshB newS pickV retK evRs evRl evR resOf mkTup mkAgg allP cloOf okP_nil okX_p okX okP addN Del.noSlot Del.owners Rnd reify_p normM insM Fr.back Fr.backV Fr.setPs normV insV
attribute [local simp] FF.reify FF.reifyL PV.flat
def atS (l : List Int) (k : Nat) : Int := numS l k % 129 - 64
def madeAt (l : List Int) (n : Nat) : List Int := (List.range n).map (atS l)
def partAt (l : List Int) (n k : Nat) : List Int := (List.range n).map fun i => if i < k then atS l i else 0
theorem partAt_set {l : List Int} {n k : Nat} (h : k < n) : (partAt l n k).set k (atS l k) = partAt l n (k + 1) := by
  apply List.ext_getElem?
  intro i
  rw [List.getElem?_set]
  by_cases hi : k = i
  · subst hi; simp [partAt, h]
  · rw [if_neg hi]
    by_cases hn : i < n
    · simp only [partAt, List.getElem?_map, List.getElem?_range hn, Option.map_some]
      congr 1
      by_cases h1 : i < k
      · rw [if_pos h1, if_pos (by omega)]
      · rw [if_neg h1, if_neg (by omega)]
    · rw [List.getElem?_eq_none (by simp [partAt]; omega), List.getElem?_eq_none (by simp [partAt]; omega)]
theorem partAt_len {l : List Int} {n k : Nat} : (partAt l n k).length = n := by simp [partAt]
theorem atS_bd (l : List Int) (k : Nat) : -64 ≤ atS l k ∧ atS l k ≤ 64 := by unfold atS; omega
theorem b22 (l : List Int) (n : Nat) (hn : n < 1000000) : Best Tryd.prog 22 [.sl 1 (l.map intRow), .int .i64 n] (.p (.sl 1 ((madeAt l n).map intRow))) := by
  refine best mixed fn22 ok22 (by simp) ?_
  have c1 : (8 : Int) * n ≤ 281474976710656 := by omega
  have c2 : (n : Int) ≤ 9223372036854775807 := by omega
  have c3 : List.replicate n [PV.int .i64 0] = (partAt l n 0).map intRow := by
    simp [partAt, intRow, List.map_const', Function.comp_def]
  have c4 : (n : Int) * 8 ≤ 281474976710656 := by omega
  simp -dsimp [ac22, c1, c2, c3, c4]
  refine loopC n (fun k => ⟨[(0, .p (.sl 1 (l.map intRow))), (1, .p (.int .i64 n)), (5, .ref (8, 0) 1 0 n), (6, .p (.int .i64 k))], [((8, 0), .sl 3 1 ((partAt l n k).map intRow))]⟩) (fun _ => True) (fun k hk _ => ?_) trivial (by simp)
  by_cases h : k < n
  · have w : R ((k : Int) + 1) := ⟨by omega, by omega⟩
    have hb := numS_bd l k
    have e1 : (numS l k).tmod 129 = numS l k % 129 := Int.tmod_eq_emod_of_nonneg hb.1
    have w1 : R (numS l k % 129 - 64) := ⟨by omega, by omega⟩
    have ea : numS l k % 129 - 64 = atS l k := rfl
    have e2 : ∀ p : Int, (partAt l n k)[k]? = some ((partAt l n k)[k]'(by rw [partAt_len]; exact h)) := fun _ => List.getElem?_eq_getElem _
    have hset : ((partAt l n k).map intRow).set k (intRow (atS l k)) = (partAt l n (k + 1)).map intRow := by
      rw [← List.map_set, partAt_set h]
    simp -dsimp [h]
    refine call_p (b43 l k) rfl (by simp) ?_
    have hl : k < (partAt l n k).length := by rw [partAt_len]; exact h
    have ht : ∀ x, (intRow x).tail = [] := fun _ => rfl
    have w5 : R (atS l k) := by rw [← ea]; exact w1
    simp -dsimp [e1, wr w5, ea, h, hl, partAt_len, wr w, ht]
    exact hset
  · have : k = n := by omega
    subst this
    have : partAt l k k = madeAt l k := by
      unfold partAt madeAt
      apply List.map_congr_left
      intro i hi
      rw [if_pos (by simpa using hi)]
    have hlen : (madeAt l k).length = k := by simp [madeAt]
    simp -dsimp [this, hlen]
    exact List.take_of_length_le (by simp [hlen])

/-- A contract whose value is said less sharply. -/
theorem Best.res {P : Program} {f : FuncId} {ps : List PV} {v v' : PV} (h : ∀ S x, PRel S v x → PRel S v' x) (b : Best P f ps (.p v)) : Best P f ps (.p v') :=
  ⟨b.1, fun S w xs hS hx => (b.2 S w xs hS hx).mono fun e w' ⟨x, S', h1, h2, h3, h4, h5, h6⟩ => ⟨x, S', h1, h2, h3, h4, h5, h S' x h6⟩⟩
theorem agg_nsl {S : Snap} {x : Value} (n : Nat) (h : PRel S (.agg [.nsl]) x) : PRel S (.agg [.sl n []]) x := by
  cases h with
  | agg cells vs hl hh =>
    match vs, hl with
    | [v], _ =>
      refine .agg _ [v] rfl fun j p u e1 e2 => ?_
      match j with
      | 0 => simp at e1 e2; subst e1 e2; exact (hh 0 _ _ rfl rfl).nsl_sl n
      | j + 1 => simp at e1
def regT (l : List Int) (k : Nat) : T3 := mtS (numS l (3 * k)) (numS l (3 * k + 1)) (numS l (3 * k + 2))
def madeReg (l : List Int) (n : Nat) : List T3 := (List.range n).map (regT l)
theorem madeReg_succ (l : List Int) (n : Nat) : madeReg l (n + 1) = madeReg l n ++ [regT l n] := by simp [madeReg, List.range_succ]
theorem madeReg_ok (l : List Int) (n : Nat) : ∀ t ∈ madeReg l n, TE t := by
  intro t ht
  simp only [madeReg, List.mem_map] at ht
  obtain ⟨k, _, rfl⟩ := ht
  exact mt_ok (numS_bd l _).1
theorem madeReg_len (l : List Int) (n : Nat) : (madeReg l n).length = n := by simp [madeReg]
theorem b20 (r : List T3) : Best Tryd.prog 20 [.agg [.sl 3 (r.map tRow)]] (.p (.agg [.sl 3 ((r.take 5).map tRow)])) := by
  refine best mixed fn20 ok20 (by simp) ?_
  have c1 : min (r.length : Int) 5 = ((min r.length 5 : Nat) : Int) := by omega
  have c2 : ((min r.length 5 : Nat) : Int) ≤ r.length := by omega
  have c2' : min r.length 5 ≤ r.length := by omega
  have c3 : (r.map tRow).take (min r.length 5) = (r.take 5).map tRow := by
    rw [List.map_take, List.take_eq_take_iff]; simp; omega
  have c4 : ((r.take 5).map tRow).length ≤ 5 := by simp; omega
  have c5 : ((r.take 5).map tRow).length ≤ maxLen := by unfold maxLen; omega
  have c6 : (((r.take 5).map tRow).all fun r => r.all PV.one) = true := by
    rw [List.all_eq_true]; intro x hx
    simp only [List.mem_map] at hx
    obtain ⟨t, _, rfl⟩ := hx
    rfl
  generalize (r.take 5).map tRow = z at *
  have c7 : z.length * 24 ≤ 140737488355328 := by omega
  simp -dsimp [ac20, List.range, List.range.loop, c1, c2, c2', c3, c5, c7, ↓c6]
end Go.Abs.A09
namespace Go.Abs.A09
open Go Go.Abs Go.Proofs
set_option maxRecDepth 100000
set_option linter.unusedVariables false
set_option linter.unusedSimpArgs false
attribute [local simp ↓] awp_skip awp_seq awp_cond awp_block awp_exit awp_ret awp_reg awp_draw awp_ghost awp_loop awp_rfun awpR_nil awpR_cons awpX_nil awpX_0 awpX_1 awpX_2 awpI_eq awpI_t awpI_f awpStep_eq
attribute [local simp] condL_true condL_false condL_dec evDel evV evN evS evA initFr Ghost.app Fr.var Fr.blk Fr.ff FF.val Abs.look Fr.app Fr.erase Fr.noSlot AV.noSlot AV.noSlotL Blk.noSlot Fr.spoken AV.fz AV.fzL Blk.fz binV binI shI binS unV fillA FF.parts FF.vals headO intO boundO lenV scalarEq leavesEq AV.aggc AV.cells FF.read FF.rows AV.one PV.one chunk freshB newS pickV retK evRs evRl evR resOf mkTup mkAgg allP cloOf okP_nil okX_p okX okP addN Del.noSlot Del.owners Rnd reify_p normM insM Fr.back Fr.backV Fr.setPs normV insV
attribute [local simp] FF.reify FF.reifyL PV.flat
theorem oneT (z : List T3) : ((z.map tRow).all fun r => r.all PV.one) = true := by
  rw [List.all_eq_true]; intro x hx
  simp only [List.mem_map] at hx
  obtain ⟨t, _, rfl⟩ := hx
  rfl
theorem one1 (x : T3) : ([tRow x].all fun r => r.all PV.one) = true := oneT [x]
/-- The region, so far: its list in the box, and the block that it owns. -/
def regV : Nat → AV
  | 0 => .p .nsl
  | k + 1 => .ref (31, k) 3 0 (k + 1)
def regM (l : List Int) : Nat → List (Slot × Blk)
  | 0 => []
  | k + 1 => [((31, k), .sl 71 3 ((madeReg l (k + 1)).map tRow))]
theorem wl0 : IntKind.i64.wrap 0 = 0 := wr ⟨by omega, by omega⟩
theorem wl1 : IntKind.i64.wrap 1 = 1 := wr ⟨by omega, by omega⟩
theorem wl2 : IntKind.i64.wrap 2 = 2 := wr ⟨by omega, by omega⟩
theorem mtR (x : T3) : tRow x = [.int .i64 x.f, .int .i64 x.p, .int .i64 x.t] := rfl
theorem b21' (l : List Int) (n : Nat) (hn : n < 1000) : awp Tryd.prog ac21 (retK [.cell 4 true 1] (.p (.agg [if n = 0 then .nsl else .sl 3 ((madeReg l n).map tRow)]))) (initFr [.sl 1 (l.map intRow), .int .i64 n]) := by
  simp -dsimp [ac21]
  refine loopC n (fun k => ⟨[(0, .p (.sl 1 (l.map intRow))), (1, .p (.int .i64 n)), (4, .ptr (4, 0) 1 0 0), (5, .ptr (5, 0) 1 0 0), (6, .p (.int .i64 k))], ((4, 0), .box [.p .nsl]) :: ((5, 0), .box [regV k]) :: regM l k⟩) (fun _ => True) (fun k hk _ => ?_) trivial (by simp [regV, regM])
  by_cases h : k < n
  · have w : R ((k : Int) + 1) := ⟨by omega, by omega⟩
    have h1 := b43 l (3 * k)
    rw [show ((3 * k : Nat) : Int) = 3 * (k : Int) by omega] at h1
    have h2 := b43 l (3 * k + 1)
    rw [show ((3 * k + 1 : Nat) : Int) = 3 * (k : Int) + 1 by omega] at h2
    have h3 := b43 l (3 * k + 2)
    rw [show ((3 * k + 2 : Nat) : Int) = 3 * (k : Int) + 2 by omega] at h3
    have n1 := numS_bd l (3 * k)
    have n2 := numS_bd l (3 * k + 1)
    have n3 := numS_bd l (3 * k + 2)
    have h4 := b55 n1.1 n1.2 n2.1 n2.2 n3.1 n3.2
    rw [show mtS (numS l (3 * k)) (numS l (3 * k + 1)) (numS l (3 * k + 2)) = regT l k from rfl] at h4
    have w1 : R (3 * (k : Int)) := ⟨by omega, by omega⟩
    have w2 : R (3 * (k : Int) + 1) := ⟨by omega, by omega⟩
    have w3 : R (3 * (k : Int) + 2) := ⟨by omega, by omega⟩
    have hs := madeReg_succ l k
    have hl := madeReg_len l k
    have o1 := one1 (regT l k)
    generalize numS l (3 * k) = y1 at *
    generalize numS l (3 * k + 1) = y2 at *
    generalize numS l (3 * k + 2) = y3 at *
    generalize regT l k = x at *
    obtain ⟨x1, x2, x3⟩ := x
    cases k with
    | zero =>
      have hs' : madeReg l 1 = [⟨x1, x2, x3⟩] := by simpa [madeReg] using hs
      simp -dsimp [regV, regM, h, wl0, wl1, wl2]
      refine call_p h1 (by simp) (by simp) ?_
      simp -dsimp [wl0, wl1, wl2]
      refine call_p h2 (by simp [wl0, wl1, wl2]) (by simp) ?_
      simp -dsimp [wl0, wl1, wl2]
      refine call_p h3 (by simp [wl0, wl1, wl2]) (by simp) ?_
      simp -dsimp [wl0, wl1, wl2]
      refine call_p h4 (by simp) (by simp) ?_
      simp -dsimp [wl0, wl1, wl2, mtR, List.range, List.range.loop, maxLen, hs', h]
      exact ⟨rfl, by simp [regM, hs', mtR]⟩
    | succ k =>
      simp only [Int.natCast_add, Int.natCast_one] at w w1 w2 w3 h1 h2 h3
      have hl2 : ((madeReg l (k + 1)).map tRow).length = k + 1 := by simp [hl]
      have hmax : k + 1 + 1 ≤ maxLen := by unfold maxLen; omega
      have hby : (k + 1 + 1) * 24 ≤ 140737488355328 := by omega
      have hi : (k : Int) + 1 < n := by omega
      simp -dsimp [regV, regM, h, hi, wr w1]
      refine call_p h1 (by simp) (by simp) ?_
      simp -dsimp [wr w1, wr w2]
      refine call_p h2 (by simp) (by simp) ?_
      simp -dsimp [wr w1, wr w3]
      refine call_p h3 (by simp) (by simp) ?_
      simp -dsimp
      refine call_p h4 (by simp) (by simp) ?_
      simp -dsimp [mtR, List.range, List.range.loop, hl2, hmax, hby, hs, h]
      exact ⟨wr w, rfl, by simp only [regM, hs, List.map_append]; rfl⟩
  · have : k = n := by omega
    subst this
    have hl := madeReg_len l k
    cases k with
    | zero => simp -dsimp [regV, regM]
    | succ k =>
      have ht : List.take (k + 1) ((madeReg l (k + 1)).map tRow) = (madeReg l (k + 1)).map tRow := List.take_of_length_le (by simp [hl])
      have hi : ¬ (k : Int) + 1 < (k : Int) + 1 := by omega
      simp -dsimp [regV, regM, hi, hl, ht]
theorem b21 (l : List Int) (n : Nat) (hn : n < 1000) : Best Tryd.prog 21 [.sl 1 (l.map intRow), .int .i64 n] (.p (.agg [.sl 3 ((madeReg l n).map tRow)])) := by
  have h := best mixed fn21 ok21 (by simp) (b21' l n hn)
  by_cases h0 : n = 0
  · subst h0
    rw [if_pos rfl] at h
    exact Best.res (fun S x hx => agg_nsl 3 hx) h
  · rwa [if_neg h0] at h
end Go.Abs.A09
namespace Go.Abs.A09
open Go Go.Abs Go.Proofs
set_option maxRecDepth 100000
set_option linter.unusedVariables false
set_option linter.unusedSimpArgs false
attribute [local simp ↓] awp_skip awp_seq awp_cond awp_block awp_exit awp_ret awp_reg awp_draw awp_ghost awp_loop awp_rfun awpR_nil awpR_cons awpX_nil awpX_0 awpX_1 awpX_2 awpI_eq awpI_t awpI_f awpStep_eq
attribute [local simp] condL_true condL_false condL_dec evDel evV evN evS evA initFr Ghost.app Fr.var Fr.blk Fr.ff FF.val Abs.look Fr.app Fr.erase Fr.noSlot AV.noSlot AV.noSlotL Blk.noSlot Fr.spoken AV.fz AV.fzL Blk.fz binV binI shI binS unV fillA FF.parts FF.vals headO intO boundO lenV scalarEq leavesEq AV.aggc AV.cells FF.read FF.rows AV.one PV.one chunk freshB newS pickV retK evRs evRl evR resOf mkTup mkAgg allP cloOf okP_nil okX_p okX okP addN Del.noSlot Del.owners Rnd reify_p normM insM Fr.back Fr.backV Fr.setPs normV insV
attribute [local simp] FF.reify FF.reifyL PV.flat
def rgP (l : List Int) (k : Nat) : Int × Int := (numS l (2 * k) % 129 - 64, min 64 (numS l (2 * k) % 129 - 64 + numS l (2 * k + 1) % 65))
def madeRg (l : List Int) (n : Nat) : List (Int × Int) := (List.range n).map (rgP l)
theorem madeRg_succ (l : List Int) (n : Nat) : madeRg l (n + 1) = madeRg l n ++ [rgP l n] := by simp [madeRg, List.range_succ]
theorem madeRg_len (l : List Int) (n : Nat) : (madeRg l n).length = n := by simp [madeRg]
theorem rgP_ok (l : List Int) (k : Nat) : PG (rgP l k) := by
  have h1 := numS_bd l (2 * k)
  have h2 := numS_bd l (2 * k + 1)
  unfold rgP PG CO
  dsimp only
  omega
theorem madeRg_ok (l : List Int) (n : Nat) (hn : n ≤ 3) : RG (madeRg l n) n := by
  refine ⟨by omega, by omega, by rw [madeRg_len], fun p hp => ?_⟩
  simp only [madeRg, List.mem_map] at hp
  obtain ⟨k, _, rfl⟩ := hp
  exact rgP_ok l k
theorem oneP (x : Int × Int) : ([pRow x].all fun r => r.all PV.one) = true := rfl
theorem b31 (l : List Int) (n : Nat) (hn : n < 1000) : Best Tryd.prog 31 [.sl 1 (l.map intRow), .int .i64 n] (.p (.sl 2 ((madeRg l n).map pRow))) := by
  refine best mixed fn31 ok31 (by simp) ?_
  simp -dsimp [ac31]
  refine loopC n (fun k => ⟨[(0, .p (.sl 1 (l.map intRow))), (1, .p (.int .i64 n)), (5, .ref (34, k) 2 0 k), (6, .p (.int .i64 k))], [((34, k), .sl 30 2 ((madeRg l k).map pRow))]⟩) (fun _ => True) (fun k hk _ => ?_) trivial (by simp [madeRg])
  by_cases h : k < n
  · have w : R ((k : Int) + 1) := ⟨by omega, by omega⟩
    have h1 := b43 l (2 * k)
    rw [show ((2 * k : Nat) : Int) = 2 * (k : Int) by omega] at h1
    have h2 := b43 l (2 * k + 1)
    rw [show ((2 * k + 1 : Nat) : Int) = 2 * (k : Int) + 1 by omega] at h2
    have n1 := numS_bd l (2 * k)
    have n2 := numS_bd l (2 * k + 1)
    have w1 : R (2 * (k : Int)) := ⟨by omega, by omega⟩
    have w2 : R (2 * (k : Int) + 1) := ⟨by omega, by omega⟩
    have hs := madeRg_succ l k
    have hl := madeRg_len l k
    have ex : rgP l k = (numS l (2 * k) % 129 - 64, min 64 (numS l (2 * k) % 129 - 64 + numS l (2 * k + 1) % 65)) := rfl
    rw [ex] at hs
    have e1 : (numS l (2 * k)).tmod 129 = numS l (2 * k) % 129 := Int.tmod_eq_emod_of_nonneg n1.1
    have e2 : (numS l (2 * k + 1)).tmod 65 = numS l (2 * k + 1) % 65 := Int.tmod_eq_emod_of_nonneg n2.1
    have w3 : R (numS l (2 * k) % 129 - 64) := ⟨by omega, by omega⟩
    have w4 : R (numS l (2 * k) % 129 - 64 + numS l (2 * k + 1) % 65) := ⟨by omega, by omega⟩
    generalize numS l (2 * k) = y1 at *
    generalize numS l (2 * k + 1) = y2 at *
    have hmax : k + 1 ≤ maxLen := by unfold maxLen; omega
    have hby : (k + 1) * 16 ≤ 140737488355328 := by omega
    simp -dsimp [h, wr w1]
    refine call_p h1 (by simp) (by simp) ?_
    simp -dsimp [e1, wr w3, wr w1, wr w2]
    refine call_p h2 (by simp) (by simp) ?_
    simp -dsimp [e2, wr w4, List.range, List.range.loop, hl, hmax, hby, hs, h, wr w]
    rfl
  · have : k = n := by omega
    subst this
    have hl := madeRg_len l k
    have ht : List.take k ((madeRg l k).map pRow) = (madeRg l k).map pRow := List.take_of_length_le (by simp [hl])
    simp -dsimp [hl, ht]
structure Cs where
  rg : List (List Int)
  at' : List Int
  rn : List Int
  wd : List Int
  ax : Nat
def llRow (l : List Int) : List PV := [.sl 1 (l.map intRow)]
def csC (c : Cs) : List PV := [.sl 1 (c.rg.map llRow), .sl 1 (c.at'.map intRow), .sl 1 (c.rn.map intRow), .sl 1 (c.wd.map intRow), .int .u8 c.ax]
def Cs.n (c : Cs) : Nat := c.ax % 4
theorem b28 (c : Cs) (h : c.ax < 256) : Best Tryd.prog 28 [.agg (csC c)] (.p (.int .i64 c.n)) := by
  refine best mixed fn28 ok28 (by simp) ?_
  obtain ⟨rg, at', rn, wd, ax⟩ := c
  dsimp only at h
  have w : R (ax : Int) := ⟨by omega, by omega⟩
  have e : (ax : Int).tmod 4 = ((ax % 4 : Nat) : Int) := (Int.ofNat_tmod ax 4).symm
  have e' : (ax : Int).tmod 4 = (ax : Int) % 4 := by rw [e]; omega
  simp -dsimp [ac28, csC, wr w, Cs.n, e']
theorem Cs.n_le (c : Cs) : c.n ≤ 3 := by unfold Cs.n; omega
def Cs.regs (c : Cs) : List (List T3) := (c.rg.take 4).map fun l => madeReg l c.n
theorem oneR (x : List T3) : ([regRow x].all fun r => r.all PV.one) = true := rfl
theorem regs_ok (c : Cs) : ∀ r ∈ c.regs, RI r c.n := by
  intro r hr
  simp only [Cs.regs, List.mem_map] at hr
  obtain ⟨l, _, rfl⟩ := hr
  have := c.n_le
  exact ⟨by omega, by omega, by rw [madeReg_len], madeReg_ok l c.n⟩
theorem regs_len (c : Cs) : c.regs.length = min 4 c.rg.length := by simp [Cs.regs]
theorem b27 (c : Cs) (h : c.ax < 256) : Best Tryd.prog 27 [.agg (csC c)] (.own (fun s => .ref s 1 0 c.regs.length) (.sl 42 1 (c.regs.map regRow))) := by
  refine best mixed fn27 ok27 (by simp) ?_
  have h28 := b28 c h
  have hn := c.n_le
  have hlen := regs_len c
  have hreg : ∀ k x, k < 4 → c.rg[k]? = some x → (c.regs.take (k + 1)) = c.regs.take k ++ [madeReg x c.n] := fun k x hk hx => by
    rw [List.take_add_one]
    congr 1
    simp only [Cs.regs, List.getElem?_map, List.getElem?_take, if_pos hk, hx, Option.map_some, Option.toList_some]
  have h21 := fun x => b21 x c.n (by omega)
  generalize c.regs = rs at *
  generalize c.n = n at *
  obtain ⟨rg, at', rn, wd, ax⟩ := c
  dsimp only at *
  simp -dsimp [csC] at h28
  simp -dsimp [ac27, csC]
  refine loopC (min 4 rg.length) (fun k => ⟨[(1, .ptr (1, 0) 5 0 0), (3, .ref (26, k) 1 0 k), (4, .p (.int .i64 k))], [((1, 0), .box [.p (.sl 1 (rg.map llRow)), .p (.sl 1 (at'.map intRow)), .p (.sl 1 (rn.map intRow)), .p (.sl 1 (wd.map intRow)), .p (.int .u8 ax)]), ((26, k), .sl 42 1 ((rs.take k).map regRow))]⟩) (fun _ => True) (fun k hk _ => ?_) trivial (by simp)
  by_cases hkl : k < min 4 rg.length
  · have hk1 : k < rg.length := by omega
    have hk4 : (k : Int) < 4 := by omega
    have hk4' : k < 4 := by omega
    have w : R ((k : Int) + 1) := ⟨by omega, by omega⟩
    obtain ⟨x, ex⟩ : ∃ x, rg[k] = x := ⟨_, rfl⟩
    have hx : rg[k]? = some x := by rw [List.getElem?_eq_getElem hk1, ex]
    have hs := hreg k x hk4' hx
    have h21 := h21 x
    generalize madeReg x n = y at *
    have hl2 : (rs.take k).length = k := by simp; omega
    have hmax : k + 1 ≤ maxLen := by unfold maxLen; omega
    have hby : (k + 1) * 24 ≤ 140737488355328 := by omega
    simp -dsimp [hk1, hk4, hk4', ex, llRow]
    refine call_p h28 (by simp [llRow]) (by simp) ?_
    simp -dsimp
    refine call_p h21 (by simp) (by simp) ?_
    have hmin : min k rs.length = k := by omega
    have hs' : List.take (k + 1) (rs.map regRow) = List.take k (rs.map regRow) ++ [[.sl 3 (y.map tRow)]] := by
      rw [← List.map_take, hs, List.map_append, List.map_take]; rfl
    have hkl' : k < 4 ∧ k < rg.length := by omega
    simp -dsimp [List.range, List.range.loop, hl2, hmax, hby, hmin, hs', hkl', wr w]
    exact hkl
  · have hk' : k = min 4 rg.length := by omega
    have hc : ¬ (k < rg.length ∧ (k : Int) < 4) := by omega
    have hrs : rs.take k = rs := List.take_of_length_le (by omega)
    have hkr : k = rs.length := by omega
    by_cases hk1 : k < rg.length
    · have hk4 : ¬ (k : Int) < 4 := by omega
      simp -dsimp [hk1, hk4, hrs]
      exact ⟨okV_ref 1 0 _, hkr⟩
    · simp -dsimp [hk1, hrs]
      exact ⟨okV_ref 1 0 _, hkr⟩
end Go.Abs.A09
namespace Go.Abs.A09
open Go Go.Abs Go.Proofs
set_option maxRecDepth 100000
set_option linter.unusedVariables false
set_option linter.unusedSimpArgs false
attribute [local simp ↓] awp_skip awp_seq awp_cond awp_block awp_exit awp_ret awp_reg awp_draw awp_ghost awp_loop awp_rfun awpR_nil awpR_cons awpX_nil awpX_0 awpX_1 awpX_2 awpI_eq awpI_t awpI_f awpStep_eq
attribute [local simp] condL_true condL_false condL_dec evDel evV evN evS evA initFr Ghost.app Fr.var Fr.blk Fr.ff FF.val Abs.look Fr.app Fr.erase Fr.noSlot AV.noSlot AV.noSlotL Blk.noSlot Fr.spoken AV.fz AV.fzL Blk.fz binV binI shI binS unV fillA FF.parts FF.vals headO intO boundO lenV scalarEq leavesEq AV.aggc AV.cells FF.read FF.rows AV.one PV.one chunk freshB newS pickV retK evRs evRl evR resOf mkTup mkAgg allP cloOf okP_nil okX_p okX okP addN Del.noSlot Del.owners Rnd reify_p normM insM Fr.back Fr.backV Fr.setPs normV insV
theorem gcd_div_pos {m n : Nat} (h : 0 < n) : Nat.gcd (m / Nat.gcd m n) (n / Nat.gcd m n) = 1 := by
  have hg : 0 < Nat.gcd m n := Nat.gcd_pos_of_pos_right _ h
  rw [Nat.gcd_div (Nat.gcd_dvd_left m n) (Nat.gcd_dvd_right m n), Nat.div_self hg]
theorem rsDiv {a b : Int} (ha : 0 ≤ a) (hab : a ≤ b) (hb : 1 ≤ b) (hq : b / gcdI a b ≤ 262144) : RS (a / gcdI a b) (b / gcdI a b) ∧ a / gcdI a b * b = a * (b / gcdI a b) ∧ b / gcdI a b ≤ b := by
  obtain ⟨m, rfl⟩ := Int.eq_ofNat_of_zero_le ha
  obtain ⟨n, rfl⟩ := Int.eq_ofNat_of_zero_le (show 0 ≤ b by omega)
  rw [gcdI_nat] at *
  have hn : 0 < n := by omega
  have hg : 0 < Nat.gcd m n := Nat.gcd_pos_of_pos_right _ hn
  obtain ⟨u, hu⟩ := Nat.gcd_dvd_left m n
  obtain ⟨v, hv⟩ := Nat.gcd_dvd_right m n
  have hco := gcd_div_pos (m := m) (n := n) hn
  generalize Nat.gcd m n = g at *
  have e1 : m / g = u := by rw [hu, Nat.mul_div_cancel_left _ hg]
  have e2 : n / g = v := by rw [hv, Nat.mul_div_cancel_left _ hg]
  rw [e1, e2] at hco
  have f1 : (m : Int) / (g : Int) = u := by rw [← e1]; exact (Int.natCast_ediv m g).symm
  have f2 : (n : Int) / (g : Int) = v := by rw [← e2]; exact (Int.natCast_ediv n g).symm
  rw [f1, f2] at *
  have hv0 : 0 < v := by
    rcases Nat.eq_zero_or_pos v with h | h
    · subst h; omega
    · exact h
  have huv : u ≤ v := by
    have : g * u ≤ g * v := by omega
    exact Nat.le_of_mul_le_mul_left this hg
  have hvn : v ≤ n := by rw [hv]; exact Nat.le_mul_of_pos_left v hg
  refine ⟨⟨by omega, by omega, by omega, by omega, by rw [gcdI_nat, hco]; rfl⟩, ?_, by omega⟩
  have : u * n = m * v := by rw [hu, hv, ← Nat.mul_assoc, Nat.mul_comm u g]
  exact_mod_cast this
theorem rawB2 {x : T3} {n : Int} (hT : TE x) (hn : CO n) : (rawS x n).2 ≤ 64 := by
  obtain ⟨f, p, t⟩ := x
  unfold TE at hT
  unfold CO at hn
  unfold rawS
  dsimp only at *
  split
  · simp
  · split
    · simp
    · split
      · dsimp only; omega
      · dsimp only; omega
theorem strOK {x : T3} {n : Int} (hT : TE x) (hn : CO n) : RS (strS x n).1 (strS x n).2 ∧ (strS x n).2 ≤ 64 ∧ (strS x n).1 * (rawS x n).2 = (rawS x n).1 * (strS x n).2 := by
  obtain ⟨h0, h1, h2, h3⟩ := rawB hT hn
  have h4 := rawB2 hT hn
  have hg := gcdI_ge h0 h2
  have hq : (rawS x n).2 / gcdI (rawS x n).1 (rawS x n).2 ≤ (rawS x n).2 := Int.ediv_le_self _ (by omega)
  obtain ⟨k1, k2, k3⟩ := rsDiv h0 h1 h2 (by omega)
  exact ⟨k1, by show (rawS x n).2 / _ ≤ 64; omega, k2⟩
theorem timesOK {a b c d : Int} (h1 : RS a b) (h2 : RS c d) (hq : b * d ≤ 262144) : ∃ n m, timesS a b c d = ((n, m), true) ∧ RS n m ∧ n * (b * d) = a * c * m ∧ m ≤ b * d := by
  obtain ⟨p1, p2, p3, p4, p5⟩ := timesB h1 h2
  have hac : a * c ≤ b * d := Int.mul_le_mul h1.2.2.2.1 h2.2.2.2.1 h2.2.2.1 (by have := h1.1; omega)
  have hle : b * d / gcdI (a * c) (b * d) ≤ b * d := Int.ediv_le_self _ (by omega)
  obtain ⟨k1, k2, k3⟩ := rsDiv p1 hac p3 (by omega)
  refine ⟨_, _, ?_, k1, k2, k3⟩
  unfold timesS
  rw [if_pos ⟨h1, h2⟩]
  dsimp only
  rw [if_neg (by omega)]
/-- The unreduced product. -/
def rawP (r : List T3) (a : List Int) (k : Nat) : Int × Int := ((r.zip a).take k).foldl (fun s x => (s.1 * (rawS x.1 x.2).1, s.2 * (rawS x.1 x.2).2)) (1, 1)
theorem rawP_succ {r : List T3} {a : List Int} {k : Nat} {x : T3} {n : Int} (h : (r.zip a)[k]? = some (x, n)) : rawP r a (k + 1) = ((rawP r a k).1 * (rawS x n).1, (rawP r a k).2 * (rawS x n).2) := by
  simp [rawP, List.take_add_one, h]
theorem pow64 (k : Nat) (hk : k < 3) : (64 : Int) ^ k * 64 ≤ 262144 := by
  match k, hk with
  | 0, _ => decide
  | 1, _ => decide
  | 2, _ => decide
/-- The step of the product: it fits, and stays reduced. -/
theorem scaF_ok {r : List T3} {a : List Int} (hT : ∀ t ∈ r, TE t) (hC : ∀ n ∈ a, CO n) : ∀ k, k ≤ 3 → k ≤ r.length → k ≤ a.length → RS (scaF r a k).1 (scaF r a k).2 ∧ (scaF r a k).2 ≤ 64 ^ k ∧ (scaF r a k).1 * (rawP r a k).2 = (rawP r a k).1 * (scaF r a k).2 ∧ 1 ≤ (rawP r a k).2 ∧ 0 ≤ (rawP r a k).1 := by
  intro k
  induction k with
  | zero => intro _ _ _; simp [scaF, rawP, RS, gcdI]
  | succ k ih =>
    intro h3 hr ha
    obtain ⟨i1, i2, i3, i4, i5⟩ := ih (by omega) (by omega) (by omega)
    have ht : TE (r[k]) := hT _ (List.getElem_mem _)
    have hc : CO (a[k]) := hC _ (List.getElem_mem _)
    have hz : (r.zip a)[k]? = some (r[k], a[k]) := zip_get (List.getElem?_eq_getElem (by omega)) (List.getElem?_eq_getElem (by omega))
    rw [scaF_succ hz, rawP_succ hz]
    obtain ⟨s1, s2, s3⟩ := strOK ht hc
    obtain ⟨b1, b2, b3, b4⟩ := rawB ht hc
    have hm : mulS (scaF r a k) (r[k], a[k]) = (timesS (scaF r a k).1 (scaF r a k).2 (strS r[k] a[k]).1 (strS r[k] a[k]).2).1 := rfl
    rw [hm]
    generalize strS r[k] a[k] = u at *
    generalize rawS r[k] a[k] = v at *
    generalize scaF r a k = s at *
    generalize rawP r a k = q at *
    obtain ⟨u1, u2⟩ := u
    obtain ⟨v1, v2⟩ := v
    obtain ⟨x1, x2⟩ := s
    obtain ⟨q1, q2⟩ := q
    dsimp only at *
    have hp := pow64 k (by omega)
    have h64 : x2 * u2 ≤ 64 ^ k * 64 := Int.mul_le_mul i2 s2 (by have := s1.1; omega) (by have := i1.1; omega)
    obtain ⟨n', m', e, r1, r2, r3⟩ := timesOK i1 s1 (by omega)
    rw [e]
    dsimp only
    refine ⟨r1, by rw [Int.pow_succ]; omega, ?_, ?_, Int.mul_nonneg i5 b1⟩
    · have hx : 1 ≤ x2 := i1.1
      have hu : 1 ≤ u2 := s1.1
      have hxu : 0 < x2 * u2 := Int.mul_pos (by omega) (by omega)
      apply Int.eq_of_mul_eq_mul_right (a := x2 * u2) (by omega)
      have : n' * (q2 * v2) * (x2 * u2) = n' * (x2 * u2) * (q2 * v2) := by ac_rfl
      rw [this, r2]
      have : x1 * u1 * m' * (q2 * v2) = (x1 * q2) * (u1 * v2) * m' := by ac_rfl
      rw [this, i3, s3]
      ac_rfl
    · have : 0 < q2 * v2 := Int.mul_pos (by omega) (by omega)
      omega
theorem scaF_times {r : List T3} {a : List Int} (hT : ∀ t ∈ r, TE t) (hC : ∀ n ∈ a, CO n) {k : Nat} {t : T3} {x : Int} (h3 : k < 3) (hr : r[k]? = some t) (ha : a[k]? = some x) : timesS (scaF r a k).1 (scaF r a k).2 (strS t x).1 (strS t x).2 = (scaF r a (k + 1), true) := by
  have hkr := (List.getElem?_eq_some_iff.1 hr).1
  have hka := (List.getElem?_eq_some_iff.1 ha).1
  obtain ⟨i1, i2, -⟩ := scaF_ok hT hC k (by omega) (by omega) (by omega)
  obtain ⟨s1, s2, -⟩ := strOK (hT t (List.mem_of_getElem? hr)) (hC x (List.mem_of_getElem? ha))
  have hp := pow64 k h3
  have h64 : (scaF r a k).2 * (strS t x).2 ≤ 64 ^ k * 64 := Int.mul_le_mul i2 s2 (by have := s1.1; omega) (by have := i1.1; omega)
  obtain ⟨n', m', e, -⟩ := timesOK i1 s1 (by omega)
  have hz : (r.zip a)[k]? = some (t, x) := zip_get hr ha
  rw [scaF_succ hz]
  have hm : mulS (scaF r a k) (t, x) = (timesS (scaF r a k).1 (scaF r a k).2 (strS t x).1 (strS t x).2).1 := rfl
  rw [hm, e]
theorem scaS_F {r : List T3} {a : List Int} {n : Nat} (hr : RI r n) (hl : a.length = n) (hC : ∀ n ∈ a, CO n) : scaS r a = scaF r a n := by
  have h1 : r.length = n := by have := hr.2.2.1; omega
  have h2 : n ≤ 3 := by have := hr.2.1; omega
  unfold scaS scaF
  rw [if_pos ⟨by rw [hl]; exact hr, by omega, hC⟩, List.take_of_length_le (by simp; omega)]
theorem scaS_one {t : T3} {x : Int} (hT : TE t) (hx : CO x) : scaS [t] [x] = strS t x := by
  have h1 : RI [t] 1 := ⟨by omega, by omega, rfl, by simpa using hT⟩
  rw [scaS_F (n := 1) h1 rfl (by simpa using hx)]
  have := scaF_times (r := [t]) (a := [x]) (k := 0) (t := t) (x := x) (by simpa using hT) (by simpa using hx) (by omega) rfl rfl
  have e0 : scaF [t] [x] 0 = (1, 1) := rfl
  rw [e0] at this
  dsimp only at this
  have h2 := (strOK hT hx).1
  have : timesS 1 1 (strS t x).1 (strS t x).2 = (strS t x, true) := by
    have r1 : RS 1 1 := by simp [RS, gcdI]
    unfold timesS
    rw [if_pos ⟨r1, h2⟩, Int.one_mul, Int.one_mul, h2.2.2.2.2]
    dsimp only
    rw [if_neg (by have := h2.2.1; omega)]
    simp
  simp_all
theorem str_zero {t : T3} {x : Int} (hT : TE t) (hx : CO x) (hp : t.p ≠ 0) (hn : x ≠ t.p) : (strS t x).1 = 0 ↔ (x ≤ t.f ∨ x ≥ t.t) := by
  obtain ⟨s1, s2, s3⟩ := strOK hT hx
  obtain ⟨b1, b2, b3, b4⟩ := rawB hT hx
  have hraw : (rawS t x).1 = 0 ↔ (x ≤ t.f ∨ x ≥ t.t) := by
    obtain ⟨f, p, t⟩ := t
    unfold TE at hT
    unfold CO at hx
    unfold rawS
    dsimp only at *
    rw [if_neg (by omega)]
    split
    · simp_all
    · split
      · dsimp only; omega
      · dsimp only; omega
  rw [← hraw]
  constructor
  · intro h
    rw [h, Int.zero_mul] at s3
    rcases Int.mul_eq_zero.1 s3.symm with h | h
    · exact h
    · have := s1.1; omega
  · intro h
    rw [h, Int.zero_mul] at s3
    rcases Int.mul_eq_zero.1 s3 with h | h
    · exact h
    · omega
def upS (t : T3) (x : Int) : Int := if x < t.p then x + 1 else if t.p < x then x - 1 else x
theorem up_CO {t : T3} {x : Int} (hT : TE t) (hx : CO x) : CO (upS t x) := by
  unfold TE at hT
  unfold CO at *
  unfold upS
  split
  · omega
  · split <;> omega
theorem raw_up {t : T3} {x : Int} (hT : TE t) (hx : CO x) : (rawS t x).1 * (rawS t (upS t x)).2 ≤ (rawS t (upS t x)).1 * (rawS t x).2 := by
  obtain ⟨b1, b2, b3, b4⟩ := rawB hT hx
  obtain ⟨c1, c2, c3, c4⟩ := rawB hT (up_CO hT hx)
  by_cases h0 : (rawS t x).1 = 0
  · rw [h0, Int.zero_mul]
    exact Int.mul_nonneg c1 (by omega)
  by_cases hp : t.p = 0 ∨ upS t x = t.p
  · have : rawS t (upS t x) = (1, 1) := by unfold rawS; rw [if_pos hp]
    rw [this]; dsimp only; omega
  · obtain ⟨f, p, t⟩ := t
    unfold TE at hT
    unfold CO at hx
    have key : ((rawS ⟨f, p, t⟩ x).2 = (rawS ⟨f, p, t⟩ (upS ⟨f, p, t⟩ x)).2 ∧ (rawS ⟨f, p, t⟩ x).1 ≤ (rawS ⟨f, p, t⟩ (upS ⟨f, p, t⟩ x)).1) := by
      dsimp only at *
      clear b1 b2 b3 b4 c1 c2 c3 c4
      by_cases h1 : x < p
      · have hu : upS ⟨f, p, t⟩ x = x + 1 := by unfold upS; exact if_pos h1
        rw [hu] at hp ⊢
        have h2 : ¬ (p = 0 ∨ x = p) := by omega
        have h3 : ¬ (x ≤ f ∨ x ≥ t) := by
          intro h; apply h0; unfold rawS; dsimp only; rw [if_neg h2, if_pos h]
        have h4 : ¬ (x + 1 ≤ f ∨ x + 1 ≥ t) := by omega
        unfold rawS
        dsimp only
        rw [if_neg h2, if_neg h3, if_neg hp, if_neg h4, if_pos h1, if_pos (by omega : x + 1 < p)]
        dsimp only; omega
      · by_cases h5 : p < x
        · have hu : upS ⟨f, p, t⟩ x = x - 1 := by unfold upS; dsimp only; rw [if_neg h1, if_pos h5]
          rw [hu] at hp ⊢
          have h2 : ¬ (p = 0 ∨ x = p) := by omega
          have h3 : ¬ (x ≤ f ∨ x ≥ t) := by
            intro h; apply h0; unfold rawS; dsimp only; rw [if_neg h2, if_pos h]
          have h4 : ¬ (x - 1 ≤ f ∨ x - 1 ≥ t) := by omega
          unfold rawS
          dsimp only
          rw [if_neg h2, if_neg h3, if_neg hp, if_neg h4, if_neg h1, if_neg (by omega : ¬ x - 1 < p)]
          dsimp only; omega
        · have hu : upS ⟨f, p, t⟩ x = x := by unfold upS; dsimp only; rw [if_neg h1, if_neg h5]
          rw [hu]
          omega
    rw [key.1]
    exact Int.mul_le_mul_of_nonneg_right key.2 (by omega)
theorem rawP_mono {r : List T3} {a b : List Int} (hT : ∀ t ∈ r, TE t) (hA : ∀ n ∈ a, CO n) (hB : ∀ n ∈ b, CO n) (hm : ∀ (k : Nat) (t : T3) (x y : Int), r[k]? = some t → a[k]? = some x → b[k]? = some y → (rawS t x).1 * (rawS t y).2 ≤ (rawS t y).1 * (rawS t x).2) : ∀ k, k ≤ 3 → k ≤ r.length → k ≤ a.length → k ≤ b.length → (rawP r a k).1 * (rawP r b k).2 ≤ (rawP r b k).1 * (rawP r a k).2 := by
  intro k
  induction k with
  | zero => intro _ _ _ _; simp [rawP]
  | succ k ih =>
    intro h3 hr ha hb
    have i0 := ih (by omega) (by omega) (by omega) (by omega)
    obtain ⟨-, -, -, p1, p2⟩ := scaF_ok hT hA k (by omega) (by omega) (by omega)
    obtain ⟨-, -, -, q1, q2⟩ := scaF_ok hT hB k (by omega) (by omega) (by omega)
    have er : r[k]? = some r[k] := List.getElem?_eq_getElem (by omega)
    have ea : a[k]? = some a[k] := List.getElem?_eq_getElem (by omega)
    have eb : b[k]? = some b[k] := List.getElem?_eq_getElem (by omega)
    have h := hm k _ _ _ er ea eb
    obtain ⟨b1, b2, b3, b4⟩ := rawB (hT _ (List.mem_of_getElem? er)) (hA _ (List.mem_of_getElem? ea))
    obtain ⟨c1, c2, c3, c4⟩ := rawB (hT _ (List.mem_of_getElem? er)) (hB _ (List.mem_of_getElem? eb))
    rw [rawP_succ (zip_get er ea), rawP_succ (zip_get er eb)]
    dsimp only
    generalize rawS r[k] a[k] = u at *
    generalize rawS r[k] b[k] = v at *
    generalize rawP r a k = p at *
    generalize rawP r b k = q at *
    have := Int.mul_le_mul i0 h (Int.mul_nonneg b1 (by omega)) (Int.mul_nonneg q2 (by omega))
    have e1 : p.1 * u.1 * (q.2 * v.2) = p.1 * q.2 * (u.1 * v.2) := by ac_rfl
    have e2 : q.1 * v.1 * (p.2 * u.2) = q.1 * p.2 * (v.1 * u.2) := by ac_rfl
    rw [e1, e2]; exact this
theorem scaF_mono {r : List T3} {a b : List Int} (hT : ∀ t ∈ r, TE t) (hA : ∀ n ∈ a, CO n) (hB : ∀ n ∈ b, CO n) (hm : ∀ (k : Nat) (t : T3) (x y : Int), r[k]? = some t → a[k]? = some x → b[k]? = some y → (rawS t x).1 * (rawS t y).2 ≤ (rawS t y).1 * (rawS t x).2) {k : Nat} (h3 : k ≤ 3) (hr : k ≤ r.length) (ha : k ≤ a.length) (hb : k ≤ b.length) : (scaF r a k).1 * (scaF r b k).2 ≤ (scaF r b k).1 * (scaF r a k).2 := by
  have h := rawP_mono hT hA hB hm k h3 hr ha hb
  obtain ⟨i1, -, i3, p1, p2⟩ := scaF_ok hT hA k h3 hr ha
  obtain ⟨j1, -, j3, q1, q2⟩ := scaF_ok hT hB k h3 hr hb
  generalize rawP r a k = p at *
  generalize rawP r b k = q at *
  generalize scaF r a k = s at *
  generalize scaF r b k = z at *
  have hs : 0 ≤ s.2 * z.2 := Int.mul_nonneg (by have := i1.1; omega) (by have := j1.1; omega)
  have hpq : 0 < p.2 * q.2 := Int.mul_pos (by omega) (by omega)
  apply Int.le_of_mul_le_mul_right (a := p.2 * q.2) _ hpq
  have e1 : s.1 * z.2 * (p.2 * q.2) = (s.1 * p.2) * (z.2 * q.2) := by ac_rfl
  have e2 : z.1 * s.2 * (p.2 * q.2) = (z.1 * q.2) * (s.2 * p.2) := by ac_rfl
  rw [e1, e2, i3, j3]
  have e3 : p.1 * s.2 * (z.2 * q.2) = p.1 * q.2 * (s.2 * z.2) := by ac_rfl
  have e4 : q.1 * z.2 * (s.2 * p.2) = q.1 * p.2 * (s.2 * z.2) := by ac_rfl
  rw [e3, e4]
  exact Int.mul_le_mul_of_nonneg_right h hs
/-- At its peaks. -/
theorem scaF_peak {r : List T3} {a : List Int} (hT : ∀ t ∈ r, TE t) (hp : ∀ (k : Nat) (t : T3) (x : Int), r[k]? = some t → a[k]? = some x → t.p = 0 ∨ x = t.p) : ∀ k, k ≤ r.length → k ≤ a.length → scaF r a k = (1, 1) := by
  intro k
  induction k with
  | zero => intro _ _; rfl
  | succ k ih =>
    intro hr ha
    have er : r[k]? = some r[k] := List.getElem?_eq_getElem (by omega)
    have ea : a[k]? = some a[k] := List.getElem?_eq_getElem (by omega)
    have h := hp k _ _ er ea
    rw [scaF_succ (zip_get er ea), ih (by omega) (by omega)]
    have e : rawS r[k] a[k] = (1, 1) := by unfold rawS; rw [if_pos h]
    have e2 : strS r[k] a[k] = (1, 1) := by unfold strS; rw [e]; simp [gcdI]
    have r1 : RS 1 1 := by simp [RS, gcdI]
    show (timesS 1 1 (strS r[k] a[k]).1 (strS r[k] a[k]).2).1 = _
    rw [e2]
    simp [timesS, r1, gcdI]
end Go.Abs.A09
namespace Go.Abs.A09
open Go Go.Abs Go.Proofs
set_option maxRecDepth 100000
set_option linter.unusedVariables false
set_option linter.unusedSimpArgs false
attribute [local simp ↓] awp_skip awp_seq awp_cond awp_block awp_exit awp_ret awp_reg awp_draw awp_ghost awp_loop awp_rfun awpR_nil awpR_cons awpX_nil awpX_0 awpX_1 awpX_2 awpI_eq awpI_t awpI_f awpStep_eq
attribute [local simp] condL_true condL_false condL_dec evDel evV evN evS evA initFr Ghost.app Fr.var Fr.blk Fr.ff FF.val Abs.look Fr.app Fr.erase Fr.noSlot AV.noSlot AV.noSlotL Blk.noSlot Fr.spoken AV.fz AV.fzL Blk.fz binV binI shI binS unV fillA FF.parts FF.vals headO intO boundO lenV scalarEq leavesEq AV.aggc AV.cells FF.read FF.rows AV.one PV.one chunk freshB newS pickV retK evRs evRl evR resOf mkTup mkAgg allP cloOf okP_nil okX_p okX okP addN Del.noSlot Del.owners Rnd reify_p normM insM Fr.back Fr.backV Fr.setPs normV insV
def partI {α : Type} (f : Nat → α) (l : List α) (k : Nat) : List α := (List.range k).map f ++ l.drop k
theorem partI_zero {α : Type} (f : Nat → α) (l : List α) : partI f l 0 = l := by simp [partI]
theorem partI_len {α : Type} (f : Nat → α) (l : List α) (k : Nat) (h : k ≤ l.length) : (partI f l k).length = l.length := by simp [partI]; omega
theorem partI_all {α : Type} (f : Nat → α) (l : List α) : partI f l l.length = (List.range l.length).map f := by simp [partI]
theorem partI_set {α : Type} (f : Nat → α) (l : List α) (k : Nat) (h : k < l.length) : (partI f l k).set k (f k) = partI f l (k + 1) := by
  unfold partI
  rw [List.set_append_right _ _ (by simp)]
  simp only [List.length_map, List.length_range, Nat.sub_self]
  rw [List.drop_eq_getElem_cons h, List.set_cons_zero, List.range_succ, List.map_append]
  simp
theorem partI_same {α : Type} (f : Nat → α) (l : List α) (k : Nat) (h : k < l.length) (hf : l[k] = f k) : partI f l k = partI f l (k + 1) := by
  unfold partI
  rw [List.drop_eq_getElem_cons h, hf, List.range_succ, List.map_append]
  simp
theorem oneI (z : List Int) : ((z.map intRow).all fun r => r.all PV.one) = true := by
  rw [List.all_eq_true]; intro x hx
  simp only [List.mem_map] at hx
  obtain ⟨t, _, rfl⟩ := hx
  rfl
/-- Where a tent is more than nothing. -/
def posI (t : T3) (x : Int) : Prop := t.p = 0 ∨ (min (t.f + 1) t.p ≤ x ∧ x ≤ max (t.t - 1) t.p)
instance {t : T3} {x : Int} : Decidable (posI t x) := inferInstanceAs (Decidable (_ ∨ _))
theorem rawI_pos {t : T3} {x : Int} (hT : TE t) (hx : CO x) : 0 < (rawS t x).1 ↔ posI t x := by
  obtain ⟨f, p, t⟩ := t
  unfold TE at hT
  unfold CO at hx
  unfold rawS posI
  dsimp only at *
  split
  · dsimp only; omega
  · split
    · dsimp only; omega
    · split
      · dsimp only; omega
      · dsimp only; omega
theorem pos_l {a b : Int} (h : 0 < a * b) (ha : 0 ≤ a) : 0 < a := by
  rcases Int.lt_or_eq_of_le ha with h' | h'
  · exact h'
  · rw [← h'] at h; simp at h
theorem strI_pos {t : T3} {x : Int} (hT : TE t) (hx : CO x) : 0 < (strS t x).1 ↔ posI t x := by
  rw [← rawI_pos hT hx]
  obtain ⟨s1, s2, s3⟩ := strOK hT hx
  obtain ⟨b1, b2, b3, b4⟩ := rawB hT hx
  have hs : 0 < (strS t x).2 := by have := s1.1; omega
  have hr : 0 < (rawS t x).2 := by omega
  constructor
  · intro h
    have := Int.mul_pos h hr
    rw [s3] at this
    exact pos_l this (by omega)
  · intro h
    have := Int.mul_pos h hs
    rw [← s3] at this
    exact pos_l this s1.2.2.1
def bestF (t : T3) (lo : Int) : Nat → Int × Bool
  | 0 => (lo, false)
  | m + 1 => if posI t (lo + m) then (lo + m, true) else bestF t lo m
theorem bestF_spec (t : T3) (lo : Int) : ∀ m : Nat, ((bestF t lo m).2 = true → posI t (bestF t lo m).1 ∧ lo ≤ (bestF t lo m).1 ∧ (bestF t lo m).1 < lo + m) ∧ ((bestF t lo m).2 = false → (bestF t lo m).1 = lo ∧ ∀ i : Nat, i < m → ¬ posI t (lo + i))
  | 0 => by simp [bestF]
  | m + 1 => by
    have ih := bestF_spec t lo m
    unfold bestF
    by_cases h : posI t (lo + m)
    · rw [if_pos h]
      exact ⟨fun _ => ⟨h, by dsimp only; omega, by dsimp only; omega⟩, fun h => by simp at h⟩
    · rw [if_neg h]
      refine ⟨fun k => ?_, fun k => ?_⟩
      · obtain ⟨a, b, c⟩ := ih.1 k
        exact ⟨a, b, by omega⟩
      · obtain ⟨a, b⟩ := ih.2 k
        refine ⟨a, fun i hi => ?_⟩
        by_cases hm : i = m
        · subst hm; exact h
        · exact b i (by omega)
def bst (t : T3) (p : Int × Int) : Int × Bool := bestF t p.1 (p.2 - p.1 + 1).toNat
theorem bst_spec {t : T3} {p : Int × Int} (hT : TE t) (hp : PG p) : (bst t p).2 = decide (TC t p) ∧ p.1 ≤ (bst t p).1 ∧ (bst t p).1 ≤ p.2 ∧ (posI t (bst t p).1 ↔ TC t p) := by
  have h := bestF_spec t p.1 (p.2 - p.1 + 1).toNat
  unfold bst
  have hle := hp.2.2
  generalize hb : bestF t p.1 (p.2 - p.1 + 1).toNat = b at *
  obtain ⟨x, y⟩ := b
  dsimp only at *
  have hc : ((p.2 - p.1 + 1).toNat : Int) = p.2 - p.1 + 1 := Int.toNat_of_nonneg (by omega)
  cases y with
  | true =>
    obtain ⟨a, b, c⟩ := h.1 rfl
    have hTC : TC t p := by
      obtain ⟨f, q, t⟩ := t
      unfold posI at a
      unfold TC
      dsimp only at *
      omega
    exact ⟨(decide_eq_true hTC).symm, b, by omega, fun _ => hTC, fun _ => a⟩
  | false =>
    obtain ⟨a, b⟩ := h.2 rfl
    have hTC : ¬ TC t p := by
      intro hTC
      have key : ∃ x : Int, p.1 ≤ x ∧ x ≤ p.2 ∧ posI t x := by
        obtain ⟨f, q, t⟩ := t
        unfold TC at hTC
        unfold TE at hT
        unfold posI
        dsimp only at *
        rcases hTC with h0 | ⟨h1, h2⟩
        · exact ⟨p.1, by omega, hle, Or.inl h0⟩
        · exact ⟨max p.1 (min (f + 1) q), by omega, by omega, Or.inr (by omega)⟩
      obtain ⟨z, z1, z2, z3⟩ := key
      have := b (z - p.1).toNat (by omega)
      rw [Int.toNat_of_nonneg (by omega)] at this
      apply this
      rw [show p.1 + (z - p.1) = z by omega]
      exact z3
    refine ⟨(decide_eq_false hTC).symm, by omega, by omega, fun h => ?_, fun h => absurd h hTC⟩
    have := b 0 (by omega)
    rw [show p.1 + ((0 : Nat) : Int) = x by omega] at this
    exact absurd h this
def bf (r : List T3) (l : List (Int × Int)) (i : Nat) : Int × Bool := bst (r.getD i ⟨0, 0, 0⟩) (l.getD i (0, 0))
theorem bf_get {r : List T3} {l : List (Int × Int)} {i : Nat} {t : T3} {p : Int × Int} (h1 : r[i]? = some t) (h2 : l[i]? = some p) : bf r l i = bst t p := by
  unfold bf
  rw [List.getD_eq_getElem?_getD, h1, List.getD_eq_getElem?_getD, h2]; rfl
/-- The whole product is more than nothing exactly if each tent is. -/
theorem scaF_pos {r : List T3} {a : List Int} (hT : ∀ t ∈ r, TE t) (hC : ∀ n ∈ a, CO n) : ∀ k, k ≤ 3 → k ≤ r.length → k ≤ a.length → (0 < (scaF r a k).1 ↔ ∀ (i : Nat) (t : T3) (x : Int), i < k → r[i]? = some t → a[i]? = some x → posI t x) := by
  intro k h3 hr ha
  have hraw : ∀ k, k ≤ 3 → k ≤ r.length → k ≤ a.length → (0 < (rawP r a k).1 ↔ ∀ (i : Nat) (t : T3) (x : Int), i < k → r[i]? = some t → a[i]? = some x → posI t x) := by
    intro k
    induction k with
    | zero => intro _ _ _; simp [rawP]
    | succ k ih =>
      intro h3 hr ha
      have ih := ih (by omega) (by omega) (by omega)
      obtain ⟨-, -, -, p1, p2⟩ := scaF_ok hT hC k (by omega) (by omega) (by omega)
      have er : r[k]? = some r[k] := List.getElem?_eq_getElem (by omega)
      have ea : a[k]? = some a[k] := List.getElem?_eq_getElem (by omega)
      have hpos := rawI_pos (hT _ (List.mem_of_getElem? er)) (hC _ (List.mem_of_getElem? ea))
      rw [rawP_succ (zip_get er ea)]
      dsimp only
      constructor
      · intro h i t x hi h1 h2
        have hq : 0 < (rawP r a k).1 := by
          rcases Int.lt_or_eq_of_le p2 with h' | h'
          · exact h'
          · rw [← h'] at h; simp at h
        by_cases hk : i = k
        · subst hk
          rw [er] at h1; rw [ea] at h2
          cases h1; cases h2
          rw [← hpos]
          exact Int.pos_of_mul_pos_right h (by omega)
        · exact ih.1 hq i t x (by omega) h1 h2
      · intro h
        exact Int.mul_pos (ih.2 fun i t x hi => h i t x (by omega)) (hpos.2 (h k _ _ (by omega) er ea))
  rw [← hraw k h3 hr ha]
  obtain ⟨i1, -, i3, p1, p2⟩ := scaF_ok hT hC k h3 hr ha
  have hs : 0 < (scaF r a k).2 := by have := i1.1; omega
  constructor
  · intro h
    have := Int.mul_pos h (show 0 < (rawP r a k).2 by omega)
    rw [i3] at this
    rcases Int.lt_or_eq_of_le p2 with h' | h'
    · exact h'
    · rw [← h'] at this; simp at this
  · intro h
    have := Int.mul_pos h hs
    rw [← i3] at this
    rcases Int.lt_or_eq_of_le i1.2.2.1 with h' | h'
    · exact h'
    · rw [← h'] at this; simp at this
theorem meets {r : List T3} {l w : List (Int × Int)} {n : Nat} (hr : RI r n) (hl : RG l n) (hw : RG w n) (hlw : ∀ (i : Nat) (p q : Int × Int), l[i]? = some p → w[i]? = some q → q.1 ≤ p.1 ∧ p.2 ≤ q.2) :
    decide (TO r l) = (List.range n).all (fun i => (bf r l i).2) ∧ decide (0 < (scaS r ((List.range n).map fun i => (bf r l i).1)).1) = (List.range n).all (fun i => (bf r l i).2) ∧ WI ((List.range n).map fun i => (bf r l i).1) l ∧ (TO r l → TO r w) := by
  have hrl : r.length = n := by have := hr.2.2.1; omega
  have hll : l.length = n := by have := hl.2.2.1; omega
  have hwl : w.length = n := by have := hw.2.2.1; omega
  have hn3 : n ≤ 3 := by have := hr.2.1; omega
  have hT : ∀ t ∈ r, TE t := hr.2.2.2
  have hP : ∀ p ∈ l, PG p := hl.2.2.2
  have get : ∀ i, i < n → ∃ t p, r[i]? = some t ∧ l[i]? = some p ∧ TE t ∧ PG p ∧ bf r l i = bst t p := by
    intro i hi
    have er : r[i]? = some r[i] := List.getElem?_eq_getElem (by omega)
    have el : l[i]? = some l[i] := List.getElem?_eq_getElem (by omega)
    exact ⟨_, _, er, el, hT _ (List.mem_of_getElem? er), hP _ (List.mem_of_getElem? el), bf_get er el⟩
  have hal : ((List.range n).map fun i => (bf r l i).1).length = n := by simp
  have haget : ∀ i, i < n → ((List.range n).map fun i => (bf r l i).1)[i]? = some (bf r l i).1 := by
    intro i hi
    rw [List.getElem?_map, List.getElem?_range hi]; rfl
  have haC : ∀ x ∈ (List.range n).map fun i => (bf r l i).1, CO x := by
    intro x hx
    simp only [List.mem_map, List.mem_range] at hx
    obtain ⟨i, hi, rfl⟩ := hx
    obtain ⟨t, p, -, -, h1, h2, h3⟩ := get i hi
    rw [h3]
    obtain ⟨-, b1, b2, -⟩ := bst_spec h1 h2
    have := h2.1; have := h2.2.1
    unfold CO at *
    omega
  have hTO : TO r l ↔ ∀ i, i < n → (bf r l i).2 = true := by
    constructor
    · intro h i hi
      obtain ⟨t, p, e1, e2, h1, h2, h3⟩ := get i hi
      rw [h3, (bst_spec h1 h2).1]
      exact decide_eq_true (h.2.2 (t, p) (List.mem_of_getElem? (zip_get e1 e2)))
    · intro h
      refine ⟨by rw [hll]; exact hl, by rw [hll]; exact hr, fun x hx => ?_⟩
      obtain ⟨i, hi⟩ := List.getElem?_of_mem hx
      have hin : i < n := by have := (List.getElem?_eq_some_iff.1 hi).1; simp at this; omega
      obtain ⟨t, p, e1, e2, h1, h2, h3⟩ := get i hin
      rw [zip_get e1 e2] at hi
      cases hi
      have := h i hin
      rw [h3, (bst_spec h1 h2).1] at this
      exact of_decide_eq_true this
  have hall : (List.range n).all (fun i => (bf r l i).2) = decide (TO r l) := by
    rw [Bool.eq_iff_iff, List.all_eq_true, decide_eq_true_iff, hTO]
    simp
  refine ⟨hall.symm, ?_, ?_, ?_⟩
  · rw [hall, decide_eq_decide, scaS_F hr hal haC, scaF_pos hT haC n hn3 (by omega) (by omega), hTO]
    constructor
    · intro h i hi
      obtain ⟨t, p, e1, e2, h1, h2, h3⟩ := get i hi
      have := h i t _ hi e1 (haget i hi)
      rw [h3] at this ⊢
      obtain ⟨b0, -, -, b3⟩ := bst_spec h1 h2
      rw [b0]; exact decide_eq_true (b3.1 this)
    · intro h i t x hi h1 h2
      obtain ⟨t', p, e1, e2, g1, g2, g3⟩ := get i hi
      rw [e1] at h1; cases h1
      rw [haget i hi, g3] at h2; cases h2
      obtain ⟨b0, -, -, b3⟩ := bst_spec g1 g2
      have := h i hi
      rw [g3, b0] at this
      exact b3.2 (of_decide_eq_true this)
  · refine ⟨by rw [hal]; exact hl, fun x hx => ?_⟩
    obtain ⟨i, hi⟩ := List.getElem?_of_mem hx
    have hin : i < n := by have := (List.getElem?_eq_some_iff.1 hi).1; simp at this; omega
    obtain ⟨t, p, e1, e2, h1, h2, h3⟩ := get i hin
    rw [zip_get (haget i hin) e2, h3] at hi
    cases hi
    obtain ⟨-, b1, b2, -⟩ := bst_spec h1 h2
    exact ⟨b1, b2⟩
  · intro h
    refine ⟨by rw [hwl]; exact hw, by rw [hwl]; exact hr, fun x hx => ?_⟩
    obtain ⟨i, hi⟩ := List.getElem?_of_mem hx
    have hin : i < n := by have := (List.getElem?_eq_some_iff.1 hi).1; simp at this; omega
    obtain ⟨t, p, e1, e2, h1, h2, h3⟩ := get i hin
    have ew : w[i]? = some w[i] := List.getElem?_eq_getElem (by omega)
    rw [zip_get e1 ew] at hi
    cases hi
    have hc := h.2.2 (t, p) (List.mem_of_getElem? (zip_get e1 e2))
    have := hlw i p _ e2 ew
    unfold TC at *
    dsimp only at *
    omega
def andM (m x : Int) : Int := ((BitVec.ofInt 64 x &&& BitVec.ofInt 64 m).toNat : Nat)
theorem andM_bd (m x : Int) (hm : 0 ≤ m ∧ m ≤ 65535) : 0 ≤ andM m x ∧ andM m x ≤ m := by
  unfold andM
  refine ⟨by omega, ?_⟩
  have h1 : (BitVec.ofInt 64 x &&& BitVec.ofInt 64 m).toNat ≤ (BitVec.ofInt 64 m).toNat := by
    rw [BitVec.toNat_and]
    exact Nat.and_le_right
  have h2 : (BitVec.ofInt 64 m).toNat = m.toNat := by
    rw [BitVec.toNat_ofInt, Int.emod_eq_of_lt hm.1 (by omega)]
  omega
theorem and63_wrap (x : Int) : IntKind.i64.wrap ((BitVec.ofInt IntKind.i64.bits x &&& BitVec.ofInt IntKind.i64.bits 63).toNat) = andM 63 x := by
  have h := andM_bd 63 x (by decide)
  exact wr (n := andM 63 x) ⟨by omega, by omega⟩
theorem and31_wrap (x : Int) : IntKind.i64.wrap ((BitVec.ofInt IntKind.i64.bits x &&& BitVec.ofInt IntKind.i64.bits 31).toNat) = andM 31 x := by
  have h := andM_bd 31 x (by decide)
  exact wr (n := andM 31 x) ⟨by omega, by omega⟩
def wiF (l : List (Int × Int)) (wd : List Int) (i : Nat) : Int × Int := if i < wd.length then (max (-64) ((l.getD i (0, 0)).1 - andM 63 (wd.getD i 0)), min 64 ((l.getD i (0, 0)).2 + andM 31 (wd.getD i 0))) else l.getD i (0, 0)
theorem wi_one {l : List (Int × Int)} {wd : List Int} {i : Nat} {p : Int × Int} (h : l[i]? = some p) (hp : PG p) : PG (wiF l wd i) ∧ (wiF l wd i).1 ≤ p.1 ∧ p.2 ≤ (wiF l wd i).2 := by
  have e : l.getD i (0, 0) = p := by rw [List.getD_eq_getElem?_getD, h]; rfl
  unfold wiF
  rw [e]
  split
  · have a1 := andM_bd 63 (wd.getD i 0) (by decide)
    have a2 := andM_bd 31 (wd.getD i 0) (by decide)
    unfold PG CO at *
    dsimp only
    omega
  · exact ⟨hp, Int.le_refl _, Int.le_refl _⟩
theorem wi_ok {l : List (Int × Int)} {wd : List Int} {n : Nat} (hl : RG l n) : RG ((List.range n).map (wiF l wd)) n := by
  have hll : l.length = n := by have := hl.2.2.1; omega
  refine ⟨hl.1, hl.2.1, by simp, fun p hp => ?_⟩
  simp only [List.mem_map, List.mem_range] at hp
  obtain ⟨i, hi, rfl⟩ := hp
  have e : l[i]? = some l[i] := List.getElem?_eq_getElem (by omega)
  exact (wi_one e (hl.2.2.2 _ (List.mem_of_getElem? e))).1
theorem wi_wide {l : List (Int × Int)} {wd : List Int} {n : Nat} (hll : l.length = n) (hP : ∀ p ∈ l, PG p) : ∀ (i : Nat) (p q : Int × Int), l[i]? = some p → ((List.range n).map (wiF l wd))[i]? = some q → q.1 ≤ p.1 ∧ p.2 ≤ q.2 := by
  intro i p q h1 h2
  have hi : i < n := by have := (List.getElem?_eq_some_iff.1 h1).1; omega
  rw [List.getElem?_map, List.getElem?_range hi] at h2
  simp only [Option.map_some, Option.some.injEq] at h2
  subst h2
  exact (wi_one h1 (hP p (List.mem_of_getElem? h1))).2
theorem onePs (z : List (Int × Int)) : ((z.map pRow).all fun r => r.all PV.one) = true := by
  rw [List.all_eq_true]; intro x hx
  simp only [List.mem_map] at hx
  obtain ⟨t, _, rfl⟩ := hx
  rfl
end Go.Abs.A09
namespace Go.Abs.A09
open Go Go.Abs Go.Proofs
set_option maxRecDepth 100000
set_option linter.unusedVariables false
set_option linter.unusedSimpArgs false
attribute [local simp ↓] awp_skip awp_seq awp_cond awp_block awp_exit awp_ret awp_reg awp_draw awp_ghost awp_loop awp_rfun awpR_nil awpR_cons awpX_nil awpX_0 awpX_1 awpX_2 awpI_eq awpI_t awpI_f awpStep_eq
attribute [local simp] condL_true condL_false condL_dec evDel evV evN evS evA initFr Ghost.app Fr.var Fr.blk Fr.ff FF.val Abs.look Fr.app Fr.erase Fr.noSlot AV.noSlot AV.noSlotL Blk.noSlot Fr.spoken AV.fz AV.fzL Blk.fz binV binI shI binS unV fillA FF.parts FF.vals headO intO boundO lenV scalarEq leavesEq AV.aggc AV.cells FF.read FF.rows AV.one PV.one chunk freshB newS pickV retK evRs evRl evR resOf mkTup mkAgg allP cloOf okP_nil okX_p okX okP addN Del.noSlot Del.owners Rnd reify_p normM insM Fr.back Fr.backV Fr.setPs normV insV
attribute [local simp ↓] and63_wrap and31_wrap
attribute [local simp] FF.reify FF.reifyL PV.flat AV.fz AV.fzL Blk.fz
set_option maxHeartbeats 4000000 in
theorem b9 (c : Cs) (hc : c.ax < 256) (hwd : c.wd.length ≤ 9223372036854775807) : Best Tryd.prog 9 [.agg (csC c)] (.p (.bool true)) := by
  refine best mixed xn9 xk9 (by simp) ?_
  have h28 := b28 c hc
  have hn := c.n_le
  have h27 := b27 c hc
  have hrl := regs_len c
  have hrok := regs_ok c
  generalize c.regs = rs at *
  generalize c.n = n at *
  obtain ⟨rg, at', rn, wd, ax⟩ := c
  dsimp only at *
  simp -dsimp [csC] at h28 h27
  simp -dsimp [xc9, csC]
  refine call_p b11 rfl (by simp) ?_
  simp -dsimp
  refine call_p h28 (by simp) (by simp) ?_
  simp -dsimp
  have h31 := b31 rn n (by omega)
  have hlok := madeRg_ok rn n hn
  generalize madeRg rn n = l at *
  have hll : l.length = n := by have := hlok.2.2.1; omega
  have hP : ∀ p ∈ l, PG p := hlok.2.2.2
  have hx1 : l.length ≤ maxLen := by unfold maxLen; omega
  have hx2 : l.length * 16 ≤ 140737488355328 := by omega
  have hx3 := onePs l
  refine call_p h31 (by simp) (by simp) ?_
  simp -dsimp [List.range, List.range.loop, hx1, hx2, ↓hx3]
  refine loopC n (fun k => ⟨[(1, .ptr (1, 0) 5 0 0), (3, .p (.bool true)), (4, .p (.int .i64 n)), (5, .p (.sl 2 (l.map pRow))), (6, .ref (24, 1) 2 0 n), (7, .p (.int .i64 k))], [((1, 0), .box [.p (.sl 1 (rg.map llRow)), .p (.sl 1 (at'.map intRow)), .p (.sl 1 (rn.map intRow)), .p (.sl 1 (wd.map intRow)), .p (.int .u8 ax)]), ((24, 1), .sl 30 2 ((partI (wiF l wd) l k).map pRow))]⟩) (fun _ => True) (fun k hk _ => ?_) trivial (by simp [partI_zero, hll])
  by_cases h : k < n
  · have w : R ((k : Int) + 1) := ⟨by omega, by omega⟩
    obtain ⟨p, ep⟩ : ∃ p, l[k]'(by omega) = p := ⟨_, rfl⟩
    have hpk : l[k]? = some p := by rw [List.getElem?_eq_getElem (by omega), ep]
    have hPp := hP p (List.mem_of_getElem? hpk)
    have hki : (k : Int) < n := by omega
    have hkl : k < l.length := by omega
    by_cases hwk : k < wd.length
    · obtain ⟨x, ex⟩ : ∃ x, wd[k] = x := ⟨_, rfl⟩
      have hxk : wd[k]? = some x := by rw [List.getElem?_eq_getElem hwk, ex]
      have hwi : (k : Int) < wd.length := by omega
      have hf : wiF l wd k = (max (-64) (p.1 - andM 63 x), min 64 (p.2 + andM 31 x)) := by
        unfold wiF
        rw [if_pos hwk, List.getD_eq_getElem?_getD, hpk, List.getD_eq_getElem?_getD, hxk]; rfl
      have hset := partI_set (wiF l wd) l k hkl
      rw [hf] at hset
      have hlen : (partI (wiF l wd) l k).length = n := by rw [partI_len _ _ _ (by omega), hll]
      have hkq : k < (partI (wiF l wd) l k).length := by omega
      have a1 := andM_bd 63 x (by decide)
      have a2 := andM_bd 31 x (by decide)
      have w1 : R (p.1 - andM 63 x) := ⟨by have := hPp.1.1; omega, by have := hPp.1.2; omega⟩
      have w2 : R (p.2 + andM 31 x) := ⟨by have := hPp.2.1.1; omega, by have := hPp.2.1.2; omega⟩
      have hset2 : ((partI (wiF l wd) l k).map pRow).set k [.int .i64 (max (-64) (p.1 - andM 63 x)), .int .i64 (min 64 (p.2 + andM 31 x))] = (partI (wiF l wd) l (k + 1)).map pRow := by rw [← hset, List.map_set]; rfl
      simp -dsimp [xc9d, h, hki, hkl, hpk, ep, pRow, hwi, hwk, hxk, ex, intRow, wr w, wr w1, wr w2, hkq, hset2]
    · have hwi : ¬ (k : Int) < wd.length := by omega
      have hf : wiF l wd k = p := by
        unfold wiF
        rw [if_neg hwk, List.getD_eq_getElem?_getD, hpk]; rfl
      have hps := partI_same (wiF l wd) l k hkl (by rw [hf, ep])
      simp -dsimp [xc9d, h, hki, hwi, hwk, wr w]
      rw [← hps]
  · have : k = n := by omega
    subst this
    have hwl : (partI (wiF l wd) l k).length = k := by rw [partI_len _ _ _ (by omega), hll]
    have hwa : partI (wiF l wd) l k = (List.range k).map (wiF l wd) := by have := partI_all (wiF l wd) l; rwa [hll] at this
    have hwok : RG ((List.range k).map (wiF l wd)) k := wi_ok hlok
    have hwlw := wi_wide (l := l) (wd := wd) (n := k) hll hP
    rw [← hwa] at hwok hwlw
    generalize partI (wiF l wd) l k = w at *
    have hwt : List.take k (w.map pRow) = w.map pRow := List.take_of_length_le (by simp; omega)
    simp -dsimp [xc9d, hwl, hwt, xc9e]
    clear h hk
    refine call_o h27 (by simp) (by simp) ?_
    simp -dsimp
    have z1 : (8 : Int) * k ≤ 281474976710656 := by omega
    have z2 : (k : Int) ≤ 9223372036854775807 := by omega
    have z3 : List.replicate k [PV.int .i64 0] = (List.replicate k (0 : Int)).map intRow := by
      simp [intRow]
    have z4 : (k : Int) * 8 ≤ 281474976710656 := by omega
    refine loopC rs.length (fun i => ⟨[(3, .p (.bool true)), (4, .p (.int .i64 k)), (5, .p (.sl 2 (l.map pRow))), (6, .p (.sl 2 (w.map pRow))), (68, .ref (68, 0) 1 0 rs.length), (69, .p (.int .i64 rs.length)), (70, .p (.int .i64 i))], [((68, 0), .sl 42 1 (rs.map regRow))]⟩) (fun _ => True) (fun i hi _ => ?_) trivial (by simp)
    by_cases hir : i < rs.length
    · obtain ⟨r, er⟩ : ∃ r, rs[i] = r := ⟨_, rfl⟩
      have hrk : rs[i]? = some r := by rw [List.getElem?_eq_getElem (by omega), er]
      have hrr := hrok r (List.mem_of_getElem? hrk)
      have wi : R ((i : Int) + 1) := ⟨by omega, by omega⟩
      have hii : (i : Int) < rs.length := by omega
      have hrl2 : r.length = k := by have := hrr.2.2.1; omega
      have hT : ∀ t ∈ r, TE t := hrr.2.2.2
      have law := meets hrr hlok hwok hwlw
      simp -dsimp [xc9f, hir, hii, hrk, er, regRow, z1, z2, z3, z4]
      refine loopC k (fun j => ⟨[(3, .p (.bool true)), (4, .p (.int .i64 k)), (5, .p (.sl 2 (l.map pRow))), (6, .p (.sl 2 (w.map pRow))), (9, .ptr (9, 0) 1 0 0), (10, .ref (75, 0) 1 0 k), (11, .p (.bool ((List.range j).all fun i => (bf r l i).2))), (12, .p (.int .i64 j)), (68, .ref (68, 0) 1 0 rs.length), (69, .p (.int .i64 rs.length)), (70, .p (.int .i64 i))], [((9, 0), .box [.p (.sl 3 (r.map tRow))]), ((68, 0), .sl 42 1 (rs.map regRow)), ((75, 0), .sl 3 1 ((partI (fun i => (bf r l i).1) (List.replicate k 0) j).map intRow))]⟩) (fun _ => True) (fun j hj _ => ?_) trivial (by simp [partI_zero])
      by_cases hj7 : j < k
      · obtain ⟨t, et⟩ : ∃ t, r[j]'(by omega) = t := ⟨_, rfl⟩
        obtain ⟨p, ep⟩ : ∃ p, l[j]'(by omega) = p := ⟨_, rfl⟩
        have htk : r[j]? = some t := by rw [List.getElem?_eq_getElem (by omega), et]
        have hpk : l[j]? = some p := by rw [List.getElem?_eq_getElem (by omega), ep]
        have hTt := hT t (List.mem_of_getElem? htk)
        have hPp := hP p (List.mem_of_getElem? hpk)
        have wj : R ((j : Int) + 1) := ⟨by omega, by omega⟩
        have hji : (j : Int) < k := by omega
        have hjr : j < r.length := by omega
        have hjl : j < l.length := by omega
        have hdt : List.drop j (List.take (j + 1) (r.map tRow)) = [tRow t] := by
          rw [List.take_succ_eq_append_getElem (by simpa using hjr), List.drop_append]
          have : min j r.length = j := by omega
          simp [et, this]
        have hsl : (j : Int) ≤ j + 1 ∧ (j : Int) + 1 ≤ r.length := by omega
        have hbf := bf_get htk hpk
        simp -dsimp [xc9g, hj7, hji, hjl, hpk, ep, pRow]
        refine loopC (p.2 - p.1 + 1).toNat (fun m => ⟨[(3, .p (.bool true)), (4, .p (.int .i64 k)), (5, .p (.sl 2 (l.map pRow))), (6, .p (.sl 2 (w.map pRow))), (9, .ptr (9, 0) 1 0 0), (10, .ref (75, 0) 1 0 k), (11, .p (.bool ((List.range j).all fun i => (bf r l i).2))), (12, .p (.int .i64 j)), (13, .p (.int .i64 (bestF t p.1 m).1)), (14, .p (.bool (bestF t p.1 m).2)), (15, .p (.int .i64 (p.1 + m))), (68, .ref (68, 0) 1 0 rs.length), (69, .p (.int .i64 rs.length)), (70, .p (.int .i64 i))], [((9, 0), .box [.p (.sl 3 (r.map tRow))]), ((68, 0), .sl 42 1 (rs.map regRow)), ((75, 0), .sl 3 1 ((partI (fun i => (bf r l i).1) (List.replicate k 0) j).map intRow))]⟩) (fun _ => True) (fun m hm _ => ?_) trivial (by simp [bestF])
        have hc : ((p.2 - p.1 + 1).toNat : Int) = p.2 - p.1 + 1 := Int.toNat_of_nonneg (by have := hPp.2.2; omega)
        by_cases hmm : m < (p.2 - p.1 + 1).toNat
        · have hle : p.1 + (m : Int) ≤ p.2 := by omega
          have hCx : CO (p.1 + m) := ⟨by have := hPp.1.1; omega, by have := hPp.2.1.2; omega⟩
          have wm : R (p.1 + m + 1) := ⟨by have := hCx.1; omega, by have := hCx.2; omega⟩
          have em : p.1 + ((m : Int) + 1) = p.1 + m + 1 := by omega
          have p1 := b25 [t] [p.1 + m] (by simp)
          rw [scaS_one hTt hCx] at p1
          have hpos := strI_pos hTt hCx
          simp -dsimp [tRow, intRow] at p1
          simp -dsimp [xc9h, hle, hjl, hpk, ep, pRow, wr wj, hsl, hdt, List.range, List.range.loop]
          refine call_f p1 (by simp [tRow]) rfl (by simp) ?_
          by_cases hq : posI t (p.1 + m)
          · have hq' : 0 < (strS t (p.1 + m)).1 := hpos.2 hq
            have hb : bestF t p.1 (m + 1) = (p.1 + m, true) := by unfold bestF; rw [if_pos hq]
            simp -dsimp [hq', wr wm, em, hmm, hb]
            omega
          · have hq' : ¬ 0 < (strS t (p.1 + m)).1 := fun h => hq (hpos.1 h)
            have hb : bestF t p.1 (m + 1) = bestF t p.1 m := by conv => lhs; unfold bestF; rw [if_neg hq]
            simp -dsimp [hq', wr wm, em, hmm, hb]
            omega
        · have hmq : m = (p.2 - p.1 + 1).toNat := by omega
          subst hmq
          have hle : ¬ (p.1 + ((p.2 - p.1 + 1).toNat : Int) ≤ p.2) := by omega
          generalize p.1 + ((p.2 - p.1 + 1).toNat : Int) = z at hle ⊢
          have hlen : (partI (fun i => (bf r l i).1) (List.replicate k 0) j).length = k := by rw [partI_len _ _ _ (by simp; omega)]; simp
          have hjq : j < (partI (fun i => (bf r l i).1) (List.replicate k 0) j).length := by omega
          have hset := partI_set (fun i => (bf r l i).1) (List.replicate k 0) j (by simpa using hj7)
          simp only [hbf] at hset
          have hset2 : ((partI (fun i => (bf r l i).1) (List.replicate k 0) j).map intRow).set j [.int .i64 (bst t p).1] = (partI (fun i => (bf r l i).1) (List.replicate k 0) (j + 1)).map intRow := by rw [← hset, List.map_set]; rfl
          have hbst : bestF t p.1 (p.2 - p.1 + 1).toNat = bst t p := rfl
          have hthr : ((List.range (j + 1)).all fun i => (bf r l i).2) = (((List.range j).all fun i => (bf r l i).2) && (bst t p).2) := by
            rw [List.range_succ, List.all_append]; simp [hbf]
          have ht : ∀ x, (intRow x).tail = [] := fun _ => rfl
          generalize ((List.range j).all fun i => (bf r l i).2) = b1 at *
          cases b1 <;> simp -dsimp [xc9h, hle, hjl, hpk, ep, pRow, xc9i, hbst, hji, hjq, ht, hset2, hthr, wr wj, hj7]
      · have : j = k := by omega
        subst this
        have hql : (partI (fun i => (bf r l i).1) (List.replicate j 0) j).length = j := by rw [partI_len _ _ _ (by simp)]; simp
        have hqa : partI (fun i => (bf r l i).1) (List.replicate j 0) j = (List.range j).map (fun i => (bf r l i).1) := by
          have := partI_all (fun i => (bf r l i).1) (List.replicate j 0)
          simpa using this
        rw [← hqa] at law
        generalize partI (fun i => (bf r l i).1) (List.replicate j 0) j = q at *
        obtain ⟨law1, law2, law3, law4⟩ := law
        rw [← law1]
        rw [← law1] at law2
        have hqt : List.take j (q.map intRow) = q.map intRow := List.take_of_length_le (by simp; omega)
        have p1 := b36 r l (by omega) (by omega)
        have p2 := b25 r q (by omega)
        have p3 := b34 q l (by omega) (by omega)
        rw [decide_eq_true law3] at p3
        have p4 := b36 r w (by omega) (by omega)
        simp -dsimp [xc9g, hql, hqt, xc9j]
        refine call_p p1 (by simp) (by simp) ?_
        by_cases hto : TO r l
        · have hpos : 0 < (scaS r q).1 := by rw [decide_eq_true hto] at law2; exact of_decide_eq_true law2
          rw [decide_eq_true (law4 hto)] at p4
          simp -dsimp [hto, xc9k]
          refine call_p p2 (by simp) (by simp) ?_
          simp -dsimp [hpos]
          refine call_p p3 (by simp) (by simp) ?_
          simp -dsimp
          refine call_p p4 (by simp) (by simp) ?_
          simp -dsimp [wr wi, hir]
        · have hpos : ¬ 0 < (scaS r q).1 := by rw [decide_eq_false hto] at law2; exact of_decide_eq_false law2
          simp -dsimp [hto, xc9k]
          refine call_p p2 (by simp) (by simp) ?_
          simp -dsimp [hpos]
          refine call_p p3 (by simp) (by simp) ?_
          simp -dsimp [wr wi, hir]
    · simp -dsimp [xc9f, hir]
end Go.Abs.A09
