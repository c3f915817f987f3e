/- Proved: the law AxesChecks returns true for every input, and its arguments read behind the call as they did; no condition beyond the given card. -/
import Derived.Test.YtnonjaonklngpaaDoorC5
import Derived.OpenShut
import Derived.Deep.Slices
import Derived.WideShapes
import Derived.Carry
import Derived.DataElems
import Derived.Test.YtnonjaonklngpaaDoorRows
import Derived.ChangeSame
import Derived.ChangeVars
import Derived.JoinedOf
import Derived.RowKit
import Derived.RowKitTokens
import Derived.LaidLaws
import Derived.LaidHandle
import Derived.Stop.Joined
import Derived.Lib.LaidIn
import Derived.Lib.LaidU8T
import Derived.ProofKit
import Derived.SizedLaws
import Derived.Test.YtnonjaonklngpaaDoorCards
import Derived.Test.YtnonjaonklngpaaDoorTie
import Derived.SevenTiedAt
namespace Go.Abs.A09
open Go Go.Abs Go.Proofs
set_option maxRecDepth 100000
set_option linter.unusedVariables false
set_option linter.unusedSimpArgs false
attribute [local simp ↓] awp_skip awp_seq awp_cond awp_block awp_exit awp_ret awp_reg awp_draw awp_ghost awp_loop awp_rfun awpR_nil awpR_cons awpX_nil awpX_0 awpX_1 awpX_2 awpI_eq awpI_t awpI_f awpStep_eq
attribute [local simp] condL_true condL_false condL_dec evDel evV evN evS evA initFr Ghost.app Fr.var Fr.blk Fr.ff FF.val Abs.look Fr.app Fr.erase Fr.noSlot AV.noSlot AV.noSlotL Blk.noSlot Fr.spoken AV.fz AV.fzL Blk.fz binV binI shI binS unV fillA FF.parts FF.vals headO intO boundO lenV scalarEq leavesEq AV.aggc AV.cells FF.read FF.rows AV.one PV.one chunk freshB newS pickV retK evRs evRl evR resOf mkTup mkAgg allP cloOf okP_nil okX_p okX okP addN Del.noSlot Del.owners Rnd reify_p normM insM Fr.back Fr.backV Fr.setPs normV insV
def loS (l : List Int) (d : Int) : Nat → Int × Int × List (Int × Int)
  | 0 => (d, 0, [])
  | k + 1 => ((loS l d k).1 - 1 - (numS l (3 + k)).tmod 200, max (-64) ((loS l d k).2.1 - (numS l (5 + k)).tmod 65), ((loS l d k).1 - 1 - (numS l (3 + k)).tmod 200, max (-64) ((loS l d k).2.1 - (numS l (5 + k)).tmod 65)) :: (loS l d k).2.2)
def hiS (l : List Int) (d : Int) (m : List (Int × Int)) : Nat → Int × Int × List (Int × Int)
  | 0 => (d, 0, m)
  | k + 1 => ((hiS l d m k).1 + 1 + (numS l (7 + k)).tmod 200, min 64 ((hiS l d m k).2.1 + (numS l (9 + k)).tmod 65), (hiS l d m k).2.2 ++ [((hiS l d m k).1 + 1 + (numS l (7 + k)).tmod 200, min 64 ((hiS l d m k).2.1 + (numS l (9 + k)).tmod 65))])
def dS (l : List Int) : Int := (numS l 0).tmod 41 * 25 - 500
def lowS (l : List Int) : Nat := ((numS l 1).tmod 3).toNat
def highS (l : List Int) : Nat := ((numS l 2).tmod 3).toNat
def madeAx (l : List Int) (nm : List UInt8) : Ax :=
  ⟨nm, (loS l (dS l) (lowS l)).1, dS l, (hiS l (dS l) ((loS l (dS l) (lowS l)).2.2 ++ [(dS l, 0)]) (highS l)).1, (hiS l (dS l) ((loS l (dS l) (lowS l)).2.2 ++ [(dS l, 0)]) (highS l)).2.2⟩
theorem num_tm (l : List Int) (k : Nat) {m : Int} (hm : 1 ≤ m) : 0 ≤ (numS l k).tmod m ∧ (numS l k).tmod m < m := by
  have h := numS_bd l k
  rw [Int.tmod_eq_emod_of_nonneg h.1]
  exact ⟨Int.emod_nonneg _ (by omega), Int.emod_lt_of_pos _ (by omega)⟩
theorem dS_bd (l : List Int) : -500 ≤ dS l ∧ dS l ≤ 500 := by
  have := num_tm l 0 (m := 41) (by decide)
  unfold dS; omega
theorem lowS_bd (l : List Int) : lowS l ≤ 2 ∧ ((lowS l : Nat) : Int) = (numS l 1).tmod 3 := by
  have := num_tm l 1 (m := 3) (by decide)
  unfold lowS; omega
theorem highS_bd (l : List Int) : highS l ≤ 2 ∧ ((highS l : Nat) : Int) = (numS l 2).tmod 3 := by
  have := num_tm l 2 (m := 3) (by decide)
  unfold highS; omega
theorem madeAx_ok (l : List Int) (nm : List UInt8) : AXP (madeAx l nm) := by
  have hd := dS_bd l
  have a3 := num_tm l 3 (m := 200) (by decide)
  have a4 := num_tm l 4 (m := 200) (by decide)
  have a5 := num_tm l 5 (m := 65) (by decide)
  have a6 := num_tm l 6 (m := 65) (by decide)
  have a7 := num_tm l 7 (m := 200) (by decide)
  have a8 := num_tm l 8 (m := 200) (by decide)
  have a9 := num_tm l 9 (m := 65) (by decide)
  have a10 := num_tm l 10 (m := 65) (by decide)
  have hl := (lowS_bd l).1
  have hh := (highS_bd l).1
  unfold madeAx
  generalize dS l = d at *
  generalize lowS l = lo at *
  generalize highS l = hi at *
  rcases (show lo = 0 ∨ lo = 1 ∨ lo = 2 by omega) with rfl | rfl | rfl <;> rcases (show hi = 0 ∨ hi = 1 ∨ hi = 2 by omega) with rfl | rfl | rfl <;>
    (simp only [loS, hiS, Nat.add_zero, Nat.reduceAdd, List.nil_append, List.cons_append]
     generalize (numS l 3).tmod 200 = x3 at *
     generalize (numS l 4).tmod 200 = x4 at *
     generalize (numS l 5).tmod 65 = x5 at *
     generalize (numS l 6).tmod 65 = x6 at *
     generalize (numS l 7).tmod 200 = x7 at *
     generalize (numS l 8).tmod 200 = x8 at *
     generalize (numS l 9).tmod 65 = x9 at *
     generalize (numS l 10).tmod 65 = x10 at *
     constructor <;> simp [UP, CO] <;> omega)
end Go.Abs.A09
namespace Go.Abs.A09
open Go Go.Abs Go.Proofs
set_option maxRecDepth 100000
set_option linter.unusedVariables false
set_option linter.unusedSimpArgs false
attribute [local simp ↓] awp_skip awp_seq awp_cond awp_block awp_exit awp_ret awp_reg awp_draw awp_ghost awp_loop awp_rfun awpR_nil awpR_cons awpX_nil awpX_0 awpX_1 awpX_2 awpI_eq awpI_t awpI_f awpStep_eq
attribute [local simp] condL_true condL_false condL_dec evDel evV evN evS evA initFr Ghost.app Fr.var Fr.blk Fr.ff FF.val Abs.look Fr.app Fr.erase Fr.noSlot AV.noSlot AV.noSlotL Blk.noSlot Fr.spoken AV.fz AV.fzL Blk.fz binV binI shI binS unV fillA FF.parts FF.vals headO intO boundO lenV scalarEq leavesEq AV.aggc AV.cells FF.read FF.rows AV.one PV.one chunk freshB newS pickV retK evRs evRl evR resOf mkTup mkAgg allP cloOf okP_nil okX_p okX okP addN Del.noSlot Del.owners Rnd reify_p normM insM Fr.back Fr.backV Fr.setPs normV insV
attribute [local simp] FF.reify FF.reifyL PV.flat AV.fz AV.fzL Blk.fz AV.rn AV.rnL Blk.rn
theorem onePq (z : List (Int × Int)) : ((z.map pRow).all fun r => r.all PV.one) = true := by
  rw [List.all_eq_true]; intro x hx
  simp only [List.mem_map] at hx
  obtain ⟨t, _, rfl⟩ := hx
  rfl
theorem loS_len (l : List Int) (d : Int) : ∀ k, (loS l d k).2.2.length = k
  | 0 => rfl
  | k + 1 => by simp [loS, loS_len l d k]
theorem hiS_len (l : List Int) (d : Int) (m : List (Int × Int)) : ∀ k, (hiS l d m k).2.2.length = m.length + k
  | 0 => rfl
  | k + 1 => by simp [hiS, hiS_len l d m k]; omega
theorem loS_bd (l : List Int) (d : Int) (hd : -500 ≤ d ∧ d ≤ 500) : ∀ k : Nat, -500 - 200 * (k : Int) ≤ (loS l d k).1 ∧ (loS l d k).1 ≤ 500 ∧ -64 ≤ (loS l d k).2.1 ∧ (loS l d k).2.1 ≤ 0
  | 0 => by simp [loS]; omega
  | k + 1 => by
    have ih := loS_bd l d hd k
    have a := num_tm l (3 + k) (m := 200) (by decide)
    have b := num_tm l (5 + k) (m := 65) (by decide)
    simp only [loS]; omega
theorem hiS_bd (l : List Int) (d : Int) (m : List (Int × Int)) (hd : -500 ≤ d ∧ d ≤ 500) : ∀ k : Nat, (hiS l d m k).1 ≤ 500 + 200 * (k : Int) ∧ -500 ≤ (hiS l d m k).1 ∧ 0 ≤ (hiS l d m k).2.1 ∧ (hiS l d m k).2.1 ≤ 64
  | 0 => by simp [hiS]; omega
  | k + 1 => by
    have ih := hiS_bd l d m hd k
    have a := num_tm l (7 + k) (m := 200) (by decide)
    have b := num_tm l (9 + k) (m := 65) (by decide)
    simp only [hiS]; omega
theorem b13 (l : List Int) (nm : List UInt8) : Best Tryd.prog 13 [.sl 1 (l.map intRow), .str (ba nm)] (.p (.agg (axC (madeAx l nm)))) := by
  refine best mixed xn13 xk13 (by simp) ?_
  have p0 := b43 l 0
  have p1 := b43 l 1
  have p2 := b43 l 2
  have hd := dS_bd l
  have hl := lowS_bd l
  have hh := highS_bd l
  have t0 := num_tm l 0 (m := 41) (by decide)
  have w0 : R ((numS l 0).tmod 41 * 25) := ⟨by omega, by omega⟩
  have w1 : R ((numS l 0).tmod 41 * 25 - 500) := ⟨by omega, by omega⟩
  simp -dsimp [xc13]
  refine call_p p0 (by simp) (by simp) ?_
  simp -dsimp [wr w0, wr w1]
  rw [show (numS l 0).tmod 41 * 25 - 500 = dS l from rfl]
  refine call_p p1 (by simp) (by simp) ?_
  simp -dsimp
  refine call_p p2 (by simp) (by simp) ?_
  simp -dsimp [← hl.2, ← hh.2, xc13b]
  unfold madeAx
  generalize dS l = d at *
  generalize lowS l = lo at *
  generalize highS l = hi at *
  refine loopC lo (fun k => ⟨[(0, .p (.sl 1 (l.map intRow))), (4, .ptr (4, 0) 5 0 0), (5, .p (.int .i64 d)), (6, .ptr (6, 0) 5 0 0), (7, .p (.int .i64 lo)), (8, .p (.int .i64 hi)), (9, .ref (9, 0) 2 0 k), (10, .p (.int .i64 (loS l d k).2.1)), (11, .p (.int .i64 k))], [((4, 0), .box [.p (.str ⟨#[]⟩), .p (.int .i64 0), .p (.int .i64 0), .p (.int .i64 0), .p .nsl]), ((6, 0), .box [.p (.str (ba nm)), .p (.int .i64 (loS l d k).1), .p (.int .i64 d), .p (.int .i64 d), .p .nsl]), ((9, 0), .sl 30 2 ((loS l d k).2.2.map pRow))]⟩) (fun _ => True) (fun k hk _ => ?_) trivial (by simp [loS])
  · by_cases h : k < lo
    · have p3 := b43 l (3 + k)
      rw [show ((3 + k : Nat) : Int) = 3 + (k : Int) by omega] at p3
      have p5 := b43 l (5 + k)
      rw [show ((5 + k : Nat) : Int) = 5 + (k : Int) by omega] at p5
      have hb := loS_bd l d hd k
      have hln := loS_len l d k
      have n3 := num_tm l (3 + k) (m := 200) (by decide)
      have n5 := num_tm l (5 + k) (m := 65) (by decide)
      have hs : loS l d (k + 1) = ((loS l d k).1 - 1 - (numS l (3 + k)).tmod 200, max (-64) ((loS l d k).2.1 - (numS l (5 + k)).tmod 65), ((loS l d k).1 - 1 - (numS l (3 + k)).tmod 200, max (-64) ((loS l d k).2.1 - (numS l (5 + k)).tmod 65)) :: (loS l d k).2.2) := rfl
      rw [hs]
      generalize loS l d k = s at *
      obtain ⟨sa, sy, sl⟩ := s
      dsimp only at *
      have r1 : R (3 + (k : Int)) := ⟨by omega, by omega⟩
      have r2 : R (5 + (k : Int)) := ⟨by omega, by omega⟩
      have r3 : R (sa - 1) := ⟨by omega, by omega⟩
      have r4 : R (sa - 1 - (numS l (3 + k)).tmod 200) := ⟨by omega, by omega⟩
      have r5 : R (sy - (numS l (5 + k)).tmod 65) := ⟨by omega, by omega⟩
      have r6 : R ((k : Int) + 1) := ⟨by omega, by omega⟩
      have m1 : 1 + sl.length ≤ maxLen := by unfold maxLen; omega
      have m2 : (1 + sl.length) * 16 ≤ 140737488355328 := by omega
      have e1 := onePq sl
      have e2 : List.take k (sl.map pRow) = sl.map pRow := List.take_of_length_le (by simp; omega)
      subst hln
      simp -dsimp [xc13c, h, wr r1, wr r2, wr r3]
      refine call_p p3 (by simp) (by simp) ?_
      simp -dsimp [wr r4, wr r2]
      refine call_p p5 (by simp) (by simp) ?_
      simp -dsimp [wr r5, List.range, List.range.loop, e2, m1, m2, ↓e1, wr r6]
      exact ⟨by omega, rfl⟩
    · have : k = lo := by omega
      subst this
      have hb := loS_bd l d hd k
      have hln := loS_len l d k
      generalize loS l d k = s at *
      obtain ⟨sa, sy, sl⟩ := s
      dsimp only at *
      have m1 : sl.length + 1 ≤ maxLen := by unfold maxLen; omega
      have m2 : (sl.length + 1) * 16 ≤ 140737488355328 := by omega
      subst hln
      simp -dsimp [-List.all_eq_true, xc13c, h, xc13d, List.range, List.range.loop, m1, m2, xc13e]
      refine loopC hi (fun k => ⟨[(0, .p (.sl 1 (l.map intRow))), (4, .ptr (4, 0) 5 0 0), (6, .ptr (6, 0) 5 0 0), (8, .p (.int .i64 hi)), (10, .p (.int .i64 (hiS l d (sl ++ [(d, 0)]) k).2.1)), (12, .p (.int .i64 k))], [((4, 0), .box [.p (.str ⟨#[]⟩), .p (.int .i64 0), .p (.int .i64 0), .p (.int .i64 0), .p .nsl]), ((6, 0), .box [.p (.str (ba nm)), .p (.int .i64 sa), .p (.int .i64 d), .p (.int .i64 (hiS l d (sl ++ [(d, 0)]) k).1), .ref (9, 1) 2 0 (hiS l d (sl ++ [(d, 0)]) k).2.2.length]), ((9, 1), .sl 30 2 ((hiS l d (sl ++ [(d, 0)]) k).2.2.map pRow))]⟩) (fun _ => True) (fun k hk _ => ?_) trivial (by simp [hiS, pRow])
      by_cases h : k < hi
      · have p3 := b43 l (7 + k)
        rw [show ((7 + k : Nat) : Int) = 7 + (k : Int) by omega] at p3
        have p5 := b43 l (9 + k)
        rw [show ((9 + k : Nat) : Int) = 9 + (k : Int) by omega] at p5
        have hb := hiS_bd l d (sl ++ [(d, 0)]) hd k
        have hln := hiS_len l d (sl ++ [(d, 0)]) k
        rw [List.length_append, List.length_singleton] at hln
        have n3 := num_tm l (7 + k) (m := 200) (by decide)
        have n5 := num_tm l (9 + k) (m := 65) (by decide)
        have hs : hiS l d (sl ++ [(d, 0)]) (k + 1) = ((hiS l d (sl ++ [(d, 0)]) k).1 + 1 + (numS l (7 + k)).tmod 200, min 64 ((hiS l d (sl ++ [(d, 0)]) k).2.1 + (numS l (9 + k)).tmod 65), (hiS l d (sl ++ [(d, 0)]) k).2.2 ++ [((hiS l d (sl ++ [(d, 0)]) k).1 + 1 + (numS l (7 + k)).tmod 200, min 64 ((hiS l d (sl ++ [(d, 0)]) k).2.1 + (numS l (9 + k)).tmod 65))]) := rfl
        rw [hs]
        generalize hiS l d (sl ++ [(d, 0)]) k = s at *
        obtain ⟨ta, ty, tl⟩ := s
        dsimp only at *
        have r1 : R (7 + (k : Int)) := ⟨by omega, by omega⟩
        have r2 : R (9 + (k : Int)) := ⟨by omega, by omega⟩
        have r3 : R (ta + 1) := ⟨by omega, by omega⟩
        have r4 : R (ta + 1 + (numS l (7 + k)).tmod 200) := ⟨by omega, by omega⟩
        have r5 : R (ty + (numS l (9 + k)).tmod 65) := ⟨by omega, by omega⟩
        have r6 : R ((k : Int) + 1) := ⟨by omega, by omega⟩
        have m1 : tl.length + 1 ≤ maxLen := by unfold maxLen; omega
        have m2 : (tl.length + 1) * 16 ≤ 140737488355328 := by omega
        simp -dsimp [xc13f, h, wr r1, wr r2, wr r3]
        refine call_p p3 (by simp) (by simp) ?_
        simp -dsimp [wr r4, wr r2]
        refine call_p p5 (by simp) (by simp) ?_
        simp -dsimp [wr r5, List.range, List.range.loop, m1, m2, wr r6]
        rfl
      · have : k = hi := by omega
        subst this
        generalize hiS l d (sl ++ [(d, 0)]) k = s at *
        obtain ⟨ta, ty, tl⟩ := s
        have e2 : List.take tl.length (tl.map pRow) = tl.map pRow := List.take_of_length_le (by simp)
        simp -dsimp [xc13f, h, xc13g, e2, axC]
def shS (a : Ax) : Ax := ⟨a.nm.take 20, a.lo, a.df, a.hi, a.m.take 8⟩
theorem b12 (a : Ax) (hn : a.nm.length ≤ 9223372036854775807) (hm : a.m.length ≤ 9223372036854775807) : Best Tryd.prog 12 [.agg (axC a)] (.p (.agg (axC (shS a)))) := by
  refine best mixed fn12 ok12 (by simp) ?_
  obtain ⟨nm, lo, df, hi, m⟩ := a
  dsimp only at hn hm
  have c1 : min (nm.length : Int) 20 = ((min nm.length 20 : Nat) : Int) := by omega
  have c1' : min nm.length 20 ≤ nm.length := by omega
  have c2 : min (m.length : Int) 8 = ((min m.length 8 : Nat) : Int) := by omega
  have c2' : min m.length 8 ≤ m.length := by omega
  have c3 : (m.map pRow).take (min m.length 8) = (m.take 8).map pRow := by
    rw [List.map_take, List.take_eq_take_iff]; simp; omega
  have c4 : (ba nm).extract 0 (min nm.length 20) = ba (nm.take 20) := by
    rw [ba_extract, List.drop_zero]; congr 1
    rw [List.take_eq_take_iff]; omega
  have hl8 : (m.take 8).length ≤ 8 := by simp; omega
  have e3 : (ba (nm.take 20)).size = (nm.take 20).length := ba_size _
  unfold shS
  dsimp only
  generalize m.take 8 = m8 at *
  have c5 : m8.length ≤ maxLen := by unfold maxLen; omega
  have c6 : m8.length * 16 ≤ 140737488355328 := by omega
  have e1 := onePq m8
  have e2 : List.take m8.length (m8.map pRow) = m8.map pRow := List.take_of_length_le (by simp)
  simp -dsimp [-List.all_eq_true, ac12, axC, c1, c1', c2, c2', c3, c4, c5, c6, ↓e1, e2, ba_size, List.range, List.range.loop]
end Go.Abs.A09
namespace Go.Abs.A09
open Go Go.Abs Go.Proofs
set_option maxRecDepth 100000
set_option linter.unusedVariables false
set_option linter.unusedSimpArgs false
attribute [local simp ↓] awp_skip awp_seq awp_cond awp_block awp_exit awp_ret awp_reg awp_draw awp_ghost awp_loop awp_rfun awpR_nil awpR_cons awpX_nil awpX_0 awpX_1 awpX_2 awpI_eq awpI_t awpI_f awpStep_eq
attribute [local simp] condL_true condL_false condL_dec evDel evV evN evS evA initFr Ghost.app Fr.var Fr.blk Fr.ff FF.val Abs.look Fr.app Fr.erase Fr.noSlot AV.noSlot AV.noSlotL Blk.noSlot Fr.spoken AV.fz AV.fzL Blk.fz binV binI shI binS unV fillA FF.parts FF.vals headO intO boundO lenV scalarEq leavesEq AV.aggc AV.cells FF.read FF.rows AV.one PV.one chunk freshB newS pickV retK evRs evRl evR resOf mkTup mkAgg allP cloOf okP_nil okX_p okX okP addN Del.noSlot Del.owners Rnd reify_p normM insM Fr.back Fr.backV Fr.setPs normV insV
attribute [local simp] FF.reify FF.reifyL PV.flat AV.fz AV.fzL Blk.fz AV.rn AV.rnL Blk.rn
theorem b13o (l : List Int) (nm : List UInt8) : Best Tryd.prog 13 [.sl 1 (l.map intRow), .str (ba nm)] (.own (fun s => .agg [.p (.str (ba nm)), .p (.int .i64 (madeAx l nm).lo), .p (.int .i64 (madeAx l nm).df), .p (.int .i64 (madeAx l nm).hi), .ref s 2 0 (madeAx l nm).m.length]) (.sl 30 2 ((madeAx l nm).m.map pRow))) := by
  refine best mixed xm13 xj13 (by simp) ?_
  have p0 := b43 l 0
  have p1 := b43 l 1
  have p2 := b43 l 2
  have hd := dS_bd l
  have hl := lowS_bd l
  have hh := highS_bd l
  have t0 := num_tm l 0 (m := 41) (by decide)
  have w0 : R ((numS l 0).tmod 41 * 25) := ⟨by omega, by omega⟩
  have w1 : R ((numS l 0).tmod 41 * 25 - 500) := ⟨by omega, by omega⟩
  simp -dsimp [xd13]
  refine call_p p0 (by simp) (by simp) ?_
  simp -dsimp [wr w0, wr w1]
  rw [show (numS l 0).tmod 41 * 25 - 500 = dS l from rfl]
  refine call_p p1 (by simp) (by simp) ?_
  simp -dsimp
  refine call_p p2 (by simp) (by simp) ?_
  simp -dsimp [← hl.2, ← hh.2, xd13b]
  unfold madeAx
  generalize dS l = d at *
  generalize lowS l = lo at *
  generalize highS l = hi at *
  refine loopC lo (fun k => ⟨[(0, .p (.sl 1 (l.map intRow))), (4, .ptr (4, 0) 5 0 0), (5, .p (.int .i64 d)), (6, .ptr (6, 0) 5 0 0), (7, .p (.int .i64 lo)), (8, .p (.int .i64 hi)), (9, .ref (9, 0) 2 0 k), (10, .p (.int .i64 (loS l d k).2.1)), (11, .p (.int .i64 k))], [((4, 0), .box [.p (.str ⟨#[]⟩), .p (.int .i64 0), .p (.int .i64 0), .p (.int .i64 0), .p .nsl]), ((6, 0), .box [.p (.str (ba nm)), .p (.int .i64 (loS l d k).1), .p (.int .i64 d), .p (.int .i64 d), .p .nsl]), ((9, 0), .sl 30 2 ((loS l d k).2.2.map pRow))]⟩) (fun _ => True) (fun k hk _ => ?_) trivial (by simp [loS])
  · by_cases h : k < lo
    · have p3 := b43 l (3 + k)
      rw [show ((3 + k : Nat) : Int) = 3 + (k : Int) by omega] at p3
      have p5 := b43 l (5 + k)
      rw [show ((5 + k : Nat) : Int) = 5 + (k : Int) by omega] at p5
      have hb := loS_bd l d hd k
      have hln := loS_len l d k
      have n3 := num_tm l (3 + k) (m := 200) (by decide)
      have n5 := num_tm l (5 + k) (m := 65) (by decide)
      have hs : loS l d (k + 1) = ((loS l d k).1 - 1 - (numS l (3 + k)).tmod 200, max (-64) ((loS l d k).2.1 - (numS l (5 + k)).tmod 65), ((loS l d k).1 - 1 - (numS l (3 + k)).tmod 200, max (-64) ((loS l d k).2.1 - (numS l (5 + k)).tmod 65)) :: (loS l d k).2.2) := rfl
      rw [hs]
      generalize loS l d k = s at *
      obtain ⟨sa, sy, sl⟩ := s
      dsimp only at *
      have r1 : R (3 + (k : Int)) := ⟨by omega, by omega⟩
      have r2 : R (5 + (k : Int)) := ⟨by omega, by omega⟩
      have r3 : R (sa - 1) := ⟨by omega, by omega⟩
      have r4 : R (sa - 1 - (numS l (3 + k)).tmod 200) := ⟨by omega, by omega⟩
      have r5 : R (sy - (numS l (5 + k)).tmod 65) := ⟨by omega, by omega⟩
      have r6 : R ((k : Int) + 1) := ⟨by omega, by omega⟩
      have m1 : 1 + sl.length ≤ maxLen := by unfold maxLen; omega
      have m2 : (1 + sl.length) * 16 ≤ 140737488355328 := by omega
      have e1 := onePq sl
      have e2 : List.take k (sl.map pRow) = sl.map pRow := List.take_of_length_le (by simp; omega)
      subst hln
      simp -dsimp [xd13c, h, wr r1, wr r2, wr r3]
      refine call_p p3 (by simp) (by simp) ?_
      simp -dsimp [wr r4, wr r2]
      refine call_p p5 (by simp) (by simp) ?_
      simp -dsimp [wr r5, List.range, List.range.loop, e2, m1, m2, ↓e1, wr r6]
      exact ⟨by omega, rfl⟩
    · have : k = lo := by omega
      subst this
      have hb := loS_bd l d hd k
      have hln := loS_len l d k
      generalize loS l d k = s at *
      obtain ⟨sa, sy, sl⟩ := s
      dsimp only at *
      have m1 : sl.length + 1 ≤ maxLen := by unfold maxLen; omega
      have m2 : (sl.length + 1) * 16 ≤ 140737488355328 := by omega
      subst hln
      simp -dsimp [-List.all_eq_true, xd13c, h, xd13d, List.range, List.range.loop, m1, m2, xd13e]
      refine loopC hi (fun k => ⟨[(0, .p (.sl 1 (l.map intRow))), (4, .ptr (4, 0) 5 0 0), (6, .ptr (6, 0) 5 0 0), (8, .p (.int .i64 hi)), (10, .p (.int .i64 (hiS l d (sl ++ [(d, 0)]) k).2.1)), (12, .p (.int .i64 k))], [((4, 0), .box [.p (.str ⟨#[]⟩), .p (.int .i64 0), .p (.int .i64 0), .p (.int .i64 0), .p .nsl]), ((6, 0), .box [.p (.str (ba nm)), .p (.int .i64 sa), .p (.int .i64 d), .p (.int .i64 (hiS l d (sl ++ [(d, 0)]) k).1), .ref (9, 1) 2 0 (hiS l d (sl ++ [(d, 0)]) k).2.2.length]), ((9, 1), .sl 30 2 ((hiS l d (sl ++ [(d, 0)]) k).2.2.map pRow))]⟩) (fun _ => True) (fun k hk _ => ?_) trivial (by simp [hiS, pRow])
      by_cases h : k < hi
      · have p3 := b43 l (7 + k)
        rw [show ((7 + k : Nat) : Int) = 7 + (k : Int) by omega] at p3
        have p5 := b43 l (9 + k)
        rw [show ((9 + k : Nat) : Int) = 9 + (k : Int) by omega] at p5
        have hb := hiS_bd l d (sl ++ [(d, 0)]) hd k
        have hln := hiS_len l d (sl ++ [(d, 0)]) k
        rw [List.length_append, List.length_singleton] at hln
        have n3 := num_tm l (7 + k) (m := 200) (by decide)
        have n5 := num_tm l (9 + k) (m := 65) (by decide)
        have hs : hiS l d (sl ++ [(d, 0)]) (k + 1) = ((hiS l d (sl ++ [(d, 0)]) k).1 + 1 + (numS l (7 + k)).tmod 200, min 64 ((hiS l d (sl ++ [(d, 0)]) k).2.1 + (numS l (9 + k)).tmod 65), (hiS l d (sl ++ [(d, 0)]) k).2.2 ++ [((hiS l d (sl ++ [(d, 0)]) k).1 + 1 + (numS l (7 + k)).tmod 200, min 64 ((hiS l d (sl ++ [(d, 0)]) k).2.1 + (numS l (9 + k)).tmod 65))]) := rfl
        rw [hs]
        generalize hiS l d (sl ++ [(d, 0)]) k = s at *
        obtain ⟨ta, ty, tl⟩ := s
        dsimp only at *
        have r1 : R (7 + (k : Int)) := ⟨by omega, by omega⟩
        have r2 : R (9 + (k : Int)) := ⟨by omega, by omega⟩
        have r3 : R (ta + 1) := ⟨by omega, by omega⟩
        have r4 : R (ta + 1 + (numS l (7 + k)).tmod 200) := ⟨by omega, by omega⟩
        have r5 : R (ty + (numS l (9 + k)).tmod 65) := ⟨by omega, by omega⟩
        have r6 : R ((k : Int) + 1) := ⟨by omega, by omega⟩
        have m1 : tl.length + 1 ≤ maxLen := by unfold maxLen; omega
        have m2 : (tl.length + 1) * 16 ≤ 140737488355328 := by omega
        simp -dsimp [xd13f, h, wr r1, wr r2, wr r3]
        refine call_p p3 (by simp) (by simp) ?_
        simp -dsimp [wr r4, wr r2]
        refine call_p p5 (by simp) (by simp) ?_
        simp -dsimp [wr r5, List.range, List.range.loop, m1, m2, wr r6]
        rfl
      · have : k = hi := by omega
        subst this
        generalize hiS l d (sl ++ [(d, 0)]) k = s at *
        obtain ⟨ta, ty, tl⟩ := s
        have e2 : List.take tl.length (tl.map pRow) = tl.map pRow := List.take_of_length_le (by simp)
        simp -dsimp [xd13f, h, xd13g]
        exact ⟨okV_agg [.str (ba nm), .int .i64 sa, .int .i64 d, .int .i64 ta] 2 0 _ [], 9, 1, ⟨rfl, rfl⟩, by simp⟩
end Go.Abs.A09
namespace Go.Abs.A09
open Go Go.Abs Go.Proofs
set_option maxRecDepth 100000
set_option linter.unusedVariables false
set_option linter.unusedSimpArgs false
attribute [local simp ↓] awp_skip awp_seq awp_cond awp_block awp_exit awp_ret awp_reg awp_draw awp_ghost awp_loop awp_rfun awpR_nil awpR_cons awpX_nil awpX_0 awpX_1 awpX_2 awpI_eq awpI_t awpI_f awpStep_eq
attribute [local simp] condL_true condL_false condL_dec evDel evV evN evS evA initFr Ghost.app Fr.var Fr.blk Fr.ff FF.val Abs.look Fr.app Fr.erase Fr.noSlot AV.noSlot AV.noSlotL Blk.noSlot Fr.spoken AV.fz AV.fzL Blk.fz binV binI shI binS unV fillA FF.parts FF.vals headO intO boundO lenV scalarEq leavesEq AV.aggc AV.cells FF.read FF.rows AV.one PV.one chunk freshB newS pickV retK evRs evRl evR resOf mkTup mkAgg allP cloOf okP_nil okX_p okX okP addN Del.noSlot Del.owners Rnd reify_p normM insM Fr.back Fr.backV Fr.setPs normV insV
attribute [local simp ↓] and_wrap
attribute [local simp] FF.reify FF.reifyL PV.flat AV.fz AV.fzL Blk.fz
structure AxB (a : Ax) : Prop where
  nm : a.nm.length ≤ 9223372036854775807
  m : a.m.length ≤ 9223372036854775807
set_option maxHeartbeats 4000000 in
theorem w3r (x y z : Ax) (q0 q1 q2 : Int) (hx : AxB x) (hy : AxB y) (hz : AxB z) (hch : chkS y = 0) : awp Tryd.prog xc3r (retK [.tmp 6] (.p (.bool true)))
    ⟨[(3, .ptr (3, 0) 5 0 0), (5, .ptr (5, 0) 3 0 0), (7, .p (.bool true)), (8, .ptr (8, 0) 5 0 0), (9, .ptr (9, 0) 5 0 0)],
     [((3, 0), .box [.p (.str (ba x.nm)), .p (.int .i64 x.lo), .p (.int .i64 x.df), .p (.int .i64 x.hi), .p (.sl 2 (x.m.map pRow))]), ((5, 0), .box [.p (.int .i64 q0), .p (.int .i64 q1), .p (.int .i64 q2)]),
      ((8, 0), .box [.p (.str (ba y.nm)), .p (.int .i64 y.lo), .p (.int .i64 y.df), .p (.int .i64 y.hi), .p (.sl 2 (y.m.map pRow))]), ((9, 0), .box [.p (.str (ba z.nm)), .p (.int .i64 z.lo), .p (.int .i64 z.df), .p (.int .i64 z.hi), .p (.sl 2 (z.m.map pRow))])]⟩ := by
  obtain ⟨zs, hzs⟩ : ∃ zs, zs = [x, y, z] := ⟨_, rfl⟩
  have hzl : zs.length = 3 := by rw [hzs]; rfl
  have hzb : ∀ a ∈ zs, AxB a := by
    rw [hzs]; intro a ha
    simp at ha
    rcases ha with rfl | rfl | rfl <;> assumption
  simp -dsimp [xc3r, List.range, List.range.loop]
  refine loopC 3 (fun k => ⟨[(5, .ptr (5, 0) 3 0 0), (7, .p (.bool true)), (8, .ptr (8, 0) 5 0 0), (139, .ref (139, 0) 5 0 3), (140, .p (.int .i64 3)), (141, .p (.int .i64 k))], [((5, 0), .box [.p (.int .i64 q0), .p (.int .i64 q1), .p (.int .i64 q2)]), ((8, 0), .box [.p (.str (ba y.nm)), .p (.int .i64 y.lo), .p (.int .i64 y.df), .p (.int .i64 y.hi), .p (.sl 2 (y.m.map pRow))]), ((139, 0), .sl 24 5 (zs.map axC))]⟩) (fun _ => True) (fun k hk _ => ?_) trivial (by simp [hzs, axC])
  by_cases h : k < 3
  · obtain ⟨a, ea⟩ : ∃ a, zs[k]'(by omega) = a := ⟨_, rfl⟩
    have hak : zs[k]? = some a := by rw [List.getElem?_eq_getElem (by omega), ea]
    have hab := hzb a (List.mem_of_getElem? hak)
    have wk : R ((k : Int) + 1) := ⟨by omega, by omega⟩
    have hki : (k : Int) < 3 := by omega
    have hkl : k < zs.length := by omega
    have p14 := b14 a hab.m
    have p15 := b15 a hab.m hab.nm
    have p16 := fun v => b16 a v hab.m
    have p17 := fun v => b17 a v hab.m hab.nm
    simp -dsimp [axC] at p14 p15 p16 p17
    simp -dsimp [xc3v, hki, hkl, hak, ea, axC, xc3w, List.range, List.range.loop]
    obtain ⟨vs, hvs⟩ : ∃ vs, vs = [q2, IntKind.i64.wrap (a.lo - 1), IntKind.i64.wrap (a.df + q2.tmod 500), a.hi] := ⟨_, rfl⟩
    have hvl : vs.length = 4 := by rw [hvs]; rfl
    refine loopC 4 (fun j => ⟨[(5, .ptr (5, 0) 3 0 0), (7, .p (.bool true)), (8, .ptr (8, 0) 5 0 0), (12, .ptr (12, 0) 5 0 0), (139, .ref (139, 0) 5 0 3), (140, .p (.int .i64 3)), (141, .p (.int .i64 k)), (158, .ref (158, 0) 1 0 4), (159, .p (.int .i64 4)), (160, .p (.int .i64 j))], [((5, 0), .box [.p (.int .i64 q0), .p (.int .i64 q1), .p (.int .i64 q2)]), ((8, 0), .box [.p (.str (ba y.nm)), .p (.int .i64 y.lo), .p (.int .i64 y.df), .p (.int .i64 y.hi), .p (.sl 2 (y.m.map pRow))]), ((12, 0), .box [.p (.str (ba a.nm)), .p (.int .i64 a.lo), .p (.int .i64 a.df), .p (.int .i64 a.hi), .p (.sl 2 (a.m.map pRow))]), ((139, 0), .sl 24 5 (zs.map axC)), ((158, 0), .sl 3 1 (vs.map intRow))]⟩) (fun _ => True) (fun j hj _ => ?_) trivial (by simp [hvs, intRow, axC])
    by_cases hj4 : j < 4
    · obtain ⟨v, ev⟩ : ∃ v, vs[j]'(by omega) = v := ⟨_, rfl⟩
      have hvk : vs[j]? = some v := by rw [List.getElem?_eq_getElem (by omega), ev]
      have wj : R ((j : Int) + 1) := ⟨by omega, by omega⟩
      have hji : (j : Int) < 4 := by omega
      have hjl : j < vs.length := by omega
      simp -dsimp [xc3x, hji, hjl, hvk, ev, intRow, xc3y]
      refine call_p p14 (by simp) (by simp) ?_
      simp -dsimp
      refine call_p p15 (by simp) (by simp) ?_
      simp -dsimp
      refine call_p (p16 v) (by simp) (by simp) ?_
      simp -dsimp
      refine call_p (p17 v) (by simp) (by simp) ?_
      simp -dsimp [wr wj, hj4]
    · have : j = 4 := by omega
      subst this
      simp -dsimp [xc3x, wr wk, h]
  · have : k = 3 := by omega
    subst this
    have p14 := b14 y hy.m
    rw [hch] at p14
    simp -dsimp [axC] at p14
    simp -dsimp [xc3v, xc3z]
    refine call_p p14 (by simp) (by simp) ?_
    simp -dsimp
end Go.Abs.A09
namespace Go.Abs.A09
open Go Go.Abs Go.Proofs
set_option maxRecDepth 100000
set_option linter.unusedVariables false
set_option linter.unusedSimpArgs false
attribute [local simp ↓] awp_skip awp_seq awp_cond awp_block awp_exit awp_ret awp_reg awp_draw awp_ghost awp_loop awp_rfun awpR_nil awpR_cons awpX_nil awpX_0 awpX_1 awpX_2 awpI_eq awpI_t awpI_f awpStep_eq
attribute [local simp] condL_true condL_false condL_dec evDel evV evN evS evA initFr Ghost.app Fr.var Fr.blk Fr.ff FF.val Abs.look Fr.app Fr.erase Fr.noSlot AV.noSlot AV.noSlotL Blk.noSlot Fr.spoken AV.fz AV.fzL Blk.fz binV binI shI binS unV fillA FF.parts FF.vals headO intO boundO lenV scalarEq leavesEq AV.aggc AV.cells FF.read FF.rows AV.one PV.one chunk freshB newS pickV retK evRs evRl evR resOf mkTup mkAgg allP cloOf okP_nil okX_p okX okP addN Del.noSlot Del.owners Rnd reify_p normM insM Fr.back Fr.backV Fr.setPs normV insV
attribute [local simp ↓] and_wrap
attribute [local simp] FF.reify FF.reifyL PV.flat AV.fz AV.fzL Blk.fz
def fr3 (x y z : Ax) (q0 q1 q2 : Int) : Fr := ⟨[(3, .ptr (3, 0) 5 0 0), (5, .ptr (5, 0) 3 0 0), (7, .p (.bool true)), (8, .ptr (8, 0) 5 0 0), (9, .ptr (9, 0) 5 0 0)],
     [((3, 0), .box [.p (.str (ba x.nm)), .p (.int .i64 x.lo), .p (.int .i64 x.df), .p (.int .i64 x.hi), .p (.sl 2 (x.m.map pRow))]), ((5, 0), .box [.p (.int .i64 q0), .p (.int .i64 q1), .p (.int .i64 q2)]),
      ((8, 0), .box [.p (.str (ba y.nm)), .p (.int .i64 y.lo), .p (.int .i64 y.df), .p (.int .i64 y.hi), .p (.sl 2 (y.m.map pRow))]), ((9, 0), .box [.p (.str (ba z.nm)), .p (.int .i64 z.lo), .p (.int .i64 z.df), .p (.int .i64 z.hi), .p (.sl 2 (z.m.map pRow))])]⟩
def cmp3 (F : Fr) : Option Fr := ((Ghost.freeze (21, 1)).app F).bind fun F => ((Ghost.freeze (21, 0)).app F).bind fun F => (Ghost.keep [3, 5, 7, 8, 9]).app F
theorem Ax.nm_m {P : Ax → Prop} {y : Ax} (nm : List UInt8) (lo df hi : Int) (m : List (Int × Int)) (h : P ⟨nm, lo, df, hi, m⟩) : ∃ z, P z := ⟨_, h⟩
set_option maxHeartbeats 8000000 in
theorem b3 (raw : Ax) (l : List Int) (q0 q1 q2 : Int) (hr : AxB raw) : Best Tryd.prog 3 [.agg (axC raw), .sl 1 (l.map intRow), .agg [.int .i64 q0, .int .i64 q1, .int .i64 q2]] (.p (.bool true)) := by
  refine best mixed xn3 xk3 (by simp) ?_
  have p12 := b12 raw hr.nm hr.m
  have hx : AxB (shS raw) := ⟨by have := hr.nm; simp [shS]; omega, by have := hr.m; simp [shS]; omega⟩
  have p13 := b13o l [97, 98, 49]
  rw [show ba [97, 98, 49] = ⟨#[97, 98, 49]⟩ from rfl] at p13
  have hA := madeAx_ok l [97, 98, 49]
  have hch : chkS (madeAx l [97, 98, 49]) = 0 := chk_ok (show nmB [97, 98, 49] = true by decide) hA
  have hn1 := hA.n1
  have hn2 := hA.n2
  have hy : AxB (madeAx l [97, 98, 49]) := ⟨by simp [madeAx], by omega⟩
  have hynm : (madeAx l [97, 98, 49]).nm = [97, 98, 49] := rfl
  have hne : (madeAx l [97, 98, 49]).m ≠ [] := by intro e; rw [e] at hn1; simp at hn1
  have hba : ba (madeAx l [97, 98, 49]).nm = ⟨#[97, 98, 49]⟩ := rfl
  generalize madeAx l [97, 98, 49] = y at *
  generalize shS raw = x at *
  simp -dsimp [axC] at p12
  have ha := andS_bd q1
  have hk : 0 ≤ (andS q1).tmod y.m.length ∧ (andS q1).tmod y.m.length < y.m.length := by
    rw [Int.tmod_eq_emod_of_nonneg ha.1]
    exact ⟨Int.emod_nonneg _ (by omega), Int.emod_lt_of_pos _ (by omega)⟩
  have hty : List.take y.m.length (y.m.map pRow) = y.m.map pRow := List.take_of_length_le (by simp)
  simp -dsimp [xc3, axC]
  refine call_p b11 (by simp) (by simp) ?_
  simp -dsimp
  refine call_p p12 (by simp) (by simp) ?_
  simp -dsimp
  refine call_o p13 (by simp) (by simp) ?_
  simp -dsimp [hty]
  refine call_o p13 (by simp) (by simp) ?_
  simp -dsimp [hne]
  rw [xc3q, awp_seq]
  obtain ⟨Q, hQ⟩ : ∃ Q : AE → Fr → Prop, Q = fun e F => match e with
    | .normal => ∃ z, AxB z ∧ cmp3 F = some (fr3 x y z q0 q1 q2)
    | _ => False := ⟨_, rfl⟩
  refine awp_mono (K := Q) (fun e F h => ?_) ?_
  · rw [hQ] at h
    cases e with
    | normal =>
      obtain ⟨z, hz, hF⟩ := h
      simp only [cmp3, Option.bind_eq_some_iff] at hF
      obtain ⟨F1, h1, F2, h2, h3⟩ := hF
      dsimp only
      rw [awp_ghost, h1]
      dsimp only
      rw [awp_ghost, h2]
      dsimp only
      rw [awp_ghost, h3]
      exact w3r x y z q0 q1 q2 hx hy hz hch
    | exit i => exact h.elim
    | ret => exact h.elim
  simp -dsimp [hne, hty]
  generalize (andS q1).tmod y.m.length = kk at *
  obtain ⟨k, rfl⟩ := Int.eq_ofNat_of_zero_le hk.1
  have hkl : k < y.m.length := by omega
  clear hk
  generalize (andS q0).tmod 9 = t
  have kz : (0 : Int) ≤ (k : Int) := by omega
  have kle : k ≤ y.m.length := by omega
  have kli : (k : Int) ≤ y.m.length := by omega
  have kl2 : (k : Int) < y.m.length := by omega
  obtain ⟨p, ep⟩ : ∃ p, y.m[k] = p := ⟨_, rfl⟩
  have fin : ∀ (F : Fr) (z : Ax), AxB z → cmp3 F = some (fr3 x y z q0 q1 q2) → Q .normal F := fun F z h1 h2 => by rw [hQ]; exact ⟨z, h1, h2⟩
  have wz : ∀ (nm : List UInt8) (lo df hi : Int) (m : List (Int × Int)), nm.length ≤ 9223372036854775807 → m.length ≤ 9223372036854775807 → AxB ⟨nm, lo, df, hi, m⟩ := fun _ _ _ _ _ h1 h2 => ⟨h1, h2⟩
  have yb := hy.m
  have yn := hy.nm
  have xn := hx.nm
  clear hQ
  by_cases t0 : t = 0
  · simp -dsimp [t0, xc3_0]
    refine fin _ ⟨x.nm, y.lo, y.df, y.hi, y.m⟩ (wz _ _ _ _ _ xn yb) ?_
    simp [cmp3, fr3, hty, hba]
  by_cases t1 : t = 1
  · simp -dsimp [t1, xc3_0, xc3_1]
    refine fin _ ⟨y.nm, IntKind.i64.wrap (y.lo + q2.tmod 3), y.df, y.hi, y.m⟩ (wz _ _ _ _ _ yn yb) ?_
    simp [cmp3, fr3, hty, hba]
  by_cases t2 : t = 2
  · simp -dsimp [t2, xc3_0, xc3_1, xc3_2]
    refine fin _ ⟨y.nm, y.lo, IntKind.i64.wrap (y.df + q2.tmod 300), y.hi, y.m⟩ (wz _ _ _ _ _ yn yb) ?_
    simp [cmp3, fr3, hty, hba]
  by_cases t3 : t = 3
  · simp -dsimp [t3, xc3_0, xc3_1, xc3_2, xc3_3]
    refine fin _ ⟨y.nm, y.lo, y.df, IntKind.i64.wrap (y.hi + q2.tmod 3), y.m⟩ (wz _ _ _ _ _ yn yb) ?_
    simp [cmp3, fr3, hty, hba]
  by_cases t4 : t = 4
  · have hs : (y.m.map pRow).set k [.int .i64 (IntKind.i64.wrap (p.1 + q2.tmod 3)), .int .i64 p.2] = (y.m.set k (IntKind.i64.wrap (p.1 + q2.tmod 3), p.2)).map pRow := by rw [List.map_set]; rfl
    have hls : List.take y.m.length ((y.m.set k (IntKind.i64.wrap (p.1 + q2.tmod 3), p.2)).map pRow) = (y.m.set k (IntKind.i64.wrap (p.1 + q2.tmod 3), p.2)).map pRow := List.take_of_length_le (by simp)
    simp -dsimp [t4, xc3_0, xc3_1, xc3_2, xc3_3, xc3_4, kz, kl2, hkl, ep, pRow]
    refine fin _ ⟨y.nm, y.lo, y.df, y.hi, y.m.set k (IntKind.i64.wrap (p.1 + q2.tmod 3), p.2)⟩ (wz _ _ _ _ _ yn (by simpa using yb)) ?_
    simp -dsimp [cmp3, fr3, hs, hls, hba]
    exact List.take_of_length_le (by simp)
  by_cases t5 : t = 5
  · have hs : (y.m.map pRow).set k [.int .i64 p.1, .int .i64 (IntKind.i64.wrap (p.2 + q2.tmod 70))] = (y.m.set k (p.1, IntKind.i64.wrap (p.2 + q2.tmod 70))).map pRow := by rw [List.map_set]; rfl
    have hls : List.take y.m.length ((y.m.set k (p.1, IntKind.i64.wrap (p.2 + q2.tmod 70))).map pRow) = (y.m.set k (p.1, IntKind.i64.wrap (p.2 + q2.tmod 70))).map pRow := List.take_of_length_le (by simp)
    simp -dsimp [t5, xc3_0, xc3_1, xc3_2, xc3_3, xc3_4, xc3_5, kz, kl2, hkl, ep, pRow]
    refine fin _ ⟨y.nm, y.lo, y.df, y.hi, y.m.set k (p.1, IntKind.i64.wrap (p.2 + q2.tmod 70))⟩ (wz _ _ _ _ _ yn (by simpa using yb)) ?_
    simp -dsimp [cmp3, fr3, hs, hls, hba]
    exact List.take_of_length_le (by simp)
  by_cases t6 : t = 6
  · have hs : List.take k (y.m.map pRow) = (y.m.take k).map pRow := by rw [List.map_take]
    simp -dsimp [t6, xc3_0, xc3_1, xc3_2, xc3_3, xc3_4, xc3_5, xc3_6, kz, kli, kle]
    refine fin _ ⟨y.nm, y.lo, y.df, y.hi, y.m.take k⟩ (wz _ _ _ _ _ yn (by simp; omega)) ?_
    simp -dsimp [cmp3, fr3, hba, kle]
  have m1 : y.m.length + 1 ≤ maxLen := by unfold maxLen; omega
  have m2 : (y.m.length + 1) * 16 ≤ 140737488355328 := by omega
  by_cases t7 : t = 7
  · have hs : y.m.map pRow ++ [[PV.int .i64 (IntKind.i64.wrap (y.hi + 1)), PV.int .i64 64]] = (y.m ++ [(IntKind.i64.wrap (y.hi + 1), 64)]).map pRow := by rw [List.map_append]; rfl
    have hls : List.take (y.m.length + 1) ((y.m ++ [(IntKind.i64.wrap (y.hi + 1), 64)]).map pRow) = (y.m ++ [(IntKind.i64.wrap (y.hi + 1), 64)]).map pRow := List.take_of_length_le (by simp)
    simp -dsimp [t7, xc3_0, xc3_1, xc3_2, xc3_3, xc3_4, xc3_5, xc3_6, xc3_7, m1, m2, List.range, List.range.loop]
    refine fin _ ⟨y.nm, y.lo, y.df, IntKind.i64.wrap (y.hi + 1), y.m ++ [(IntKind.i64.wrap (y.hi + 1), 64)]⟩ (wz _ _ _ _ _ yn (by simp; omega)) ?_
    simp -dsimp [cmp3, fr3, hs, hls, hba]
    exact List.take_of_length_le (by simp)
  by_cases t8 : t = 8
  · have hs : y.m.map pRow ++ [[PV.int .i64 (IntKind.i64.wrap (10000 + q2.tmod 2)), PV.int .i64 64]] = (y.m ++ [(IntKind.i64.wrap (10000 + q2.tmod 2), 64)]).map pRow := by rw [List.map_append]; rfl
    have hls : List.take (y.m.length + 1) ((y.m ++ [(IntKind.i64.wrap (10000 + q2.tmod 2), 64)]).map pRow) = (y.m ++ [(IntKind.i64.wrap (10000 + q2.tmod 2), 64)]).map pRow := List.take_of_length_le (by simp)
    simp -dsimp [t8, xc3_0, xc3_1, xc3_2, xc3_3, xc3_4, xc3_5, xc3_6, xc3_7, xc3_8, m1, m2, List.range, List.range.loop]
    refine fin _ ⟨y.nm, y.lo, y.df, IntKind.i64.wrap (10000 + q2.tmod 2), y.m ++ [(IntKind.i64.wrap (10000 + q2.tmod 2), 64)]⟩ (wz _ _ _ _ _ yn (by simp; omega)) ?_
    simp -dsimp [cmp3, fr3, hs, hls, hba]
    exact List.take_of_length_le (by simp)
  simp -dsimp [t0, t1, t2, t3, t4, t5, t6, t7, t8, xc3_0, xc3_1, xc3_2, xc3_3, xc3_4, xc3_5, xc3_6, xc3_7, xc3_8]
  refine fin _ y hy ?_
  simp [cmp3, fr3, hty, hba]
end Go.Abs.A09
namespace Go.Abs
open Go
set_option linter.unusedSimpArgs false
set_option linter.unusedVariables false
/-! ### from a datum of a row to values by content -/
/-- What reads as a t is some a: its cells are those that f says. -/
def Rd {α : Type} (P : Program) (w : World) (t : TypeId) (f : α → List PV) (ok : α → Prop) : Prop :=
  ∀ (H : Type) (en : TypeId × Value → H) (base : Nat) (sp : Nat → Bool) (hd : Bool) (fuel : Nat) (cs : List Value) (x : DataW H × List MemPlace), DataW.trod en P w base sp hd fuel t cs = some x → ∃ a, ok a ∧ Ps (full w) (f a) cs
variable {P : Program} {w : World} {t : TypeId}
theorem Ps.one {S : Snap} {p : PV} {v : Value} (h : PRel S p v) : Ps S [p] [v] := by
  refine ⟨rfl, fun j q u e1 e2 => ?_⟩
  match j with
  | 0 => simp at e1 e2; subst e1 e2; exact h
  | j + 1 => simp at e1
theorem Ps.nil {S : Snap} : Ps S [] [] := ⟨rfl, fun j q u e1 e2 => by simp at e1⟩
theorem Ps.append {S : Snap} {ps qs : List PV} {vs us : List Value} (h : Ps S ps vs) (k : Ps S qs us) : Ps S (ps ++ qs) (vs ++ us) := by
  refine ⟨by simp [h.1, k.1], fun j q u e1 e2 => ?_⟩
  by_cases hj : j < ps.length
  · rw [List.getElem?_append_left hj] at e1
    rw [List.getElem?_append_left (by rw [h.1]; exact hj)] at e2
    exact h.2 j q u e1 e2
  · rw [List.getElem?_append_right (by omega)] at e1
    rw [List.getElem?_append_right (by rw [h.1]; omega), h.1] at e2
    exact k.2 _ q u e1 e2
theorem Rd.int {k : IntKind} (ht : P.underlying t = some (.int k)) : Rd P w t (fun n : Int => [.int k n]) fun n => (Lit.int k n).wf = true := by
  intro H en base sp hd fuel cs x h
  cases fuel with
  | zero => simp [DataW.trod] at h
  | succ m =>
    unfold DataW.trod at h
    rw [ht] at h
    split at h <;> simp_all
    obtain ⟨⟨rfl, hw⟩, _⟩ := h
    exact ⟨_, hw, Ps.one (.int _ _)⟩
theorem Rd.str (ht : P.underlying t = some .string) : Rd P w t (fun s : ByteArray => [.str s]) fun s => s.size ≤ maxLen := by
  intro H en base sp hd fuel cs x h
  cases fuel with
  | zero => simp [DataW.trod] at h
  | succ m =>
    unfold DataW.trod at h
    rw [ht] at h
    split at h <;> simp_all
    exact ⟨_, h.1, Ps.one (.str _)⟩
theorem cells_get {base : Nat} {a : Addr} {n : Nat} {cs : List Value} (h : w.cells? base a n = some cs) : cs.length = n ∧ ∀ j v, cs[j]? = some v → w.cell? (a.add j) = some v := by
  unfold World.cells? at h
  split at h
  · obtain ⟨h1, h2⟩ := mapM_some h
    refine ⟨by simpa using h1, fun j v e => ?_⟩
    obtain ⟨i, e1, e2⟩ := h2 j v e
    have hj : j < n := by have := (List.getElem?_eq_some_iff.1 e).1; rw [h1] at this; simpa using this
    rw [List.getElem?_range hj] at e1
    simp at e1; subst e1; exact e2
  · simp at h
theorem Rd.slice {α : Type} {e : TypeId} {sz : Nat} {f : α → List PV} {ok : α → Prop} (ht : P.underlying t = some (.slice e)) (hc : P.cellsOf e = sz) (hr : Rd P w e f ok) (hf : ∀ a, (f a).length = sz) :
    Rd P w t (fun l : List α => [.sl sz (l.map f)]) fun l => (∀ a ∈ l, ok a) ∧ l.length ≤ maxLen := by
  intro H en base sp hd fuel cs x h
  rcases Deep.open_slice ht h with ⟨rfl, _⟩ | ⟨a, len, cap, m, n, D, Pl, rfl, hb, hl, hm, hmm, _, hel⟩
  · exact ⟨[], ⟨by simp, by simp⟩, Ps.one (.sl sz [] none 0 (fun _ _ => undef) (Nat.le_refl _) (by simp) (by simp) (by simp))⟩
  · have hlm : len ≤ m := by rw [hmm]; split <;> omega
    have key : ∀ k, k ≤ len → ∃ l : List α, l.length = k ∧ ∀ i b, l[i]? = some b → ok b ∧ ∃ cs', w.cells? base (a.add (i * sz)) sz = some cs' ∧ Ps (full w) (f b) cs' := by
      intro k
      induction k with
      | zero => intro _; exact ⟨[], rfl, fun i b e => by simp at e⟩
      | succ k ih =>
        intro hk
        obtain ⟨l, h1, h2⟩ := ih (by omega)
        obtain ⟨cs', g1, g2⟩ := hel k (by omega)
        obtain ⟨b, hb1, hb2⟩ := hr _ _ _ _ _ _ _ _ g2
        rw [hc] at g1
        refine ⟨l ++ [b], by simp [h1], fun i c e => ?_⟩
        by_cases hi : i < l.length
        · rw [List.getElem?_append_left hi] at e; exact h2 i c e
        · have : i = l.length := by have := (List.getElem?_eq_some_iff.1 e).1; simp at this; omega
          subst this
          simp at e; subst e
          rw [h1]; exact ⟨hb1, cs', g1, hb2⟩
    obtain ⟨l, hl1, hl2⟩ := key len (Nat.le_refl _)
    refine ⟨l, ⟨fun b hb => ?_, by omega⟩, Ps.one ?_⟩
    · obtain ⟨i, hi⟩ := List.getElem?_of_mem hb; exact (hl2 i b hi).1
    · have cell : ∀ (i : Nat) (row : List PV) (j : Nat) (p : PV), (l.map f)[i]? = some row → row[j]? = some p → ∃ v, w.cell? (a.add (i * sz + j)) = some v ∧ PRel (full w) p v := by
        intro i row j p e1 e2
        rw [List.getElem?_map, Option.map_eq_some_iff] at e1
        obtain ⟨b, e1, rfl⟩ := e1
        obtain ⟨_, cs', g1, g2⟩ := hl2 i b e1
        obtain ⟨k1, k2⟩ := cells_get g1
        have hj : j < cs'.length := by rw [k1, ← hf b]; exact (List.getElem?_eq_some_iff.1 e2).1
        refine ⟨cs'[j], ?_, g2.2 j p _ e2 (List.getElem?_eq_getElem hj)⟩
        rw [← Addr.add_add]
        exact k2 j _ (List.getElem?_eq_getElem hj)
      have hll : (l.map f).length = len := by simp [hl1]
      have := PRel.sl (S := full w) sz (l.map f) (some a) cap (fun i j => (w.cell? (a.add (i * sz + j))).getD undef) (by omega)
        (fun i row e1 => by
          rw [List.getElem?_map, Option.map_eq_some_iff] at e1
          obtain ⟨b, _, rfl⟩ := e1
          exact hf b)
        (fun i row j p e1 e2 => by
          obtain ⟨v, h1, _⟩ := cell i row j p e1 e2
          exact ⟨a, rfl, by simp [full, h1]⟩)
        (fun i row j p e1 e2 => by
          obtain ⟨v, h1, h2⟩ := cell i row j p e1 e2
          simp only [h1, Option.getD_some]; exact h2)
      rwa [hll] at this
/-- A struct: its cells are its fields' cells, one field behind the other. -/
theorem Rd.struct1 {α : Type} {fd : Field} {f : α → List PV} {ok : α → Prop} (ht : P.underlying t = some (.struct #[fd])) (ho : fd.offset = 0) (hs : P.cellsOf fd.type = P.cellsOf t) (hr : Rd P w fd.type f ok) : Rd P w t f ok := by
  intro H en base sp hd fuel cs x h
  obtain ⟨xs, n, _, rfl, hl, hlen, hfl⟩ := DataW.trod_struct ht h
  have h0 := hfl 0 fd rfl
  rw [ho, hs, List.drop_zero, ← hl, List.take_length] at h0
  obtain ⟨y, hy⟩ : ∃ y, xs[0]? = some y := by
    have : 0 < xs.length := by rw [hlen]; simp
    exact ⟨_, List.getElem?_eq_getElem this⟩
  rw [hy] at h0
  exact hr _ _ _ _ _ _ _ _ h0
/-- Several fields: the first one, and the rest read apart. -/
def RdF {α : Type} (P : Program) (w : World) (fs : List Field) (f : α → List PV) (ok : α → Prop) : Prop :=
  ∀ (H : Type) (en : TypeId × Value → H) (base : Nat) (sp : Nat → Bool) (hd : Bool) (n : Nat) (cs : List Value), (∀ fd ∈ fs, ∃ y, DataW.trod en P w base sp hd n fd.type ((cs.drop fd.offset).take (P.cellsOf fd.type)) = some y) → ∃ a, ok a ∧ Ps (full w) (f a) (fs.flatMap fun fd => (cs.drop fd.offset).take (P.cellsOf fd.type))
theorem RdF.nil : RdF P w [] (fun _ : Unit => []) fun _ => True := fun _ _ _ _ _ _ _ _ => ⟨(), trivial, Ps.nil⟩
theorem RdF.cons {α β : Type} {fd : Field} {fs : List Field} {f : α → List PV} {g : β → List PV} {ok : α → Prop} {ok' : β → Prop} (h : Rd P w fd.type f ok) (k : RdF P w fs g ok') : RdF P w (fd :: fs) (fun x : α × β => f x.1 ++ g x.2) fun x => ok x.1 ∧ ok' x.2 := by
  intro H en base sp hd n cs hx
  obtain ⟨y, hy⟩ := hx fd (by simp)
  obtain ⟨a, ha, ha2⟩ := h _ _ _ _ _ _ _ _ hy
  obtain ⟨b, hb, hb2⟩ := k H en base sp hd n cs fun fd' hm => hx fd' (by simp [hm])
  exact ⟨(a, b), ⟨ha, hb⟩, by simpa using ha2.append hb2⟩
/-- Do the fields lie one behind the other, and fill it? -/
def laidOut (P : Program) : List Field → Nat → Nat → Bool
  | [], o, n => o == n
  | fd :: fs, o, n => fd.offset == o && laidOut P fs (o + P.cellsOf fd.type) n
theorem laidOut_cells {cs : List Value} : ∀ {fs : List Field} {o : Nat}, laidOut P fs o cs.length = true → (fs.flatMap fun fd => (cs.drop fd.offset).take (P.cellsOf fd.type)) = cs.drop o
  | [], o, h => by simp [laidOut] at h; subst h; simp
  | fd :: fs, o, h => by
    simp only [laidOut, Bool.and_eq_true, beq_iff_eq] at h
    rw [List.flatMap_cons, laidOut_cells h.2, h.1, ← List.drop_drop, List.take_append_drop]
theorem Rd.struct {α : Type} {fs : List Field} {f : α → List PV} {ok : α → Prop} (ht : P.underlying t = some (.struct fs.toArray)) (ho : laidOut P fs 0 (P.cellsOf t) = true) (hr : RdF P w fs f ok) : Rd P w t f ok := by
  intro H en base sp hd fuel cs x h
  obtain ⟨xs, n, _, rfl, hl, hlen, hfl⟩ := DataW.trod_struct ht h
  obtain ⟨a, ha, ha2⟩ := hr H en base sp hd n cs (fun fd hm => by
    obtain ⟨i, hi⟩ := List.getElem?_of_mem hm
    have := hfl i fd (by simpa using hi)
    have hlt : i < xs.length := by rw [hlen]; simpa using (List.getElem?_eq_some_iff.1 hi).1
    rw [this, List.getElem?_eq_getElem hlt]
    exact ⟨_, rfl⟩)
  rw [← hl] at ho
  rw [laidOut_cells ho, List.drop_zero] at ha2
  exact ⟨a, ha, ha2⟩
/-- An array of three. -/
theorem Rd.arr3 {α : Type} {e : TypeId} {sz : Nat} {f : α → List PV} {ok : α → Prop} (ht : P.underlying t = some (.array 3 e)) (hc : P.cellsOf e = sz) (hs : P.cellsOf t = 3 * sz) (hr : Rd P w e f ok) : Rd P w t (fun x : α × α × α => f x.1 ++ (f x.2.1 ++ f x.2.2)) fun x => ok x.1 ∧ ok x.2.1 ∧ ok x.2.2 := by
  intro H en base sp hd fuel cs x h
  obtain ⟨xs, m, _, rfl, hl, hlen, hfl⟩ := DataW.trod_array ht h
  have get : ∀ i, i < 3 → ∃ a, ok a ∧ Ps (full w) (f a) ((cs.drop (i * sz)).take sz) := fun i hi => by
    have h0 := hfl i hi
    rw [hc, List.getElem?_eq_getElem (by omega)] at h0
    exact hr _ _ _ _ _ _ _ _ h0
  obtain ⟨a, ha, ha2⟩ := get 0 (by omega)
  obtain ⟨b, hb, hb2⟩ := get 1 (by omega)
  obtain ⟨c, hcc, hc2⟩ := get 2 (by omega)
  refine ⟨(a, b, c), ⟨ha, hb, hcc⟩, ?_⟩
  have := ha2.append (hb2.append hc2)
  have e : (cs.drop (0 * sz)).take sz ++ ((cs.drop (1 * sz)).take sz ++ (cs.drop (2 * sz)).take sz) = cs := by
    apply List.ext_getElem?
    intro i
    simp only [Nat.zero_mul, List.drop_zero, Nat.one_mul]
    have l0 : (cs.take sz).length = sz := by simp; omega
    have l1 : ((cs.drop sz).take sz).length = sz := by simp; omega
    by_cases h1 : i < sz
    · rw [List.getElem?_append_left (by omega), List.getElem?_take, if_pos h1]
    · rw [List.getElem?_append_right (by omega), l0]
      by_cases h2 : i - sz < sz
      · rw [List.getElem?_append_left (by omega), List.getElem?_take, if_pos h2, List.getElem?_drop]; congr 1; omega
      · rw [List.getElem?_append_right (by omega), l1, List.getElem?_take, List.getElem?_drop]
        by_cases h3 : i - sz - sz < sz
        · rw [if_pos h3]; congr 1; omega
        · rw [if_neg h3, List.getElem?_eq_none (by omega)]
  rwa [e] at this
/-! ### a call's arguments -/
open Go.WideShapes in
theorem Rd.argS {α : Type} {e : TypeId} {f : α → PV} {ok : α → Prop} {H : Type} {en : TypeId × Value → H} {base b0 : Nat} {sp : Nat → Bool} {hd : Bool} {r : Reach} {v : Value} {d : DataW H} {p : List MemPlace} (ht : P.underlying t = some (.slice e)) (h : Rd P w t (fun a => [f a]) ok) (ho : Value.okWide P w r b0 t v) (hv : DataW.Trod en P w base sp hd t v d p) : ∃ a, ok a ∧ PRel (full w) (f a) v := by
  obtain ⟨a, len, cap, rfl⟩ := okWide_slice ht ho
  obtain ⟨m, hm⟩ := hv
  obtain ⟨x, h1, h2⟩ := h _ _ _ _ _ _ _ _ hm
  exact ⟨x, h1, h2.2 0 _ _ rfl rfl⟩
open Go.WideShapes in
theorem Rd.argI {α : Type} {k : IntKind} {f : α → PV} {ok : α → Prop} {H : Type} {en : TypeId × Value → H} {base b0 : Nat} {sp : Nat → Bool} {hd : Bool} {r : Reach} {v : Value} {d : DataW H} {p : List MemPlace} (ht : P.underlying t = some (.int k)) (h : Rd P w t (fun a => [f a]) ok) (ho : Value.okWide P w r b0 t v) (hv : DataW.Trod en P w base sp hd t v d p) : ∃ a, ok a ∧ PRel (full w) (f a) v := by
  obtain ⟨n, rfl⟩ := okWide_int ht ho
  obtain ⟨m, hm⟩ := hv
  obtain ⟨x, h1, h2⟩ := h _ _ _ _ _ _ _ _ hm
  exact ⟨x, h1, h2.2 0 _ _ rfl rfl⟩
theorem agg_of {S : Snap} {ps : List PV} {cs : Array Value} (h : Ps S ps cs.toList) : PRel S (.agg ps) (.agg cs) := by
  have := PRel.agg (S := S) ps cs.toList h.1 h.2
  simpa using this
open Go.WideShapes in
theorem Rd.argT {α : Type} {fs : Array Field} {f : α → List PV} {ok : α → Prop} {H : Type} {en : TypeId × Value → H} {base b0 : Nat} {sp : Nat → Bool} {hd : Bool} {r : Reach} {v : Value} {d : DataW H} {p : List MemPlace} (ht : P.underlying t = some (.struct fs)) (h : Rd P w t f ok) (ho : Value.okWide P w r b0 t v) (hv : DataW.Trod en P w base sp hd t v d p) : ∃ a, ok a ∧ PRel (full w) (.agg (f a)) v := by
  obtain ⟨cs, rfl, _⟩ := okWide_struct ht ho
  obtain ⟨m, hm⟩ := hv
  obtain ⟨x, h1, h2⟩ := h _ _ _ _ _ _ _ _ hm
  exact ⟨x, h1, agg_of h2⟩
theorem Rd.argA {α : Type} {n : Nat} {e : TypeId} {f : α → List PV} {ok : α → Prop} {H : Type} {en : TypeId × Value → H} {base b0 : Nat} {sp : Nat → Bool} {hd : Bool} {r : Reach} {v : Value} {d : DataW H} {p : List MemPlace} (ht : P.underlying t = some (.array n e)) (h : Rd P w t f ok) (ho : Value.okWide P w r b0 t v) (hv : DataW.Trod en P w base sp hd t v d p) : ∃ a, ok a ∧ PRel (full w) (.agg (f a)) v := by
  unfold Value.okWide at ho
  rw [ht] at ho
  obtain ⟨cs, rfl, _⟩ := ho
  obtain ⟨m, hm⟩ := hv
  obtain ⟨x, h1, h2⟩ := h _ _ _ _ _ _ _ _ hm
  exact ⟨x, h1, agg_of h2⟩
theorem Ps.cons {S : Snap} {p : PV} {v : Value} {ps : List PV} {vs : List Value} (h : PRel S p v) (k : Ps S ps vs) : Ps S (p :: ps) (v :: vs) := (Ps.one h).append k
/-- An array of two. -/
theorem Rd.arr2 {α : Type} {e : TypeId} {sz : Nat} {f : α → List PV} {ok : α → Prop} (ht : P.underlying t = some (.array 2 e)) (hc : P.cellsOf e = sz) (hs : P.cellsOf t = 2 * sz) (hr : Rd P w e f ok) : Rd P w t (fun x : α × α => f x.1 ++ f x.2) fun x => ok x.1 ∧ ok x.2 := by
  intro H en base sp hd fuel cs x h
  obtain ⟨xs, m, _, rfl, hl, hlen, hfl⟩ := DataW.trod_array ht h
  have get : ∀ i, i < 2 → ∃ a, ok a ∧ Ps (full w) (f a) ((cs.drop (i * sz)).take sz) := fun i hi => by
    have h0 := hfl i hi
    rw [hc, List.getElem?_eq_getElem (by omega)] at h0
    exact hr _ _ _ _ _ _ _ _ h0
  obtain ⟨a, ha, ha2⟩ := get 0 (by omega)
  obtain ⟨b, hb, hb2⟩ := get 1 (by omega)
  refine ⟨(a, b), ⟨ha, hb⟩, ?_⟩
  have := ha2.append hb2
  have e : (cs.drop (0 * sz)).take sz ++ (cs.drop (1 * sz)).take sz = cs := by
    apply List.ext_getElem?
    intro i
    simp only [Nat.zero_mul, List.drop_zero, Nat.one_mul]
    have l0 : (cs.take sz).length = sz := by simp; omega
    by_cases h1 : i < sz
    · rw [List.getElem?_append_left (by omega), List.getElem?_take, if_pos h1]
    · rw [List.getElem?_append_right (by omega), l0]
      by_cases h2 : i - sz < sz
      · rw [List.getElem?_take, if_pos h2, List.getElem?_drop]; congr 1; omega
      · rw [List.getElem?_take, if_neg h2, List.getElem?_eq_none (by omega)]
  rwa [e] at this
end Go.Abs
namespace Go.Proofs.YtnonjaonklngpaaDoor
open Go Go.Abs Go.ChangeShapes Go.WideShapes Go.RowKit Go.Proofs
set_option maxRecDepth 100000
set_option linter.unusedVariables false

theorem own : ownKnob Tryd.prog.godebug = none := by kernel_rfl
theorem outB : laidOutB Tryd.prog = true := by kernel_rfl

/-- THE WITNESS's WORLD: the settled world, the two variables holding what their text lays. -/
noncomputable def laidWorld (os : Os) : World :=
  let w0 := World.holding Tryd.prog os ⟨#[], #[], []⟩
  let put (h : Array Obj) (g : Nat) (cs : Array Value) : Array Obj := h.modify g fun
    | .cells _ t frozen => .cells cs t frozen
    | o => o
  let h1 := put w0.heap 1 (Lib.firstTab.map fun z => Value.int .u8 z).toArray
  let h2 := put h1 2 ((List.range 16).flatMap fun i => [Value.int .u8 (Lib.accLo i), Value.int .u8 (Lib.accHi i)]).toArray
  { w0 with heap := h2 }
def laidL : List (String × DataW Unit) := [("unicode/utf8.acceptRanges", Rows.laid_unicode_utf8_acceptRanges), ("unicode/utf8.first", Rows.laid_unicode_utf8_first)]
theorem laid_met (os : Os) (args : Array Value) : laidMet Tryd.prog laidL ((laidWorld os).forCall (fun _ _ => 0) ⟨#[], args, []⟩).memory :=
  (LaidIn.of_run (l := laidL) [1, 2] 8 (by kernel_rfl) (by kernel_rfl) (by kernel_rfl) (by kernel_rfl)).met
theorem laid_metH (os : Os) (args : Array Value) : laidMetH Tryd.prog laidL ((laidWorld os).forCall (fun _ _ => 0) ⟨#[], args, []⟩).memory := by
  have e : (laidL.filter fun x => x.2.handleName?.isSome) = [] := by kernel_rfl
  unfold laidMetH
  rw [e]
  exact laid_met os args

/-- The arguments of a law that returns true: they read behind the call as they did. -/
theorem args_stay {H : Type} {enc : TypeId × Value → H} {W W' : World} (hb : Below W.heap.size W W') : ∀ {ts : List TypeId} {vs : List Value} {ds : List (DataW H)} {ps : List MemPlace},
    (∀ t ∈ ts, Tryd.prog.readableRec t = true ∧ t < Tryd.prog.types.size) → DataW.TrodAll enc Tryd.prog W 0 (fun _ => true) true ts vs ds ps → (∀ x ∈ ps, x.block < W.heap.size) → DataW.TrodAll enc Tryd.prog W' 0 (fun b => decide (b < W.heap.size)) true ts vs ds ps
  | [], vs, ds, ps, _, h, _ => by
    obtain ⟨rfl, rfl, rfl⟩ := trodAll_nil h
    exact trodAll_mk0
  | t :: ts, vs, ds, ps, ht, h, hlt => by
    obtain ⟨v, vs', d, ds', p, q, rfl, rfl, rfl, h1, h2⟩ := trodAll_cons h
    refine trodAll_cons_mk ?_ ?_
    · exact Below.trod outB (ht t (by simp)).1 (ht t (by simp)).2 h1 hb fun x hx => hlt x (by simp [hx])
    · exact args_stay hb (fun t' h' => ht t' (by simp [h'])) h2 fun x hx => hlt x (by simp [hx])
theorem keep_below {W W' : World} (h : Keep W W') : Below W.heap.size W W' := ⟨h.os, h.tape, h.output, h.size, h.heap⟩

/-- The step of a law's row: whatever reads as its parameters, the call returns true. -/
theorem law_step {H : Type} {enc : TypeId × Value → H} {fn : Func} {spec : ChangeSpec} {W : World} {args : Array Value} {ds gs : List (DataW H)} {before : List MemPlace} {f : FuncId} {ps : List PV}
    (hvars : spec.vars = []) (hfn : fn.resultTypes = #[4]) (hW : DataW.Whole enc Tryd.prog fn.params.toList spec.vars false W args.toList ds gs before)
    (hspec : spec.fn H (ds ++ []) = { results := [.lit (.bool true)], args := ds })
    (hread : ∀ t ∈ fn.params.toList, Tryd.prog.readableRec t = true ∧ t < Tryd.prog.types.size)
    (hb : Best Tryd.prog f ps (.p (.bool true))) (hps : Ps (full W) ps args.toList) :
    Calls Tryd.prog f args W fun e W' => ∃ v, e = .returned v ∧ spec.post enc Tryd.prog fn false true false false W args v W' := by
  have hc := hb.2 (full W) W args.toList (fun a v h => h) hps
  rw [Array.toArray_toList] at hc
  refine hc.mono ?_
  rintro e W' ⟨x, S', rfl, hk, _, _, _, hres⟩
  have hx : x = .bool true := by
    cases hres; rfl
  subst hx
  have hW' := hW
  obtain ⟨p, q, hA, hV, rfl, _, _⟩ := hW
  rw [hvars] at hV
  obtain ⟨rfl, rfl⟩ := trodVars_none hV
  have hbel := keep_below hk
  refine ⟨_, rfl, ds, [], _, [], p, [], hW', ?_, ?_, ?_, hbel.frame _, fun h => by cases h⟩
  · rw [hspec, hfn]
    exact trodAll_mk1 (shut_bool Tryd.underlying4 true)
  · rw [hspec]
    exact args_stay hbel hread hA fun y hy => hW'.lt y (by simp [hy])
  · rw [hspec, hvars]; rfl
end Go.Proofs.YtnonjaonklngpaaDoor
namespace Go.Abs.A09
open Go Go.Abs Go.Proofs
set_option maxRecDepth 100000
set_option linter.unusedVariables false
set_option linter.unusedSimpArgs false
attribute [local simp ↓] awp_skip awp_seq awp_cond awp_block awp_exit awp_ret awp_reg awp_draw awp_ghost awp_loop awp_rfun awpR_nil awpR_cons awpX_nil awpX_0 awpX_1 awpX_2 awpI_eq awpI_t awpI_f awpStep_eq
attribute [local simp] condL_true condL_false condL_dec evDel evV evN evS evA initFr Ghost.app Fr.var Fr.blk Fr.ff FF.val Abs.look Fr.app Fr.erase Fr.noSlot AV.noSlot AV.noSlotL Blk.noSlot Fr.spoken AV.fz AV.fzL Blk.fz binV binI shI binS unV fillA FF.parts FF.vals headO intO boundO lenV scalarEq leavesEq AV.aggc AV.cells FF.read FF.rows AV.one PV.one chunk freshB newS pickV retK evRs evRl evR resOf mkTup mkAgg allP cloOf okP_nil okX_p okX okP addN Del.noSlot Del.owners Rnd reify_p normM insM Fr.back Fr.backV Fr.setPs normV insV
attribute [local simp] FF.reify FF.reifyL PV.flat
def atS (l : List Int) (k : Nat) : Int := numS l k % 129 - 64
def madeAt (l : List Int) (n : Nat) : List Int := (List.range n).map (atS l)
def partAt (l : List Int) (n k : Nat) : List Int := (List.range n).map fun i => if i < k then atS l i else 0
theorem partAt_set {l : List Int} {n k : Nat} (h : k < n) : (partAt l n k).set k (atS l k) = partAt l n (k + 1) := by
  apply List.ext_getElem?
  intro i
  rw [List.getElem?_set]
  by_cases hi : k = i
  · subst hi; simp [partAt, h]
  · rw [if_neg hi]
    by_cases hn : i < n
    · simp only [partAt, List.getElem?_map, List.getElem?_range hn, Option.map_some]
      congr 1
      by_cases h1 : i < k
      · rw [if_pos h1, if_pos (by omega)]
      · rw [if_neg h1, if_neg (by omega)]
    · rw [List.getElem?_eq_none (by simp [partAt]; omega), List.getElem?_eq_none (by simp [partAt]; omega)]
theorem partAt_len {l : List Int} {n k : Nat} : (partAt l n k).length = n := by simp [partAt]
theorem atS_bd (l : List Int) (k : Nat) : -64 ≤ atS l k ∧ atS l k ≤ 64 := by unfold atS; omega
theorem b22 (l : List Int) (n : Nat) (hn : n < 1000000) : Best Tryd.prog 22 [.sl 1 (l.map intRow), .int .i64 n] (.p (.sl 1 ((madeAt l n).map intRow))) := by
  refine best mixed fn22 ok22 (by simp) ?_
  have c1 : (8 : Int) * n ≤ 281474976710656 := by omega
  have c2 : (n : Int) ≤ 9223372036854775807 := by omega
  have c3 : List.replicate n [PV.int .i64 0] = (partAt l n 0).map intRow := by
    simp [partAt, intRow, List.map_const', Function.comp_def]
  have c4 : (n : Int) * 8 ≤ 281474976710656 := by omega
  simp -dsimp [ac22, c1, c2, c3, c4]
  refine loopC n (fun k => ⟨[(0, .p (.sl 1 (l.map intRow))), (1, .p (.int .i64 n)), (5, .ref (8, 0) 1 0 n), (6, .p (.int .i64 k))], [((8, 0), .sl 3 1 ((partAt l n k).map intRow))]⟩) (fun _ => True) (fun k hk _ => ?_) trivial (by simp)
  by_cases h : k < n
  · have w : R ((k : Int) + 1) := ⟨by omega, by omega⟩
    have hb := numS_bd l k
    have e1 : (numS l k).tmod 129 = numS l k % 129 := Int.tmod_eq_emod_of_nonneg hb.1
    have w1 : R (numS l k % 129 - 64) := ⟨by omega, by omega⟩
    have ea : numS l k % 129 - 64 = atS l k := rfl
    have e2 : ∀ p : Int, (partAt l n k)[k]? = some ((partAt l n k)[k]'(by rw [partAt_len]; exact h)) := fun _ => List.getElem?_eq_getElem _
    have hset : ((partAt l n k).map intRow).set k (intRow (atS l k)) = (partAt l n (k + 1)).map intRow := by
      rw [← List.map_set, partAt_set h]
    simp -dsimp [h]
    refine call_p (b43 l k) rfl (by simp) ?_
    have hl : k < (partAt l n k).length := by rw [partAt_len]; exact h
    have ht : ∀ x, (intRow x).tail = [] := fun _ => rfl
    have w5 : R (atS l k) := by rw [← ea]; exact w1
    simp -dsimp [e1, wr w5, ea, h, hl, partAt_len, wr w, ht]
    exact hset
  · have : k = n := by omega
    subst this
    have : partAt l k k = madeAt l k := by
      unfold partAt madeAt
      apply List.map_congr_left
      intro i hi
      rw [if_pos (by simpa using hi)]
    have hlen : (madeAt l k).length = k := by simp [madeAt]
    simp -dsimp [this, hlen]
    exact List.take_of_length_le (by simp [hlen])

/-- A contract whose value is said less sharply. -/
theorem Best.res {P : Program} {f : FuncId} {ps : List PV} {v v' : PV} (h : ∀ S x, PRel S v x → PRel S v' x) (b : Best P f ps (.p v)) : Best P f ps (.p v') :=
  ⟨b.1, fun S w xs hS hx => (b.2 S w xs hS hx).mono fun e w' ⟨x, S', h1, h2, h3, h4, h5, h6⟩ => ⟨x, S', h1, h2, h3, h4, h5, h S' x h6⟩⟩
theorem agg_nsl {S : Snap} {x : Value} (n : Nat) (h : PRel S (.agg [.nsl]) x) : PRel S (.agg [.sl n []]) x := by
  cases h with
  | agg cells vs hl hh =>
    match vs, hl with
    | [v], _ =>
      refine .agg _ [v] rfl fun j p u e1 e2 => ?_
      match j with
      | 0 => simp at e1 e2; subst e1 e2; exact (hh 0 _ _ rfl rfl).nsl_sl n
      | j + 1 => simp at e1
def regT (l : List Int) (k : Nat) : T3 := mtS (numS l (3 * k)) (numS l (3 * k + 1)) (numS l (3 * k + 2))
def madeReg (l : List Int) (n : Nat) : List T3 := (List.range n).map (regT l)
theorem madeReg_succ (l : List Int) (n : Nat) : madeReg l (n + 1) = madeReg l n ++ [regT l n] := by simp [madeReg, List.range_succ]
theorem madeReg_ok (l : List Int) (n : Nat) : ∀ t ∈ madeReg l n, TE t := by
  intro t ht
  simp only [madeReg, List.mem_map] at ht
  obtain ⟨k, _, rfl⟩ := ht
  exact mt_ok (numS_bd l _).1
theorem madeReg_len (l : List Int) (n : Nat) : (madeReg l n).length = n := by simp [madeReg]
theorem b20 (r : List T3) : Best Tryd.prog 20 [.agg [.sl 3 (r.map tRow)]] (.p (.agg [.sl 3 ((r.take 5).map tRow)])) := by
  refine best mixed fn20 ok20 (by simp) ?_
  have c1 : min (r.length : Int) 5 = ((min r.length 5 : Nat) : Int) := by omega
  have c2 : ((min r.length 5 : Nat) : Int) ≤ r.length := by omega
  have c2' : min r.length 5 ≤ r.length := by omega
  have c3 : (r.map tRow).take (min r.length 5) = (r.take 5).map tRow := by
    rw [List.map_take, List.take_eq_take_iff]; simp; omega
  have c4 : ((r.take 5).map tRow).length ≤ 5 := by simp; omega
  have c5 : ((r.take 5).map tRow).length ≤ maxLen := by unfold maxLen; omega
  have c6 : (((r.take 5).map tRow).all fun r => r.all PV.one) = true := by
    rw [List.all_eq_true]; intro x hx
    simp only [List.mem_map] at hx
    obtain ⟨t, _, rfl⟩ := hx
    rfl
  generalize (r.take 5).map tRow = z at *
  have c7 : z.length * 24 ≤ 140737488355328 := by omega
  simp -dsimp [ac20, List.range, List.range.loop, c1, c2, c2', c3, c5, c7, ↓c6]
end Go.Abs.A09
namespace Go.Abs.A09
open Go Go.Abs Go.Proofs
set_option maxRecDepth 100000
set_option linter.unusedVariables false
set_option linter.unusedSimpArgs false
attribute [local simp ↓] awp_skip awp_seq awp_cond awp_block awp_exit awp_ret awp_reg awp_draw awp_ghost awp_loop awp_rfun awpR_nil awpR_cons awpX_nil awpX_0 awpX_1 awpX_2 awpI_eq awpI_t awpI_f awpStep_eq
attribute [local simp] condL_true condL_false condL_dec evDel evV evN evS evA initFr Ghost.app Fr.var Fr.blk Fr.ff FF.val Abs.look Fr.app Fr.erase Fr.noSlot AV.noSlot AV.noSlotL Blk.noSlot Fr.spoken AV.fz AV.fzL Blk.fz binV binI shI binS unV fillA FF.parts FF.vals headO intO boundO lenV scalarEq leavesEq AV.aggc AV.cells FF.read FF.rows AV.one PV.one chunk freshB newS pickV retK evRs evRl evR resOf mkTup mkAgg allP cloOf okP_nil okX_p okX okP addN Del.noSlot Del.owners Rnd reify_p normM insM Fr.back Fr.backV Fr.setPs normV insV
attribute [local simp] FF.reify FF.reifyL PV.flat
theorem oneT (z : List T3) : ((z.map tRow).all fun r => r.all PV.one) = true := by
  rw [List.all_eq_true]; intro x hx
  simp only [List.mem_map] at hx
  obtain ⟨t, _, rfl⟩ := hx
  rfl
theorem one1 (x : T3) : ([tRow x].all fun r => r.all PV.one) = true := oneT [x]
/-- The region, so far: its list in the box, and the block that it owns. -/
def regV : Nat → AV
  | 0 => .p .nsl
  | k + 1 => .ref (31, k) 3 0 (k + 1)
def regM (l : List Int) : Nat → List (Slot × Blk)
  | 0 => []
  | k + 1 => [((31, k), .sl 71 3 ((madeReg l (k + 1)).map tRow))]
theorem wl0 : IntKind.i64.wrap 0 = 0 := wr ⟨by omega, by omega⟩
theorem wl1 : IntKind.i64.wrap 1 = 1 := wr ⟨by omega, by omega⟩
theorem wl2 : IntKind.i64.wrap 2 = 2 := wr ⟨by omega, by omega⟩
theorem mtR (x : T3) : tRow x = [.int .i64 x.f, .int .i64 x.p, .int .i64 x.t] := rfl
theorem b21' (l : List Int) (n : Nat) (hn : n < 1000) : awp Tryd.prog ac21 (retK [.cell 4 true 1] (.p (.agg [if n = 0 then .nsl else .sl 3 ((madeReg l n).map tRow)]))) (initFr [.sl 1 (l.map intRow), .int .i64 n]) := by
  simp -dsimp [ac21]
  refine loopC n (fun k => ⟨[(0, .p (.sl 1 (l.map intRow))), (1, .p (.int .i64 n)), (4, .ptr (4, 0) 1 0 0), (5, .ptr (5, 0) 1 0 0), (6, .p (.int .i64 k))], ((4, 0), .box [.p .nsl]) :: ((5, 0), .box [regV k]) :: regM l k⟩) (fun _ => True) (fun k hk _ => ?_) trivial (by simp [regV, regM])
  by_cases h : k < n
  · have w : R ((k : Int) + 1) := ⟨by omega, by omega⟩
    have h1 := b43 l (3 * k)
    rw [show ((3 * k : Nat) : Int) = 3 * (k : Int) by omega] at h1
    have h2 := b43 l (3 * k + 1)
    rw [show ((3 * k + 1 : Nat) : Int) = 3 * (k : Int) + 1 by omega] at h2
    have h3 := b43 l (3 * k + 2)
    rw [show ((3 * k + 2 : Nat) : Int) = 3 * (k : Int) + 2 by omega] at h3
    have n1 := numS_bd l (3 * k)
    have n2 := numS_bd l (3 * k + 1)
    have n3 := numS_bd l (3 * k + 2)
    have h4 := b55 n1.1 n1.2 n2.1 n2.2 n3.1 n3.2
    rw [show mtS (numS l (3 * k)) (numS l (3 * k + 1)) (numS l (3 * k + 2)) = regT l k from rfl] at h4
    have w1 : R (3 * (k : Int)) := ⟨by omega, by omega⟩
    have w2 : R (3 * (k : Int) + 1) := ⟨by omega, by omega⟩
    have w3 : R (3 * (k : Int) + 2) := ⟨by omega, by omega⟩
    have hs := madeReg_succ l k
    have hl := madeReg_len l k
    have o1 := one1 (regT l k)
    generalize numS l (3 * k) = y1 at *
    generalize numS l (3 * k + 1) = y2 at *
    generalize numS l (3 * k + 2) = y3 at *
    generalize regT l k = x at *
    obtain ⟨x1, x2, x3⟩ := x
    cases k with
    | zero =>
      have hs' : madeReg l 1 = [⟨x1, x2, x3⟩] := by simpa [madeReg] using hs
      simp -dsimp [regV, regM, h, wl0, wl1, wl2]
      refine call_p h1 (by simp) (by simp) ?_
      simp -dsimp [wl0, wl1, wl2]
      refine call_p h2 (by simp [wl0, wl1, wl2]) (by simp) ?_
      simp -dsimp [wl0, wl1, wl2]
      refine call_p h3 (by simp [wl0, wl1, wl2]) (by simp) ?_
      simp -dsimp [wl0, wl1, wl2]
      refine call_p h4 (by simp) (by simp) ?_
      simp -dsimp [wl0, wl1, wl2, mtR, List.range, List.range.loop, maxLen, hs', h]
      exact ⟨rfl, by simp [regM, hs', mtR]⟩
    | succ k =>
      simp only [Int.natCast_add, Int.natCast_one] at w w1 w2 w3 h1 h2 h3
      have hl2 : ((madeReg l (k + 1)).map tRow).length = k + 1 := by simp [hl]
      have hmax : k + 1 + 1 ≤ maxLen := by unfold maxLen; omega
      have hby : (k + 1 + 1) * 24 ≤ 140737488355328 := by omega
      have hi : (k : Int) + 1 < n := by omega
      simp -dsimp [regV, regM, h, hi, wr w1]
      refine call_p h1 (by simp) (by simp) ?_
      simp -dsimp [wr w1, wr w2]
      refine call_p h2 (by simp) (by simp) ?_
      simp -dsimp [wr w1, wr w3]
      refine call_p h3 (by simp) (by simp) ?_
      simp -dsimp
      refine call_p h4 (by simp) (by simp) ?_
      simp -dsimp [mtR, List.range, List.range.loop, hl2, hmax, hby, hs, h]
      exact ⟨wr w, rfl, by simp only [regM, hs, List.map_append]; rfl⟩
  · have : k = n := by omega
    subst this
    have hl := madeReg_len l k
    cases k with
    | zero => simp -dsimp [regV, regM]
    | succ k =>
      have ht : List.take (k + 1) ((madeReg l (k + 1)).map tRow) = (madeReg l (k + 1)).map tRow := List.take_of_length_le (by simp [hl])
      have hi : ¬ (k : Int) + 1 < (k : Int) + 1 := by omega
      simp -dsimp [regV, regM, hi, hl, ht]
theorem b21 (l : List Int) (n : Nat) (hn : n < 1000) : Best Tryd.prog 21 [.sl 1 (l.map intRow), .int .i64 n] (.p (.agg [.sl 3 ((madeReg l n).map tRow)])) := by
  have h := best mixed fn21 ok21 (by simp) (b21' l n hn)
  by_cases h0 : n = 0
  · subst h0
    rw [if_pos rfl] at h
    exact Best.res (fun S x hx => agg_nsl 3 hx) h
  · rwa [if_neg h0] at h
end Go.Abs.A09
namespace Go.Abs.A09
open Go Go.Abs Go.Proofs
set_option maxRecDepth 100000
set_option linter.unusedVariables false
set_option linter.unusedSimpArgs false
attribute [local simp ↓] awp_skip awp_seq awp_cond awp_block awp_exit awp_ret awp_reg awp_draw awp_ghost awp_loop awp_rfun awpR_nil awpR_cons awpX_nil awpX_0 awpX_1 awpX_2 awpI_eq awpI_t awpI_f awpStep_eq
attribute [local simp] condL_true condL_false condL_dec evDel evV evN evS evA initFr Ghost.app Fr.var Fr.blk Fr.ff FF.val Abs.look Fr.app Fr.erase Fr.noSlot AV.noSlot AV.noSlotL Blk.noSlot Fr.spoken AV.fz AV.fzL Blk.fz binV binI shI binS unV fillA FF.parts FF.vals headO intO boundO lenV scalarEq leavesEq AV.aggc AV.cells FF.read FF.rows AV.one PV.one chunk freshB newS pickV retK evRs evRl evR resOf mkTup mkAgg allP cloOf okP_nil okX_p okX okP addN Del.noSlot Del.owners Rnd reify_p normM insM Fr.back Fr.backV Fr.setPs normV insV
attribute [local simp] FF.reify FF.reifyL PV.flat
def rgP (l : List Int) (k : Nat) : Int × Int := (numS l (2 * k) % 129 - 64, min 64 (numS l (2 * k) % 129 - 64 + numS l (2 * k + 1) % 65))
def madeRg (l : List Int) (n : Nat) : List (Int × Int) := (List.range n).map (rgP l)
theorem madeRg_succ (l : List Int) (n : Nat) : madeRg l (n + 1) = madeRg l n ++ [rgP l n] := by simp [madeRg, List.range_succ]
theorem madeRg_len (l : List Int) (n : Nat) : (madeRg l n).length = n := by simp [madeRg]
theorem rgP_ok (l : List Int) (k : Nat) : PG (rgP l k) := by
  have h1 := numS_bd l (2 * k)
  have h2 := numS_bd l (2 * k + 1)
  unfold rgP PG CO
  dsimp only
  omega
theorem madeRg_ok (l : List Int) (n : Nat) (hn : n ≤ 3) : RG (madeRg l n) n := by
  refine ⟨by omega, by omega, by rw [madeRg_len], fun p hp => ?_⟩
  simp only [madeRg, List.mem_map] at hp
  obtain ⟨k, _, rfl⟩ := hp
  exact rgP_ok l k
theorem oneP (x : Int × Int) : ([pRow x].all fun r => r.all PV.one) = true := rfl
theorem b31 (l : List Int) (n : Nat) (hn : n < 1000) : Best Tryd.prog 31 [.sl 1 (l.map intRow), .int .i64 n] (.p (.sl 2 ((madeRg l n).map pRow))) := by
  refine best mixed fn31 ok31 (by simp) ?_
  simp -dsimp [ac31]
  refine loopC n (fun k => ⟨[(0, .p (.sl 1 (l.map intRow))), (1, .p (.int .i64 n)), (5, .ref (34, k) 2 0 k), (6, .p (.int .i64 k))], [((34, k), .sl 30 2 ((madeRg l k).map pRow))]⟩) (fun _ => True) (fun k hk _ => ?_) trivial (by simp [madeRg])
  by_cases h : k < n
  · have w : R ((k : Int) + 1) := ⟨by omega, by omega⟩
    have h1 := b43 l (2 * k)
    rw [show ((2 * k : Nat) : Int) = 2 * (k : Int) by omega] at h1
    have h2 := b43 l (2 * k + 1)
    rw [show ((2 * k + 1 : Nat) : Int) = 2 * (k : Int) + 1 by omega] at h2
    have n1 := numS_bd l (2 * k)
    have n2 := numS_bd l (2 * k + 1)
    have w1 : R (2 * (k : Int)) := ⟨by omega, by omega⟩
    have w2 : R (2 * (k : Int) + 1) := ⟨by omega, by omega⟩
    have hs := madeRg_succ l k
    have hl := madeRg_len l k
    have ex : rgP l k = (numS l (2 * k) % 129 - 64, min 64 (numS l (2 * k) % 129 - 64 + numS l (2 * k + 1) % 65)) := rfl
    rw [ex] at hs
    have e1 : (numS l (2 * k)).tmod 129 = numS l (2 * k) % 129 := Int.tmod_eq_emod_of_nonneg n1.1
    have e2 : (numS l (2 * k + 1)).tmod 65 = numS l (2 * k + 1) % 65 := Int.tmod_eq_emod_of_nonneg n2.1
    have w3 : R (numS l (2 * k) % 129 - 64) := ⟨by omega, by omega⟩
    have w4 : R (numS l (2 * k) % 129 - 64 + numS l (2 * k + 1) % 65) := ⟨by omega, by omega⟩
    generalize numS l (2 * k) = y1 at *
    generalize numS l (2 * k + 1) = y2 at *
    have hmax : k + 1 ≤ maxLen := by unfold maxLen; omega
    have hby : (k + 1) * 16 ≤ 140737488355328 := by omega
    simp -dsimp [h, wr w1]
    refine call_p h1 (by simp) (by simp) ?_
    simp -dsimp [e1, wr w3, wr w1, wr w2]
    refine call_p h2 (by simp) (by simp) ?_
    simp -dsimp [e2, wr w4, List.range, List.range.loop, hl, hmax, hby, hs, h, wr w]
    rfl
  · have : k = n := by omega
    subst this
    have hl := madeRg_len l k
    have ht : List.take k ((madeRg l k).map pRow) = (madeRg l k).map pRow := List.take_of_length_le (by simp [hl])
    simp -dsimp [hl, ht]
structure Cs where
  rg : List (List Int)
  at' : List Int
  rn : List Int
  wd : List Int
  ax : Nat
def llRow (l : List Int) : List PV := [.sl 1 (l.map intRow)]
def csC (c : Cs) : List PV := [.sl 1 (c.rg.map llRow), .sl 1 (c.at'.map intRow), .sl 1 (c.rn.map intRow), .sl 1 (c.wd.map intRow), .int .u8 c.ax]
def Cs.n (c : Cs) : Nat := c.ax % 4
theorem b28 (c : Cs) (h : c.ax < 256) : Best Tryd.prog 28 [.agg (csC c)] (.p (.int .i64 c.n)) := by
  refine best mixed fn28 ok28 (by simp) ?_
  obtain ⟨rg, at', rn, wd, ax⟩ := c
  dsimp only at h
  have w : R (ax : Int) := ⟨by omega, by omega⟩
  have e : (ax : Int).tmod 4 = ((ax % 4 : Nat) : Int) := (Int.ofNat_tmod ax 4).symm
  have e' : (ax : Int).tmod 4 = (ax : Int) % 4 := by rw [e]; omega
  simp -dsimp [ac28, csC, wr w, Cs.n, e']
theorem Cs.n_le (c : Cs) : c.n ≤ 3 := by unfold Cs.n; omega
def Cs.regs (c : Cs) : List (List T3) := (c.rg.take 4).map fun l => madeReg l c.n
theorem oneR (x : List T3) : ([regRow x].all fun r => r.all PV.one) = true := rfl
theorem regs_ok (c : Cs) : ∀ r ∈ c.regs, RI r c.n := by
  intro r hr
  simp only [Cs.regs, List.mem_map] at hr
  obtain ⟨l, _, rfl⟩ := hr
  have := c.n_le
  exact ⟨by omega, by omega, by rw [madeReg_len], madeReg_ok l c.n⟩
theorem regs_len (c : Cs) : c.regs.length = min 4 c.rg.length := by simp [Cs.regs]
theorem b27 (c : Cs) (h : c.ax < 256) : Best Tryd.prog 27 [.agg (csC c)] (.own (fun s => .ref s 1 0 c.regs.length) (.sl 42 1 (c.regs.map regRow))) := by
  refine best mixed fn27 ok27 (by simp) ?_
  have h28 := b28 c h
  have hn := c.n_le
  have hlen := regs_len c
  have hreg : ∀ k x, k < 4 → c.rg[k]? = some x → (c.regs.take (k + 1)) = c.regs.take k ++ [madeReg x c.n] := fun k x hk hx => by
    rw [List.take_add_one]
    congr 1
    simp only [Cs.regs, List.getElem?_map, List.getElem?_take, if_pos hk, hx, Option.map_some, Option.toList_some]
  have h21 := fun x => b21 x c.n (by omega)
  generalize c.regs = rs at *
  generalize c.n = n at *
  obtain ⟨rg, at', rn, wd, ax⟩ := c
  dsimp only at *
  simp -dsimp [csC] at h28
  simp -dsimp [ac27, csC]
  refine loopC (min 4 rg.length) (fun k => ⟨[(1, .ptr (1, 0) 5 0 0), (3, .ref (26, k) 1 0 k), (4, .p (.int .i64 k))], [((1, 0), .box [.p (.sl 1 (rg.map llRow)), .p (.sl 1 (at'.map intRow)), .p (.sl 1 (rn.map intRow)), .p (.sl 1 (wd.map intRow)), .p (.int .u8 ax)]), ((26, k), .sl 42 1 ((rs.take k).map regRow))]⟩) (fun _ => True) (fun k hk _ => ?_) trivial (by simp)
  by_cases hkl : k < min 4 rg.length
  · have hk1 : k < rg.length := by omega
    have hk4 : (k : Int) < 4 := by omega
    have hk4' : k < 4 := by omega
    have w : R ((k : Int) + 1) := ⟨by omega, by omega⟩
    obtain ⟨x, ex⟩ : ∃ x, rg[k] = x := ⟨_, rfl⟩
    have hx : rg[k]? = some x := by rw [List.getElem?_eq_getElem hk1, ex]
    have hs := hreg k x hk4' hx
    have h21 := h21 x
    generalize madeReg x n = y at *
    have hl2 : (rs.take k).length = k := by simp; omega
    have hmax : k + 1 ≤ maxLen := by unfold maxLen; omega
    have hby : (k + 1) * 24 ≤ 140737488355328 := by omega
    simp -dsimp [hk1, hk4, hk4', ex, llRow]
    refine call_p h28 (by simp [llRow]) (by simp) ?_
    simp -dsimp
    refine call_p h21 (by simp) (by simp) ?_
    have hmin : min k rs.length = k := by omega
    have hs' : List.take (k + 1) (rs.map regRow) = List.take k (rs.map regRow) ++ [[.sl 3 (y.map tRow)]] := by
      rw [← List.map_take, hs, List.map_append, List.map_take]; rfl
    have hkl' : k < 4 ∧ k < rg.length := by omega
    simp -dsimp [List.range, List.range.loop, hl2, hmax, hby, hmin, hs', hkl', wr w]
    exact hkl
  · have hk' : k = min 4 rg.length := by omega
    have hc : ¬ (k < rg.length ∧ (k : Int) < 4) := by omega
    have hrs : rs.take k = rs := List.take_of_length_le (by omega)
    have hkr : k = rs.length := by omega
    by_cases hk1 : k < rg.length
    · have hk4 : ¬ (k : Int) < 4 := by omega
      simp -dsimp [hk1, hk4, hrs]
      exact ⟨okV_ref 1 0 _, hkr⟩
    · simp -dsimp [hk1, hrs]
      exact ⟨okV_ref 1 0 _, hkr⟩
end Go.Abs.A09
namespace Go.Proofs.YtnonjaonklngpaaDoor
open Go Go.Abs Go.ChangeShapes Go.WideShapes Go.RowKit Go.Proofs Go.Abs.A09
set_option maxRecDepth 100000
set_option linter.unusedVariables false

theorem Rd.to {P : Program} {w : World} {t : TypeId} {α β : Type} {f : α → List PV} {g : β → List PV} {ok : α → Prop} {ok' : β → Prop} (h : α → β) (hf : ∀ a, ok a → f a = g (h a)) (hk : ∀ a, ok a → ok' (h a)) (r : Rd P w t f ok) : Rd P w t g ok' := by
  intro H en base sp hd fuel cs x hx
  obtain ⟨a, ha, h2⟩ := r H en base sp hd fuel cs x hx
  exact ⟨h a, hk a ha, by rw [← hf a ha]; exact h2⟩
theorem wfR {n : Int} (h : (Lit.int .i64 n).wf = true) : R n := by
  simp [Lit.wf, IntKind.min, IntKind.max, IntKind.bits, IntKind.signed] at h
  exact ⟨by omega, by omega⟩
variable {w : World}
theorem rd_int : Rd Tryd.prog w 3 (fun n : Int => [.int .i64 n]) fun n => R n := Rd.to id (fun _ _ => rfl) (fun _ h => wfR h) (Rd.int Tryd.underlying3)
theorem rd_ints : Rd Tryd.prog w 25 (fun l : List Int => [.sl 1 (l.map intRow)]) fun l => (∀ a ∈ l, R a) ∧ l.length ≤ maxLen :=
  Rd.slice Tryd.underlying25 (by kernel_rfl) rd_int fun _ => rfl
theorem rd_tent : Rd Tryd.prog w 71 tRow fun _ => True := by
  have h : RdF Tryd.prog w [{ name := "From", type := 3, offset := 0, embedded := false, tag := "", pkgPath := "", byteOffset := 0 }, { name := "Peak", type := 3, offset := 1, embedded := false, tag := "", pkgPath := "", byteOffset := 8 }, { name := "To", type := 3, offset := 2, embedded := false, tag := "", pkgPath := "", byteOffset := 16 }] _ _ := (RdF.cons rd_int (RdF.cons rd_int (RdF.cons rd_int RdF.nil)))
  have k := Rd.struct (t := 71) Tryd.underlying71 (by kernel_rfl) h
  exact Rd.to (fun x : Int × Int × Int × Unit => ⟨x.1, x.2.1, x.2.2.1⟩) (fun _ _ => rfl) (fun _ _ => trivial) k
theorem rd_tents : Rd Tryd.prog w 40 (fun l : List T3 => [.sl 3 (l.map tRow)]) fun l => (∀ a ∈ l, True) ∧ l.length ≤ maxLen :=
  Rd.slice Tryd.underlying40 (by kernel_rfl) rd_tent fun _ => rfl
theorem rd_region : Rd Tryd.prog w 42 (fun l : List T3 => [.sl 3 (l.map tRow)]) fun l => (∀ a ∈ l, True) ∧ l.length ≤ maxLen :=
  Rd.struct1 Tryd.underlying42 rfl (by kernel_rfl) rd_tents
theorem rd_pair : Rd Tryd.prog w 30 pRow fun x => R x.1 ∧ R x.2 := Rd.to id (fun _ _ => rfl) (fun _ h => h) (Rd.arr2 Tryd.underlying30 (sz := 1) (by kernel_rfl) (by kernel_rfl) rd_int)
theorem rd_pairs : Rd Tryd.prog w 22 (fun l : List (Int × Int) => [.sl 2 (l.map pRow)]) fun l => (∀ x ∈ l, R x.1 ∧ R x.2) ∧ l.length ≤ maxLen :=
  Rd.slice Tryd.underlying22 (by kernel_rfl) rd_pair fun _ => rfl
theorem rd_grow : Rd Tryd.prog w 60 pRow fun x => R x.1 ∧ R x.2 := by
  have h : RdF Tryd.prog w [{ name := "Region", type := 3, offset := 0, embedded := false, tag := "", pkgPath := "", byteOffset := 0 }, { name := "By", type := 3, offset := 1, embedded := false, tag := "", pkgPath := "", byteOffset := 8 }] _ _ := (RdF.cons rd_int (RdF.cons rd_int RdF.nil))
  have k := Rd.struct (t := 60) Tryd.underlying60 (by kernel_rfl) h
  exact Rd.to (fun x : Int × Int × Unit => (x.1, x.2.1)) (fun _ _ => rfl) (fun _ h => ⟨h.1, h.2.1⟩) k
theorem rd_grows : Rd Tryd.prog w 53 (fun l : List (Int × Int) => [.sl 2 (l.map pRow)]) fun l => (∀ x ∈ l, R x.1 ∧ R x.2) ∧ l.length ≤ maxLen :=
  Rd.slice Tryd.underlying53 (by kernel_rfl) rd_grow fun _ => rfl
theorem rd_lists : Rd Tryd.prog w 54 (fun l : List (List Int) => [.sl 1 (l.map llRow)]) fun l => (∀ x ∈ l, (∀ a ∈ x, R a) ∧ x.length ≤ maxLen) ∧ l.length ≤ maxLen :=
  Rd.slice Tryd.underlying54 (by kernel_rfl) rd_ints fun _ => rfl
structure CsOk (c : Cs) : Prop where
  ax : c.ax < 256
  rg : c.rg.length ≤ maxLen
  at' : c.at'.length ≤ maxLen
  rn : c.rn.length ≤ maxLen
  wd : c.wd.length ≤ maxLen
  aR : ∀ a ∈ c.at', R a
  wR : ∀ a ∈ c.wd, R a
theorem rd_case : Rd Tryd.prog w 56 csC CsOk := by
  have h : RdF Tryd.prog w [{ name := "Regions", type := 54, offset := 0, embedded := false, tag := "", pkgPath := "", byteOffset := 0 }, { name := "At", type := 25, offset := 1, embedded := false, tag := "", pkgPath := "", byteOffset := 24 }, { name := "Ranges", type := 25, offset := 2, embedded := false, tag := "", pkgPath := "", byteOffset := 48 }, { name := "Wide", type := 25, offset := 3, embedded := false, tag := "", pkgPath := "", byteOffset := 72 }, { name := "Axes", type := 5, offset := 4, embedded := false, tag := "", pkgPath := "", byteOffset := 96 }] _ _ := (RdF.cons rd_lists (RdF.cons rd_ints (RdF.cons rd_ints (RdF.cons rd_ints (RdF.cons (Rd.int Tryd.underlying5) RdF.nil)))))
  have wf8 : ∀ {n : Int}, (Lit.int .u8 n).wf = true → 0 ≤ n ∧ n < 256 := fun h => by
    simp [Lit.wf, IntKind.min, IntKind.max, IntKind.bits, IntKind.signed] at h
    omega
  refine Rd.to (fun x => ⟨x.1, x.2.1, x.2.2.1, x.2.2.2.1, x.2.2.2.2.1.toNat⟩) (fun x hx => ?_) (fun x hx => ?_) (Rd.struct (t := 56) Tryd.underlying56 (by kernel_rfl) h)
  · obtain ⟨_, _, _, _, h5, _⟩ := hx
    have := wf8 h5
    simp only [csC, List.append_nil, List.cons_append, List.nil_append]
    rw [Int.toNat_of_nonneg this.1]
  · obtain ⟨h1, h2, h3, h4, h5, _⟩ := hx
    have := wf8 h5
    exact ⟨by show x.2.2.2.2.1.toNat < 256; omega, h1.2, h2.2, h3.2, h4.2, h2.1, h4.1⟩
theorem wf8N {n : Int} (h : (Lit.int .u8 n).wf = true) : 0 ≤ n ∧ n < 256 := by
  simp [Lit.wf, IntKind.min, IntKind.max, IntKind.bits, IntKind.signed] at h
  omega
theorem rd_u8 : Rd Tryd.prog w 5 (fun n : Nat => [.int .u8 n]) fun n => n < 256 :=
  Rd.to Int.toNat (fun n h => by have := wf8N h; rw [Int.toNat_of_nonneg this.1]) (fun n h => by have := wf8N h; omega) (Rd.int Tryd.underlying5)
theorem wf16 {n : Int} (h : (Lit.int .i16 n).wf = true) : -32768 ≤ n ∧ n ≤ 32767 := by
  simp [Lit.wf, IntKind.min, IntKind.max, IntKind.bits, IntKind.signed] at h
  omega
theorem rd_i16 : Rd Tryd.prog w 76 (fun n : Int => [.int .i16 n]) fun n => -32768 ≤ n ∧ n ≤ 32767 :=
  Rd.to id (fun _ _ => rfl) (fun n h => wf16 h) (Rd.int Tryd.underlying76)
theorem rd_grows2 : Rd Tryd.prog w 77 (fun x : List (Int × Int) × List (Int × Int) => [.sl 2 (x.1.map pRow), .sl 2 (x.2.map pRow)]) fun x => ((∀ y ∈ x.1, R y.1 ∧ R y.2) ∧ x.1.length ≤ maxLen) ∧ ((∀ y ∈ x.2, R y.1 ∧ R y.2) ∧ x.2.length ≤ maxLen) :=
  Rd.to id (fun _ _ => rfl) (fun _ h => h) (Rd.arr2 Tryd.underlying77 (sz := 1) (by kernel_rfl) (by kernel_rfl) rd_grows)
theorem rd_int3 : Rd Tryd.prog w 26 (fun x : Int × Int × Int => [.int .i64 x.1, .int .i64 x.2.1, .int .i64 x.2.2]) fun x => R x.1 ∧ R x.2.1 ∧ R x.2.2 :=
  Rd.to id (fun _ _ => rfl) (fun _ h => h) (Rd.arr3 Tryd.underlying26 (sz := 1) (by kernel_rfl) (by kernel_rfl) rd_int)
structure AxOk (a : Ax) : Prop where
  nm : a.nm.length ≤ maxLen
  lo : R a.lo
  df : R a.df
  hi : R a.hi
  m : a.m.length ≤ maxLen
  mR : ∀ x ∈ a.m, R x.1 ∧ R x.2
theorem rd_axis : Rd Tryd.prog w 24 axC AxOk := by
  have h : RdF Tryd.prog w [{ name := "Name", type := 9, offset := 0, embedded := false, tag := "", pkgPath := "", byteOffset := 0 }, { name := "Min", type := 3, offset := 1, embedded := false, tag := "", pkgPath := "", byteOffset := 16 }, { name := "Default", type := 3, offset := 2, embedded := false, tag := "", pkgPath := "", byteOffset := 24 }, { name := "Max", type := 3, offset := 3, embedded := false, tag := "", pkgPath := "", byteOffset := 32 }, { name := "Map", type := 22, offset := 4, embedded := false, tag := "", pkgPath := "", byteOffset := 40 }] _ _ := (RdF.cons (Rd.str Tryd.underlying9) (RdF.cons rd_int (RdF.cons rd_int (RdF.cons rd_int (RdF.cons rd_pairs RdF.nil)))))
  refine Rd.to (fun x => ⟨x.1.data.toList, x.2.1, x.2.2.1, x.2.2.2.1, x.2.2.2.2.1⟩) (fun x hx => ?_) (fun x hx => ?_) (Rd.struct (t := 24) Tryd.underlying24 (by kernel_rfl) h)
  · simp only [axC, List.append_nil, List.cons_append, List.nil_append, ← ba_eta]
  · obtain ⟨h1, h2, h3, h4, h5, _⟩ := hx
    exact ⟨by have := ba_size x.1.data.toList; rw [← ba_eta] at this; show x.1.data.toList.length ≤ maxLen; omega, h2, h3, h4, h5.2, h5.1⟩
end Go.Proofs.YtnonjaonklngpaaDoor
namespace Go.Proofs.YtnonjaonklngpaaDoor
open Go Go.Abs Go.ChangeShapes Go.WideShapes Go.RowKit Go.Proofs Go.Abs.A09
set_option maxRecDepth 100000
set_option linter.unusedVariables false
theorem axesChecks_lifted (os : Os) (started : os.Started) (H : Type) (enc : TypeId × Value → H) :
    ReturnsInHanded {} Tryd.checked os 3 .any (fun w args => (Rows.axesChecksSpec.pre enc Tryd.prog Tryd.f3 [] false w args ∧ laidMetH Tryd.prog laidL w) ∧ sizedMet enc Tryd.prog Tryd.f3 (OpenSpec.ofChange Rows.axesChecksSpec) false w args)
      (Rows.axesChecksSpec.post enc Tryd.prog Tryd.f3 false true false false) := by
  refine returnsInHanded_of_change_and (C := Tryd.checked) (X := fun w _ => laidMetH Tryd.prog laidL w) (fun _ _ _ hh h => h.of_heap hh) own started (by kernel_rfl) Tryd.func3
    (ChangeSpec.witness_at (enc := enc) (C := Tryd.checked) (os := os) (X := fun w _ => laidMetH Tryd.prog laidL w) false (laidWorld os) #[.agg #[.string ByteArray.empty, .int .i64 0, .int .i64 0, .int .i64 0, .slice none 0 0], .slice none 0 0, .agg #[.int .i64 0, .int .i64 0, .int .i64 0]] 8 rfl (by kernel_rfl) (by kernel_rfl) (by kernel_rfl) (by kernel_rfl) (by kernel_rfl) (laid_metH os _)) ?_
  intro W base args ds gs before hval hW _ _ _ _
  have hW' := hW
  obtain ⟨p, q, hA, hV, -, -, -⟩ := hW'
  have hA : DataW.TrodAll enc Tryd.prog W 0 (fun _ => true) true Tryd.f3.params.toList args.toList ds p := hA
  rw [Tryd.params3] at hA
  have hval : ∀ (j : Nat) t v, Tryd.f3.params[j]? = some t → args[j]? = some v → Value.okWide Tryd.prog W .any base t v := hval
  rw [Tryd.params3] at hval
  obtain ⟨v0, v1, v2, d0, d1, d2, p0, p1, p2, rfl, rfl, rfl, h0, h1, h2⟩ := trodAll_three hA
  obtain ⟨a0, o0, r0⟩ := Rd.argT Tryd.underlying24 rd_axis (hval 0 24 v0 rfl rfl) h0
  obtain ⟨a1, o1, r1⟩ := Rd.argS Tryd.underlying25 rd_ints (hval 1 25 v1 rfl rfl) h1
  obtain ⟨a2, o2, r2⟩ := Rd.argA Tryd.underlying26 rd_int3 (hval 2 26 v2 rfl rfl) h2
  exact law_step rfl rfl hW rfl (by decide +kernel) (b3 a0 a1 a2.1 a2.2.1 a2.2.2 ⟨by have := o0.nm; unfold maxLen at this; omega, by have := o0.m; unfold maxLen at this; omega⟩) (Ps.cons r0 (Ps.cons r1 (Ps.one r2)))
theorem axesChecks_holds : Rows.AxesChecksSaid :=
  OpenClaim.holds_of_wide 3 Tryd.f3 rfl rfl rfl rfl rfl rfl rfl ⟨rfl, rfl, rfl, rfl, rfl⟩ rfl rfl rfl rfl rfl (by kernel_rfl) Tryd.func3 (by kernel_rfl)
    (of_decide_eq_true (by kernel_rfl)) (by unfold Func.isWrapper; rw [if_neg (of_decide_eq_false (by kernel_rfl))]; exact ⟨rfl, rfl⟩)
    (fun os started H enc _ => axesChecks_lifted os started H enc)
theorem axesChecks_card : Rows.AxesChecksCardSaid :=
  Claim7.holds_tied_plain_at .later [] [.data, .pinned] true (true, "a6bb7e9ee7f2422d58a2694b4d874e292dd26c601e4065298115dda05adcd7bf") false
    axesChecks_holds (fun _ h => by cases h) (by kernel_rfl) (fun _ h => by cases h) axesChecks_row_tie rfl ⟨rfl, rfl⟩ (by kernel_rfl) rfl
    (fun f fn hf hfn => by
      obtain rfl : f = 3 := Option.some.inj ((show Tryd.prog.funcNamed "abugida/abugidalaw09.AxesChecks" = some 3 by kernel_rfl).symm.trans hf) |>.symm
      obtain rfl : fn = Tryd.f3 := (Option.some.inj (Tryd.func3.symm.trans hfn)).symm
      exact ⟨by kernel_rfl, fun j t ht => by
        rw [Tryd.params3] at ht
        have hm : t ∈ [24, 25, 26] := by
          have := List.mem_of_getElem? (l := [24, 25, 26]) (i := j) (by simpa using ht)
          exact this
        simp only [List.mem_cons, List.mem_nil_iff, or_false] at hm
        rcases hm with rfl | rfl | rfl
        · exact (show Tryd.prog.wantsStandIn 24 = false by kernel_rfl)
        · exact (show Tryd.prog.wantsStandIn 25 = false by kernel_rfl)
        · exact (show Tryd.prog.wantsStandIn 26 = false by kernel_rfl)
        ⟩)
    (by kernel_rfl)
#print axioms axesChecks_card
end Go.Proofs.YtnonjaonklngpaaDoor
