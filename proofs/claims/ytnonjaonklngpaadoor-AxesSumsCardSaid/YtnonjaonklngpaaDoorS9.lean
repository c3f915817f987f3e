/- Proved: the law AxesSums returns true for every input, and its arguments read behind the call as they did; no condition beyond the given card. -/
import Derived.Test.YtnonjaonklngpaaDoorS8
namespace Go.Proofs.YtnonjaonklngpaaDoor
open Go Go.Abs Go.ChangeShapes Go.WideShapes Go.RowKit Go.Proofs Go.Abs.A09
set_option maxRecDepth 100000
set_option linter.unusedVariables false
theorem axesSums_lifted (os : Os) (started : os.Started) (H : Type) (enc : TypeId × Value → H) :
    ReturnsInHanded {} Tryd.checked os 6 .any (fun w args => (Rows.axesSumsSpec.pre enc Tryd.prog Tryd.f6 [] false w args ∧ laidMetH Tryd.prog laidL w) ∧ sizedMet enc Tryd.prog Tryd.f6 (OpenSpec.ofChange Rows.axesSumsSpec) false w args)
      (Rows.axesSumsSpec.post enc Tryd.prog Tryd.f6 false true false false) := by
  refine returnsInHanded_of_change_and (C := Tryd.checked) (X := fun w _ => laidMetH Tryd.prog laidL w) (fun _ _ _ hh h => h.of_heap hh) own started (by kernel_rfl) Tryd.func6
    (ChangeSpec.witness_at (enc := enc) (C := Tryd.checked) (os := os) (X := fun w _ => laidMetH Tryd.prog laidL w) false (laidWorld os) #[.int .i64 0, .slice none 0 0, .agg #[.slice none 0 0, .slice none 0 0, .slice none 0 0, .slice none 0 0, .int .u8 0]] 8 rfl (by kernel_rfl) (by kernel_rfl) (by kernel_rfl) (by kernel_rfl) (by kernel_rfl) (laid_metH os _)) ?_
  intro W base args ds gs before hval hW _ _ _ _
  have hW' := hW
  obtain ⟨p, q, hA, hV, -, -, -⟩ := hW'
  have hA : DataW.TrodAll enc Tryd.prog W 0 (fun _ => true) true Tryd.f6.params.toList args.toList ds p := hA
  rw [Tryd.params6] at hA
  have hval : ∀ (j : Nat) t v, Tryd.f6.params[j]? = some t → args[j]? = some v → Value.okWide Tryd.prog W .any base t v := hval
  rw [Tryd.params6] at hval
  obtain ⟨v0, v1, v2, d0, d1, d2, p0, p1, p2, rfl, rfl, rfl, h0, h1, h2⟩ := trodAll_three hA
  obtain ⟨a0, o0, r0⟩ := Rd.argI Tryd.underlying3 rd_int (hval 0 3 v0 rfl rfl) h0
  obtain ⟨a1, o1, r1⟩ := Rd.argS Tryd.underlying53 rd_grows (hval 1 53 v1 rfl rfl) h1
  obtain ⟨a2, o2, r2⟩ := Rd.argT Tryd.underlying56 rd_case (hval 2 56 v2 rfl rfl) h2
  exact law_step rfl rfl hW rfl (by decide +kernel) (b6 a0 a1 a2 o2.ax o0 (by have := o1.2; unfold maxLen at this; omega) (by have := o2.at'; unfold maxLen at this; omega)) (Ps.cons r0 (Ps.cons r1 (Ps.one r2)))
theorem axesSums_holds : Rows.AxesSumsSaid :=
  OpenClaim.holds_of_wide 6 Tryd.f6 rfl rfl rfl rfl rfl rfl rfl ⟨rfl, rfl, rfl, rfl, rfl⟩ rfl rfl rfl rfl rfl (by kernel_rfl) Tryd.func6 (by kernel_rfl)
    (of_decide_eq_true (by kernel_rfl)) (by unfold Func.isWrapper; rw [if_neg (of_decide_eq_false (by kernel_rfl))]; exact ⟨rfl, rfl⟩)
    (fun os started H enc _ => axesSums_lifted os started H enc)
theorem axesSums_card : Rows.AxesSumsCardSaid :=
  Claim7.holds_tied_plain_at .later [] [.data, .pinned] true (true, "a6bb7e9ee7f2422d58a2694b4d874e292dd26c601e4065298115dda05adcd7bf") false
    axesSums_holds (fun _ h => by cases h) (by kernel_rfl) (fun _ h => by cases h) axesSums_row_tie rfl ⟨rfl, rfl⟩ (by kernel_rfl) rfl
    (fun f fn hf hfn => by
      obtain rfl : f = 6 := Option.some.inj ((show Tryd.prog.funcNamed "abugida/abugidalaw09.AxesSums" = some 6 by kernel_rfl).symm.trans hf) |>.symm
      obtain rfl : fn = Tryd.f6 := (Option.some.inj (Tryd.func6.symm.trans hfn)).symm
      exact ⟨by kernel_rfl, fun j t ht => by
        rw [Tryd.params6] at ht
        have hm : t ∈ [3, 53, 56] := by
          have := List.mem_of_getElem? (l := [3, 53, 56]) (i := j) (by simpa using ht)
          exact this
        simp only [List.mem_cons, List.mem_nil_iff, or_false] at hm
        rcases hm with rfl | rfl | rfl
        · exact (show Tryd.prog.wantsStandIn 3 = false by kernel_rfl)
        · exact (show Tryd.prog.wantsStandIn 53 = false by kernel_rfl)
        · exact (show Tryd.prog.wantsStandIn 56 = false by kernel_rfl)
        ⟩)
    (by kernel_rfl)
#print axioms axesSums_card
end Go.Proofs.YtnonjaonklngpaaDoor
