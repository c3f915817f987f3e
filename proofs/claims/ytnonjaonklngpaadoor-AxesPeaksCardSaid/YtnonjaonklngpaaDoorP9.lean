/- Proved: the law AxesPeaks returns true for every input, and its arguments read behind the call as they did; no condition beyond the given card. -/
import Derived.Test.YtnonjaonklngpaaDoorP8
namespace Go.Proofs.YtnonjaonklngpaaDoor
open Go Go.Abs Go.ChangeShapes Go.WideShapes Go.RowKit Go.Proofs Go.Abs.A09
set_option maxRecDepth 100000
set_option linter.unusedVariables false
theorem axesPeaks_lifted (os : Os) (started : os.Started) (H : Type) (enc : TypeId × Value → H) :
    ReturnsInHanded {} Tryd.checked os 8 .any (fun w args => (Rows.axesPeaksSpec.pre enc Tryd.prog Tryd.f8 [] false w args ∧ laidMetH Tryd.prog laidL w) ∧ sizedMet enc Tryd.prog Tryd.f8 (OpenSpec.ofChange Rows.axesPeaksSpec) false w args)
      (Rows.axesPeaksSpec.post enc Tryd.prog Tryd.f8 false true false false) := by
  refine returnsInHanded_of_change_and (C := Tryd.checked) (X := fun w _ => laidMetH Tryd.prog laidL w) (fun _ _ _ hh h => h.of_heap hh) own started (by kernel_rfl) Tryd.func8
    (ChangeSpec.witness_at (enc := enc) (C := Tryd.checked) (os := os) (X := fun w _ => laidMetH Tryd.prog laidL w) false (laidWorld os) #[.agg #[.slice none 0 0, .slice none 0 0, .slice none 0 0, .slice none 0 0, .int .u8 0], .int .u8 0] 8 rfl (by kernel_rfl) (by kernel_rfl) (by kernel_rfl) (by kernel_rfl) (by kernel_rfl) (laid_metH os _)) ?_
  intro W base args ds gs before hval hW _ _ _ _
  have hW' := hW
  obtain ⟨p, q, hA, hV, -, -, -⟩ := hW'
  have hA : DataW.TrodAll enc Tryd.prog W 0 (fun _ => true) true Tryd.f8.params.toList args.toList ds p := hA
  rw [Tryd.params8] at hA
  have hval : ∀ (j : Nat) t v, Tryd.f8.params[j]? = some t → args[j]? = some v → Value.okWide Tryd.prog W .any base t v := hval
  rw [Tryd.params8] at hval
  obtain ⟨v0, v1, d0, d1, p0, p1, rfl, rfl, rfl, h0, h1⟩ := trodAll_two hA
  obtain ⟨a0, o0, r0⟩ := Rd.argT Tryd.underlying56 rd_case (hval 0 56 v0 rfl rfl) h0
  obtain ⟨a1, o1, r1⟩ := Rd.argI Tryd.underlying5 rd_u8 (hval 1 5 v1 rfl rfl) h1
  exact law_step rfl rfl hW rfl (by decide +kernel) (b8 a0 a1 o0.ax o1) (Ps.cons r0 (Ps.one r1))
theorem axesPeaks_holds : Rows.AxesPeaksSaid :=
  OpenClaim.holds_of_wide 8 Tryd.f8 rfl rfl rfl rfl rfl rfl rfl ⟨rfl, rfl, rfl, rfl, rfl⟩ rfl rfl rfl rfl rfl (by kernel_rfl) Tryd.func8 (by kernel_rfl)
    (of_decide_eq_true (by kernel_rfl)) (by unfold Func.isWrapper; rw [if_neg (of_decide_eq_false (by kernel_rfl))]; exact ⟨rfl, rfl⟩)
    (fun os started H enc _ => axesPeaks_lifted os started H enc)
theorem axesPeaks_card : Rows.AxesPeaksCardSaid :=
  Claim7.holds_tied_plain_at .later [] [.data, .pinned] true (true, "a6bb7e9ee7f2422d58a2694b4d874e292dd26c601e4065298115dda05adcd7bf") false
    axesPeaks_holds (fun _ h => by cases h) (by kernel_rfl) (fun _ h => by cases h) axesPeaks_row_tie rfl ⟨rfl, rfl⟩ (by kernel_rfl) rfl
    (fun f fn hf hfn => by
      obtain rfl : f = 8 := Option.some.inj ((show Tryd.prog.funcNamed "abugida/abugidalaw09.AxesPeaks" = some 8 by kernel_rfl).symm.trans hf) |>.symm
      obtain rfl : fn = Tryd.f8 := (Option.some.inj (Tryd.func8.symm.trans hfn)).symm
      exact ⟨by kernel_rfl, fun j t ht => by
        rw [Tryd.params8] at ht
        have hm : t ∈ [56, 5] := by
          have := List.mem_of_getElem? (l := [56, 5]) (i := j) (by simpa using ht)
          exact this
        simp only [List.mem_cons, List.mem_nil_iff, or_false] at hm
        rcases hm with rfl | rfl
        · exact (show Tryd.prog.wantsStandIn 56 = false by kernel_rfl)
        · exact (show Tryd.prog.wantsStandIn 5 = false by kernel_rfl)
        ⟩)
    (by kernel_rfl)
#print axioms axesPeaks_card
end Go.Proofs.YtnonjaonklngpaaDoor
