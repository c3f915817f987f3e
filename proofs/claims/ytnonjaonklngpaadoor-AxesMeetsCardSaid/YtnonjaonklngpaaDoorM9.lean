/- Proved: the law AxesMeets returns true for every input, and its arguments read behind the call as they did; no condition beyond the given card. -/
import Derived.Test.YtnonjaonklngpaaDoorM8
namespace Go.Proofs.YtnonjaonklngpaaDoor
open Go Go.Abs Go.ChangeShapes Go.WideShapes Go.RowKit Go.Proofs Go.Abs.A09
set_option maxRecDepth 100000
set_option linter.unusedVariables false
theorem axesMeets_lifted (os : Os) (started : os.Started) (H : Type) (enc : TypeId × Value → H) :
    ReturnsInHanded {} Tryd.checked os 9 .any (fun w args => (Rows.axesMeetsSpec.pre enc Tryd.prog Tryd.f9 [] false w args ∧ laidMetH Tryd.prog laidL w) ∧ sizedMet enc Tryd.prog Tryd.f9 (OpenSpec.ofChange Rows.axesMeetsSpec) false w args)
      (Rows.axesMeetsSpec.post enc Tryd.prog Tryd.f9 false true false false) := by
  refine returnsInHanded_of_change_and (C := Tryd.checked) (X := fun w _ => laidMetH Tryd.prog laidL w) (fun _ _ _ hh h => h.of_heap hh) own started (by kernel_rfl) Tryd.func9
    (ChangeSpec.witness_at (enc := enc) (C := Tryd.checked) (os := os) (X := fun w _ => laidMetH Tryd.prog laidL w) false (laidWorld os) #[.agg #[.slice none 0 0, .slice none 0 0, .slice none 0 0, .slice none 0 0, .int .u8 0]] 8 rfl (by kernel_rfl) (by kernel_rfl) (by kernel_rfl) (by kernel_rfl) (by kernel_rfl) (laid_metH os _)) ?_
  intro W base args ds gs before hval hW _ _ _ _
  have hW' := hW
  obtain ⟨p, q, hA, hV, -, -, -⟩ := hW'
  have hA : DataW.TrodAll enc Tryd.prog W 0 (fun _ => true) true Tryd.f9.params.toList args.toList ds p := hA
  rw [Tryd.params9] at hA
  have hval : ∀ (j : Nat) t v, Tryd.f9.params[j]? = some t → args[j]? = some v → Value.okWide Tryd.prog W .any base t v := hval
  rw [Tryd.params9] at hval
  obtain ⟨v0, d0, rfl, rfl, h0⟩ := trodAll_one hA
  obtain ⟨a0, o0, r0⟩ := Rd.argT Tryd.underlying56 rd_case (hval 0 56 v0 rfl rfl) h0
  exact law_step rfl rfl hW rfl (by decide +kernel) (b9 a0 o0.ax (by have := o0.wd; unfold maxLen at this; omega)) (Ps.one r0)
theorem axesMeets_holds : Rows.AxesMeetsSaid :=
  OpenClaim.holds_of_wide 9 Tryd.f9 rfl rfl rfl rfl rfl rfl rfl ⟨rfl, rfl, rfl, rfl, rfl⟩ rfl rfl rfl rfl rfl (by kernel_rfl) Tryd.func9 (by kernel_rfl)
    (of_decide_eq_true (by kernel_rfl)) (by unfold Func.isWrapper; rw [if_neg (of_decide_eq_false (by kernel_rfl))]; exact ⟨rfl, rfl⟩)
    (fun os started H enc _ => axesMeets_lifted os started H enc)
theorem axesMeets_card : Rows.AxesMeetsCardSaid :=
  Claim7.holds_tied_plain_at .later [] [.data, .pinned] true (true, "a6bb7e9ee7f2422d58a2694b4d874e292dd26c601e4065298115dda05adcd7bf") false
    axesMeets_holds (fun _ h => by cases h) (by kernel_rfl) (fun _ h => by cases h) axesMeets_row_tie rfl ⟨rfl, rfl⟩ (by kernel_rfl) rfl
    (fun f fn hf hfn => by
      obtain rfl : f = 9 := Option.some.inj ((show Tryd.prog.funcNamed "abugida/abugidalaw09.AxesMeets" = some 9 by kernel_rfl).symm.trans hf) |>.symm
      obtain rfl : fn = Tryd.f9 := (Option.some.inj (Tryd.func9.symm.trans hfn)).symm
      exact ⟨by kernel_rfl, fun j t ht => by
        rw [Tryd.params9] at ht
        have hm : t ∈ [56] := by
          have := List.mem_of_getElem? (l := [56]) (i := j) (by simpa using ht)
          exact this
        simp only [List.mem_cons, List.mem_nil_iff, or_false] at hm
        rcases hm with rfl
        · exact (show Tryd.prog.wantsStandIn 56 = false by kernel_rfl)
        ⟩)
    (by kernel_rfl)
#print axioms axesMeets_card
end Go.Proofs.YtnonjaonklngpaaDoor
