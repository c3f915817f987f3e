/- Proved: the law AxesRegions returns true for every input, and its arguments read behind the call as they did; no condition beyond the given card. -/
import Derived.Test.YtnonjaonklngpaaDoorR8
import Derived.Test.YtnonjaonklngpaaDoorCards
import Derived.Test.YtnonjaonklngpaaDoorTie
import Derived.SevenTiedAt
namespace Go.Proofs.YtnonjaonklngpaaDoor
open Go Go.Abs Go.ChangeShapes Go.WideShapes Go.RowKit Go.Proofs Go.Abs.A09
set_option maxRecDepth 100000
set_option linter.unusedVariables false

variable {w : World}
theorem rd_int : Rd Tryd.prog w 3 (fun n : Int => [.int .i64 n]) fun n => (Lit.int .i64 n).wf = true := Rd.int Tryd.underlying3
theorem rd_ints : Rd Tryd.prog w 25 (fun l : List Int => [.sl 1 (l.map intRow)]) fun l => (∀ a ∈ l, (Lit.int .i64 a).wf = true) ∧ l.length ≤ maxLen :=
  Rd.slice Tryd.underlying25 (by kernel_rfl) rd_int fun _ => rfl
theorem rd_tent : Rd Tryd.prog w 71 tRow fun _ => True := by
  have h : RdF Tryd.prog w [{ name := "From", type := 3, offset := 0, embedded := false, tag := "", pkgPath := "", byteOffset := 0 }, { name := "Peak", type := 3, offset := 1, embedded := false, tag := "", pkgPath := "", byteOffset := 8 }, { name := "To", type := 3, offset := 2, embedded := false, tag := "", pkgPath := "", byteOffset := 16 }] _ _ := (RdF.cons rd_int (RdF.cons rd_int (RdF.cons rd_int RdF.nil)))
  have := Rd.struct (t := 71) Tryd.underlying71 (by kernel_rfl) h
  intro H en base sp hd fuel cs x hx
  obtain ⟨⟨a, b, c, _⟩, _, h2⟩ := this H en base sp hd fuel cs x hx
  exact ⟨⟨a, b, c⟩, trivial, h2⟩
theorem rd_tents : Rd Tryd.prog w 40 (fun l : List T3 => [.sl 3 (l.map tRow)]) fun l => (∀ a ∈ l, True) ∧ l.length ≤ maxLen :=
  Rd.slice Tryd.underlying40 (by kernel_rfl) rd_tent fun _ => rfl
theorem rd_region : Rd Tryd.prog w 42 (fun l : List T3 => [.sl 3 (l.map tRow)]) fun l => (∀ a ∈ l, True) ∧ l.length ≤ maxLen :=
  Rd.struct1 Tryd.underlying42 rfl (by kernel_rfl) rd_tents
theorem rd_ints3 : Rd Tryd.prog w 43 (fun x : List Int × List Int × List Int => [.sl 1 (x.1.map intRow)] ++ ([.sl 1 (x.2.1.map intRow)] ++ [.sl 1 (x.2.2.map intRow)])) (fun x => ((∀ a ∈ x.1, (Lit.int .i64 a).wf = true) ∧ x.1.length ≤ maxLen) ∧ ((∀ a ∈ x.2.1, (Lit.int .i64 a).wf = true) ∧ x.2.1.length ≤ maxLen) ∧ ((∀ a ∈ x.2.2, (Lit.int .i64 a).wf = true) ∧ x.2.2.length ≤ maxLen)) := Rd.arr3 (sz := 1) Tryd.underlying43 (by kernel_rfl) (by kernel_rfl) (rd_ints (w := w))

theorem regions_lifted (os : Os) (started : os.Started) (H : Type) (enc : TypeId × Value → H) :
    ReturnsInHanded {} Tryd.checked os 5 .any (fun w args => (Rows.axesRegionsSpec.pre enc Tryd.prog Tryd.f5 [] false w args ∧ laidMetH Tryd.prog laidL w) ∧ sizedMet enc Tryd.prog Tryd.f5 (OpenSpec.ofChange Rows.axesRegionsSpec) false w args)
      (Rows.axesRegionsSpec.post enc Tryd.prog Tryd.f5 false true false false) := by
  refine returnsInHanded_of_change_and (C := Tryd.checked) (X := fun w _ => laidMetH Tryd.prog laidL w) (fun _ _ _ hh h => h.of_heap hh) own started (by kernel_rfl) Tryd.func5
    (ChangeSpec.witness_at (enc := enc) (C := Tryd.checked) (os := os) (X := fun w _ => laidMetH Tryd.prog laidL w) false (laidWorld os) #[.agg #[.slice none 0 0], .slice none 0 0, .agg #[.slice none 0 0, .slice none 0 0, .slice none 0 0]] 8 rfl (by kernel_rfl) (by kernel_rfl) (by kernel_rfl) (by kernel_rfl) (by kernel_rfl) (laid_metH os _)) ?_
  intro W base args ds gs before hval hW _ _ _ _
  have hW' := hW
  obtain ⟨p, q, hA, hV, -, -, -⟩ := hW'
  have hA : DataW.TrodAll enc Tryd.prog W 0 (fun _ => true) true Tryd.f5.params.toList args.toList ds p := hA
  rw [Tryd.params5] at hA
  have hval : ∀ (j : Nat) t v, Tryd.f5.params[j]? = some t → args[j]? = some v → Value.okWide Tryd.prog W .any base t v := hval
  rw [Tryd.params5] at hval
  obtain ⟨v0, v1, v2, d0, d1, d2, p0, p1, p2, rfl, rfl, rfl, h0, h1, h2⟩ := trodAll_three hA
  obtain ⟨raw, ⟨-, l0⟩, r0⟩ := Rd.argT Tryd.underlying42 rd_region (hval 0 42 v0 rfl rfl) h0
  obtain ⟨at', ⟨-, l1⟩, r1⟩ := Rd.argS Tryd.underlying25 rd_ints (hval 1 25 v1 rfl rfl) h1
  obtain ⟨⟨q0, q1, q2⟩, -, r2⟩ := Rd.argA Tryd.underlying43 rd_ints3 (hval 2 43 v2 rfl rfl) h2
  unfold maxLen at l0 l1
  exact law_step rfl rfl hW rfl (by decide +kernel) (b5 raw at' q0 q1 q2 (by omega) (by omega)) (Ps.cons r0 (Ps.cons r1 (Ps.one r2)))
theorem regions_holds : Rows.AxesRegionsSaid :=
  OpenClaim.holds_of_wide 5 Tryd.f5 rfl rfl rfl rfl rfl rfl rfl ⟨rfl, rfl, rfl, rfl, rfl⟩ rfl rfl rfl rfl rfl (by kernel_rfl) Tryd.func5 (by kernel_rfl)
    (of_decide_eq_true (by kernel_rfl)) (by unfold Func.isWrapper; rw [if_neg (of_decide_eq_false (by kernel_rfl))]; exact ⟨rfl, rfl⟩)
    (fun os started H enc _ => regions_lifted os started H enc)
theorem regions_card : Rows.AxesRegionsCardSaid :=
  Claim7.holds_tied_plain_at .later [] [.data, .pinned] true (true, "a6bb7e9ee7f2422d58a2694b4d874e292dd26c601e4065298115dda05adcd7bf") false
    regions_holds (fun _ h => by cases h) (by kernel_rfl) (fun _ h => by cases h) axesRegions_row_tie rfl ⟨rfl, rfl⟩ (by kernel_rfl) rfl
    (fun f fn hf hfn => by
      obtain rfl : f = 5 := Option.some.inj ((show Tryd.prog.funcNamed "abugida/abugidalaw09.AxesRegions" = some 5 by kernel_rfl).symm.trans hf) |>.symm
      obtain rfl : fn = Tryd.f5 := (Option.some.inj (Tryd.func5.symm.trans hfn)).symm
      exact ⟨by kernel_rfl, fun j t ht => by
        rw [Tryd.params5] at ht
        have h3 : t = 42 ∨ t = 25 ∨ t = 43 := by
          rcases j with _ | _ | _ | j
          · left; simpa using ht.symm
          · right; left; simpa using ht.symm
          · right; right; simpa using ht.symm
          · simp at ht
        rcases h3 with rfl | rfl | rfl
        · exact (show Tryd.prog.wantsStandIn 42 = false by kernel_rfl)
        · exact (show Tryd.prog.wantsStandIn 25 = false by kernel_rfl)
        · exact (show Tryd.prog.wantsStandIn 43 = false by kernel_rfl)⟩)
    (by kernel_rfl)
#print axioms regions_card
end Go.Proofs.YtnonjaonklngpaaDoor
