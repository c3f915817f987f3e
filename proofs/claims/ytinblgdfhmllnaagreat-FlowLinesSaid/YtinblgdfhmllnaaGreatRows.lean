/-
  No cell of these rows narrows 'for every input' (looked for: loops, veiled, ifaces, maps, wideKeys, modest, calm, conditions, laid).
  DERIVED. THE GIVEN ROWS OF THIS SEAT. 5 by the template 'for every input the law returns true; each argument reads behind the call as it read before'; 0 by the template 'total and deterministic' (their statements: YtinblgdfhmllnaaGreatTotals.lean).
  GIVEN WITH THE SEED: the statements are not yours to turn. If you find one false, say at which input.
  Laid BY PROGRAM, IN A SANDBOX (cutbox-rows.mjs): the forced cells as the released guide's own fill.sh prints them over the translation ce51ba5cdf2f87f4… (all of the seat's roots in one cut). By AI agents, Wed Nov 11 2026. No macro, syntax, notation, axiom, sorry.
-/
import Derived.Test.YtinblgdfhmllnaaGreatChecked
import GoSem.Claim
import GoSem.ClaimJoined
import GoSem.ClaimMapViews
import Derived.JoinedTies
import Derived.KernelRfl
namespace Go.Proofs.YtinblgdfhmllnaaGreat
/- THE CELL 'sum', in the pinned program and in every row, IS THE sha256 OF THE DUMP (.gsa) THAT YtinblgdfhmllnaaGreatProg.lean LOADS. Nothing in Lean hashes anything: it is a label: what it is worth is what the hold of that sum in a sandbox is worth. -/
noncomputable def Tryz.pinned : Pinned := { name := "ytinblgdfhmllnaagreat", sum := "ce51ba5cdf2f87f4f2f9962e3ab412e29ae928ee02d012929ba4c9f09336fb57", checked := Tryz.checked }
namespace Rows
def none {H : Type} : Left H := { results := [], args := [] }

/-- 'abugidalaw29.FlowFonts': WHATEVER THE INPUT: true; the input reads as it did. -/
def flowFontsSpec : ChangeSpec := { name := "flowFonts", fn := fun _ => fun
  | [d1, d2, d3] => { results := [.lit (.bool true)], args := [d1, d2, d3] }
  | _ => none }
def flowFontsRow : OpenClaim := { program := "ytinblgdfhmllnaagreat", sum := "ce51ba5cdf2f87f4f2f9962e3ab412e29ae928ee02d012929ba4c9f09336fb57", func := "abugida/abugidalaw29.FlowFonts", spec := "flowFonts", unfollowed := true, recurses := true, apart := false }
def FlowFontsSaid : Prop := flowFontsRow.holds Tryz.pinned (OpenSpec.ofChange flowFontsSpec)

/-- ITS FALSE NEIGHBOUR: 'it returns false'. Refute it at one input. -/
def flowFontsWrong : ChangeSpec := { name := "flowFonts", fn := fun _ => fun
  | [d1, d2, d3] => { results := [.lit (.bool false)], args := [d1, d2, d3] }
  | _ => none }
def FlowFontsWrongFalsely : Prop := flowFontsRow.holds Tryz.pinned (OpenSpec.ofChange flowFontsWrong)

/-- 'abugidalaw29.FlowWidths': WHATEVER THE INPUT: true; the input reads as it did. -/
def flowWidthsSpec : ChangeSpec := { name := "flowWidths", fn := fun _ => fun
  | [d1, d2] => { results := [.lit (.bool true)], args := [d1, d2] }
  | _ => none }
def flowWidthsRow : OpenClaim := { program := "ytinblgdfhmllnaagreat", sum := "ce51ba5cdf2f87f4f2f9962e3ab412e29ae928ee02d012929ba4c9f09336fb57", func := "abugida/abugidalaw29.FlowWidths", spec := "flowWidths", unfollowed := true, recurses := true, apart := false }
def FlowWidthsSaid : Prop := flowWidthsRow.holds Tryz.pinned (OpenSpec.ofChange flowWidthsSpec)

/-- ITS FALSE NEIGHBOUR: 'it returns false'. Refute it at one input. -/
def flowWidthsWrong : ChangeSpec := { name := "flowWidths", fn := fun _ => fun
  | [d1, d2] => { results := [.lit (.bool false)], args := [d1, d2] }
  | _ => none }
def FlowWidthsWrongFalsely : Prop := flowWidthsRow.holds Tryz.pinned (OpenSpec.ofChange flowWidthsWrong)

/-- 'abugidalaw29.FlowLines': WHATEVER THE INPUT: true; the input reads as it did. -/
def flowLinesSpec : ChangeSpec := { name := "flowLines", fn := fun _ => fun
  | [d] => { results := [.lit (.bool true)], args := [d] }
  | _ => none }
def flowLinesRow : OpenClaim := { program := "ytinblgdfhmllnaagreat", sum := "ce51ba5cdf2f87f4f2f9962e3ab412e29ae928ee02d012929ba4c9f09336fb57", func := "abugida/abugidalaw29.FlowLines", spec := "flowLines", unfollowed := true, recurses := true, apart := false }
def FlowLinesSaid : Prop := flowLinesRow.holds Tryz.pinned (OpenSpec.ofChange flowLinesSpec)

/-- ITS FALSE NEIGHBOUR: 'it returns false'. Refute it at one input. -/
def flowLinesWrong : ChangeSpec := { name := "flowLines", fn := fun _ => fun
  | [d] => { results := [.lit (.bool false)], args := [d] }
  | _ => none }
def FlowLinesWrongFalsely : Prop := flowLinesRow.holds Tryz.pinned (OpenSpec.ofChange flowLinesWrong)

/-- 'abugidalaw29.FlowFurther': WHATEVER THE INPUT: true; the input reads as it did. -/
def flowFurtherSpec : ChangeSpec := { name := "flowFurther", fn := fun _ => fun
  | [d] => { results := [.lit (.bool true)], args := [d] }
  | _ => none }
def flowFurtherRow : OpenClaim := { program := "ytinblgdfhmllnaagreat", sum := "ce51ba5cdf2f87f4f2f9962e3ab412e29ae928ee02d012929ba4c9f09336fb57", func := "abugida/abugidalaw29.FlowFurther", spec := "flowFurther", unfollowed := true, recurses := true, apart := false }
def FlowFurtherSaid : Prop := flowFurtherRow.holds Tryz.pinned (OpenSpec.ofChange flowFurtherSpec)

/-- ITS FALSE NEIGHBOUR: 'it returns false'. Refute it at one input. -/
def flowFurtherWrong : ChangeSpec := { name := "flowFurther", fn := fun _ => fun
  | [d] => { results := [.lit (.bool false)], args := [d] }
  | _ => none }
def FlowFurtherWrongFalsely : Prop := flowFurtherRow.holds Tryz.pinned (OpenSpec.ofChange flowFurtherWrong)

/-- 'abugidalaw29.FlowWider': WHATEVER THE INPUT: true; the input reads as it did. -/
def flowWiderSpec : ChangeSpec := { name := "flowWider", fn := fun _ => fun
  | [d1, d2] => { results := [.lit (.bool true)], args := [d1, d2] }
  | _ => none }
def flowWiderRow : OpenClaim := { program := "ytinblgdfhmllnaagreat", sum := "ce51ba5cdf2f87f4f2f9962e3ab412e29ae928ee02d012929ba4c9f09336fb57", func := "abugida/abugidalaw29.FlowWider", spec := "flowWider", unfollowed := true, recurses := true, apart := false }
def FlowWiderSaid : Prop := flowWiderRow.holds Tryz.pinned (OpenSpec.ofChange flowWiderSpec)

/-- ITS FALSE NEIGHBOUR: 'it returns false'. Refute it at one input. -/
def flowWiderWrong : ChangeSpec := { name := "flowWider", fn := fun _ => fun
  | [d1, d2] => { results := [.lit (.bool false)], args := [d1, d2] }
  | _ => none }
def FlowWiderWrongFalsely : Prop := flowWiderRow.holds Tryz.pinned (OpenSpec.ofChange flowWiderWrong)

/- THE SECOND FORM. 'bulk': how many values and letters a reading holds, each counted each time it is reached (what is shared counts as often as it is met; a slice's spare places count too). A statement '..UptoSaid' is the law's where the arguments, and the package variables that the reading takes, are together of bulk at most 1048576: NARROWER than '..Said'. Prove '..Said' where nothing that the law and all that it calls make is longer than what came in: it says more and counts as full. Else prove '..UptoSaid'. A law counts once. -/
mutual
def uptoBulk {H : Type} : DataW H → Nat
  | .lit (.string bytes) => bytes.length + 1
  | .lit _ => 1
  | .nil => 1
  | .ptr d => uptoBulk d + 1
  | .slice elems spare => uptoBulkAll elems + uptoBulkAll spare + 1
  | .agg parts => uptoBulkAll parts + 1
  | .iface _ d => uptoBulk d + 1
  | .map entries => uptoBulkEntries entries + 1
  | .held _ => 1
def uptoBulkAll {H : Type} : List (DataW H) → Nat
  | [] => 0
  | d :: r => uptoBulk d + uptoBulkAll r
def uptoBulkEntries {H : Type} : List (Lit × DataW H) → Nat
  | [] => 0
  | x :: r => uptoBulkEntry x + uptoBulkEntries r
def uptoBulkEntry {H : Type} : Lit × DataW H → Nat
  | (.string bytes, d) => bytes.length + uptoBulk d + 1
  | (_, d) => uptoBulk d + 1
 end
def uptoSmall : (H : Type) → List (DataW H) → Bool := fun _ ds => decide (uptoBulkAll ds ≤ 1048576)
def OpenSpec.upto (s : _root_.Go.ChangeSpec) : _root_.Go.OpenSpec := { _root_.Go.OpenSpec.ofChange s with cond := some uptoSmall }

/-- 'abugidalaw29.FlowFonts', WHERE WHAT IT READS IS OF BULK AT MOST 1048576: true; the input reads as it did. -/
def flowFontsUptoRow : OpenClaim := { program := "ytinblgdfhmllnaagreat", sum := "ce51ba5cdf2f87f4f2f9962e3ab412e29ae928ee02d012929ba4c9f09336fb57", func := "abugida/abugidalaw29.FlowFonts", spec := "flowFonts", unfollowed := true, recurses := true, apart := false, narrowed := true }
def FlowFontsUptoSaid : Prop := flowFontsUptoRow.holds Tryz.pinned (OpenSpec.upto flowFontsSpec)

/-- 'abugidalaw29.FlowWidths', WHERE WHAT IT READS IS OF BULK AT MOST 1048576: true; the input reads as it did. -/
def flowWidthsUptoRow : OpenClaim := { program := "ytinblgdfhmllnaagreat", sum := "ce51ba5cdf2f87f4f2f9962e3ab412e29ae928ee02d012929ba4c9f09336fb57", func := "abugida/abugidalaw29.FlowWidths", spec := "flowWidths", unfollowed := true, recurses := true, apart := false, narrowed := true }
def FlowWidthsUptoSaid : Prop := flowWidthsUptoRow.holds Tryz.pinned (OpenSpec.upto flowWidthsSpec)

/-- 'abugidalaw29.FlowLines', WHERE WHAT IT READS IS OF BULK AT MOST 1048576: true; the input reads as it did. -/
def flowLinesUptoRow : OpenClaim := { program := "ytinblgdfhmllnaagreat", sum := "ce51ba5cdf2f87f4f2f9962e3ab412e29ae928ee02d012929ba4c9f09336fb57", func := "abugida/abugidalaw29.FlowLines", spec := "flowLines", unfollowed := true, recurses := true, apart := false, narrowed := true }
def FlowLinesUptoSaid : Prop := flowLinesUptoRow.holds Tryz.pinned (OpenSpec.upto flowLinesSpec)

/-- 'abugidalaw29.FlowFurther', WHERE WHAT IT READS IS OF BULK AT MOST 1048576: true; the input reads as it did. -/
def flowFurtherUptoRow : OpenClaim := { program := "ytinblgdfhmllnaagreat", sum := "ce51ba5cdf2f87f4f2f9962e3ab412e29ae928ee02d012929ba4c9f09336fb57", func := "abugida/abugidalaw29.FlowFurther", spec := "flowFurther", unfollowed := true, recurses := true, apart := false, narrowed := true }
def FlowFurtherUptoSaid : Prop := flowFurtherUptoRow.holds Tryz.pinned (OpenSpec.upto flowFurtherSpec)

/-- 'abugidalaw29.FlowWider', WHERE WHAT IT READS IS OF BULK AT MOST 1048576: true; the input reads as it did. -/
def flowWiderUptoRow : OpenClaim := { program := "ytinblgdfhmllnaagreat", sum := "ce51ba5cdf2f87f4f2f9962e3ab412e29ae928ee02d012929ba4c9f09336fb57", func := "abugida/abugidalaw29.FlowWider", spec := "flowWider", unfollowed := true, recurses := true, apart := false, narrowed := true }
def FlowWiderUptoSaid : Prop := flowWiderUptoRow.holds Tryz.pinned (OpenSpec.upto flowWiderSpec)

end Rows
end Go.Proofs.YtinblgdfhmllnaaGreat
