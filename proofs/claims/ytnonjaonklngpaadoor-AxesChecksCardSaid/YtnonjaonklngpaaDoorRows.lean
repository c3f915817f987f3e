/-
  NARROWER THAN 'FOR EVERY INPUT', by the rows' own cells (each row's printed sentence says how): AxesChecks: laid · AxesRises: laid · AxesRegions: laid · AxesSums: laid · AxesTouches: laid · AxesPeaks: laid · AxesMeets: laid · AxesAdds: laid.
  DERIVED. THE GIVEN ROWS OF THIS SEAT. 8 by the template 'for every input the law returns true; each argument reads behind the call as it read before'; 0 by the template 'total and deterministic' (their statements: YtnonjaonklngpaaDoorTotals.lean).
  GIVEN WITH THE SEED: the statements are not yours to turn. If you find one false, say at which input.
  Laid BY PROGRAM, IN A SANDBOX (cutbox-rows.mjs): the forced cells as the released guide's own fill.sh prints them over the translation f22cd0a4e2b9d695… (all of the seat's roots in one cut). By AI agents, Wed Nov 11 2026. No macro, syntax, notation, axiom, sorry.
-/
import Derived.Test.YtnonjaonklngpaaDoorChecked
import GoSem.PinnedTables
import GoSem.Claim
import GoSem.ClaimJoined
import GoSem.ClaimMapViews
import Derived.JoinedTies
import Derived.KernelRfl
namespace Go.Proofs.YtnonjaonklngpaaDoor
/- THE CELL 'sum', in the pinned program and in every row, IS THE sha256 OF THE DUMP (.gsa) THAT YtnonjaonklngpaaDoorProg.lean LOADS. Nothing in Lean hashes anything: it is a label: what it is worth is what the hold of that sum in a sandbox is worth. -/
noncomputable def Tryd.pinned : Pinned := { name := "ytnonjaonklngpaadoor", sum := "f22cd0a4e2b9d69550ebd6aa7a489e731e340b57d65784a13caa7bbf92c2370a", checked := Tryd.checked }
namespace Rows
def none {H : Type} : Left H := { results := [], args := [] }

/- WHAT THE LISTED PACKAGE-LEVEL VARIABLES READ AS WHEN THE CALL BEGINS. Each datum BY PROGRAM (the guide's laid-datum.mjs) off the statement by which the dump's own 'gosem.cut.vars' lays the variable. In a bare row this is a premise. The card (YtnonjaonklngpaaDoorCards.lean) ties it to the program's text. -/
def laid_unicode_utf8_acceptRanges {H : Type} : DataW H := .agg [.agg [.lit (.int .u8 128), .lit (.int .u8 191)], .agg [.lit (.int .u8 160), .lit (.int .u8 191)], .agg [.lit (.int .u8 128), .lit (.int .u8 159)], .agg [.lit (.int .u8 144), .lit (.int .u8 191)], .agg [.lit (.int .u8 128), .lit (.int .u8 143)], .agg [.lit (.int .u8 0), .lit (.int .u8 0)], .agg [.lit (.int .u8 0), .lit (.int .u8 0)], .agg [.lit (.int .u8 0), .lit (.int .u8 0)], .agg [.lit (.int .u8 0), .lit (.int .u8 0)], .agg [.lit (.int .u8 0), .lit (.int .u8 0)], .agg [.lit (.int .u8 0), .lit (.int .u8 0)], .agg [.lit (.int .u8 0), .lit (.int .u8 0)], .agg [.lit (.int .u8 0), .lit (.int .u8 0)], .agg [.lit (.int .u8 0), .lit (.int .u8 0)], .agg [.lit (.int .u8 0), .lit (.int .u8 0)], .agg [.lit (.int .u8 0), .lit (.int .u8 0)]]
/-- One of Go's own tables, pinned by name: the form's constant. -/
def laid_unicode_utf8_first : DataW Unit := Go.Pinned.utf8First

/-- 'abugidalaw09.AxesChecks': WHATEVER THE INPUT: true; the input reads as it did. -/
def axesChecksSpec : ChangeSpec := { name := "axesChecks", fn := fun _ => fun
  | [d1, d2, d3] => { results := [.lit (.bool true)], args := [d1, d2, d3] }
  | _ => none }
def axesChecksRow : OpenClaim := { program := "ytnonjaonklngpaadoor", sum := "f22cd0a4e2b9d69550ebd6aa7a489e731e340b57d65784a13caa7bbf92c2370a", func := "abugida/abugidalaw09.AxesChecks", spec := "axesChecks", inPlace := ["internal/bytealg.IndexByteString", "internal/bytealg.IndexString"], unfollowed := true, recurses := true, named := ["unicode/utf8.first", "unicode/utf8.acceptRanges", "internal/bytealg.MaxLen"], apart := false, laid := [("unicode/utf8.acceptRanges", laid_unicode_utf8_acceptRanges), ("unicode/utf8.first", laid_unicode_utf8_first)] }
def AxesChecksSaid : Prop := axesChecksRow.holds Tryd.pinned (OpenSpec.ofChange axesChecksSpec)

/-- ITS FALSE NEIGHBOUR: 'it returns false'. Refute it at one input. -/
def axesChecksWrong : ChangeSpec := { name := "axesChecks", fn := fun _ => fun
  | [d1, d2, d3] => { results := [.lit (.bool false)], args := [d1, d2, d3] }
  | _ => none }
def AxesChecksWrongFalsely : Prop := axesChecksRow.holds Tryd.pinned (OpenSpec.ofChange axesChecksWrong)

/-- 'abugidalaw09.AxesRises': WHATEVER THE INPUT: true; the input reads as it did. -/
def axesRisesSpec : ChangeSpec := { name := "axesRises", fn := fun _ => fun
  | [d1, d2] => { results := [.lit (.bool true)], args := [d1, d2] }
  | _ => none }
def axesRisesRow : OpenClaim := { program := "ytnonjaonklngpaadoor", sum := "f22cd0a4e2b9d69550ebd6aa7a489e731e340b57d65784a13caa7bbf92c2370a", func := "abugida/abugidalaw09.AxesRises", spec := "axesRises", inPlace := ["internal/bytealg.IndexByteString", "internal/bytealg.IndexString"], unfollowed := true, recurses := true, named := ["unicode/utf8.first", "unicode/utf8.acceptRanges", "internal/bytealg.MaxLen"], apart := false, laid := [("unicode/utf8.acceptRanges", laid_unicode_utf8_acceptRanges), ("unicode/utf8.first", laid_unicode_utf8_first)] }
def AxesRisesSaid : Prop := axesRisesRow.holds Tryd.pinned (OpenSpec.ofChange axesRisesSpec)

/-- ITS FALSE NEIGHBOUR: 'it returns false'. Refute it at one input. -/
def axesRisesWrong : ChangeSpec := { name := "axesRises", fn := fun _ => fun
  | [d1, d2] => { results := [.lit (.bool false)], args := [d1, d2] }
  | _ => none }
def AxesRisesWrongFalsely : Prop := axesRisesRow.holds Tryd.pinned (OpenSpec.ofChange axesRisesWrong)

/-- 'abugidalaw09.AxesRegions': WHATEVER THE INPUT: true; the input reads as it did. -/
def axesRegionsSpec : ChangeSpec := { name := "axesRegions", fn := fun _ => fun
  | [d1, d2, d3] => { results := [.lit (.bool true)], args := [d1, d2, d3] }
  | _ => none }
def axesRegionsRow : OpenClaim := { program := "ytnonjaonklngpaadoor", sum := "f22cd0a4e2b9d69550ebd6aa7a489e731e340b57d65784a13caa7bbf92c2370a", func := "abugida/abugidalaw09.AxesRegions", spec := "axesRegions", inPlace := ["internal/bytealg.IndexByteString", "internal/bytealg.IndexString"], unfollowed := true, recurses := true, named := ["unicode/utf8.first", "unicode/utf8.acceptRanges", "internal/bytealg.MaxLen"], apart := false, laid := [("unicode/utf8.acceptRanges", laid_unicode_utf8_acceptRanges), ("unicode/utf8.first", laid_unicode_utf8_first)] }
def AxesRegionsSaid : Prop := axesRegionsRow.holds Tryd.pinned (OpenSpec.ofChange axesRegionsSpec)

/-- ITS FALSE NEIGHBOUR: 'it returns false'. Refute it at one input. -/
def axesRegionsWrong : ChangeSpec := { name := "axesRegions", fn := fun _ => fun
  | [d1, d2, d3] => { results := [.lit (.bool false)], args := [d1, d2, d3] }
  | _ => none }
def AxesRegionsWrongFalsely : Prop := axesRegionsRow.holds Tryd.pinned (OpenSpec.ofChange axesRegionsWrong)

/-- 'abugidalaw09.AxesSums': WHATEVER THE INPUT: true; the input reads as it did. -/
def axesSumsSpec : ChangeSpec := { name := "axesSums", fn := fun _ => fun
  | [d1, d2, d3] => { results := [.lit (.bool true)], args := [d1, d2, d3] }
  | _ => none }
def axesSumsRow : OpenClaim := { program := "ytnonjaonklngpaadoor", sum := "f22cd0a4e2b9d69550ebd6aa7a489e731e340b57d65784a13caa7bbf92c2370a", func := "abugida/abugidalaw09.AxesSums", spec := "axesSums", inPlace := ["internal/bytealg.IndexByteString", "internal/bytealg.IndexString"], unfollowed := true, recurses := true, named := ["unicode/utf8.first", "unicode/utf8.acceptRanges", "internal/bytealg.MaxLen"], apart := false, laid := [("unicode/utf8.acceptRanges", laid_unicode_utf8_acceptRanges), ("unicode/utf8.first", laid_unicode_utf8_first)] }
def AxesSumsSaid : Prop := axesSumsRow.holds Tryd.pinned (OpenSpec.ofChange axesSumsSpec)

/-- ITS FALSE NEIGHBOUR: 'it returns false'. Refute it at one input. -/
def axesSumsWrong : ChangeSpec := { name := "axesSums", fn := fun _ => fun
  | [d1, d2, d3] => { results := [.lit (.bool false)], args := [d1, d2, d3] }
  | _ => none }
def AxesSumsWrongFalsely : Prop := axesSumsRow.holds Tryd.pinned (OpenSpec.ofChange axesSumsWrong)

/-- 'abugidalaw09.AxesTouches': WHATEVER THE INPUT: true; the input reads as it did. -/
def axesTouchesSpec : ChangeSpec := { name := "axesTouches", fn := fun _ => fun
  | [d1, d2, d3] => { results := [.lit (.bool true)], args := [d1, d2, d3] }
  | _ => none }
def axesTouchesRow : OpenClaim := { program := "ytnonjaonklngpaadoor", sum := "f22cd0a4e2b9d69550ebd6aa7a489e731e340b57d65784a13caa7bbf92c2370a", func := "abugida/abugidalaw09.AxesTouches", spec := "axesTouches", inPlace := ["internal/bytealg.IndexByteString", "internal/bytealg.IndexString"], unfollowed := true, recurses := true, named := ["unicode/utf8.first", "unicode/utf8.acceptRanges", "internal/bytealg.MaxLen"], apart := false, laid := [("unicode/utf8.acceptRanges", laid_unicode_utf8_acceptRanges), ("unicode/utf8.first", laid_unicode_utf8_first)] }
def AxesTouchesSaid : Prop := axesTouchesRow.holds Tryd.pinned (OpenSpec.ofChange axesTouchesSpec)

/-- ITS FALSE NEIGHBOUR: 'it returns false'. Refute it at one input. -/
def axesTouchesWrong : ChangeSpec := { name := "axesTouches", fn := fun _ => fun
  | [d1, d2, d3] => { results := [.lit (.bool false)], args := [d1, d2, d3] }
  | _ => none }
def AxesTouchesWrongFalsely : Prop := axesTouchesRow.holds Tryd.pinned (OpenSpec.ofChange axesTouchesWrong)

/-- 'abugidalaw09.AxesPeaks': WHATEVER THE INPUT: true; the input reads as it did. -/
def axesPeaksSpec : ChangeSpec := { name := "axesPeaks", fn := fun _ => fun
  | [d1, d2] => { results := [.lit (.bool true)], args := [d1, d2] }
  | _ => none }
def axesPeaksRow : OpenClaim := { program := "ytnonjaonklngpaadoor", sum := "f22cd0a4e2b9d69550ebd6aa7a489e731e340b57d65784a13caa7bbf92c2370a", func := "abugida/abugidalaw09.AxesPeaks", spec := "axesPeaks", inPlace := ["internal/bytealg.IndexByteString", "internal/bytealg.IndexString"], unfollowed := true, recurses := true, named := ["unicode/utf8.first", "unicode/utf8.acceptRanges", "internal/bytealg.MaxLen"], apart := false, laid := [("unicode/utf8.acceptRanges", laid_unicode_utf8_acceptRanges), ("unicode/utf8.first", laid_unicode_utf8_first)] }
def AxesPeaksSaid : Prop := axesPeaksRow.holds Tryd.pinned (OpenSpec.ofChange axesPeaksSpec)

/-- ITS FALSE NEIGHBOUR: 'it returns false'. Refute it at one input. -/
def axesPeaksWrong : ChangeSpec := { name := "axesPeaks", fn := fun _ => fun
  | [d1, d2] => { results := [.lit (.bool false)], args := [d1, d2] }
  | _ => none }
def AxesPeaksWrongFalsely : Prop := axesPeaksRow.holds Tryd.pinned (OpenSpec.ofChange axesPeaksWrong)

/-- 'abugidalaw09.AxesMeets': WHATEVER THE INPUT: true; the input reads as it did. -/
def axesMeetsSpec : ChangeSpec := { name := "axesMeets", fn := fun _ => fun
  | [d] => { results := [.lit (.bool true)], args := [d] }
  | _ => none }
def axesMeetsRow : OpenClaim := { program := "ytnonjaonklngpaadoor", sum := "f22cd0a4e2b9d69550ebd6aa7a489e731e340b57d65784a13caa7bbf92c2370a", func := "abugida/abugidalaw09.AxesMeets", spec := "axesMeets", inPlace := ["internal/bytealg.IndexByteString", "internal/bytealg.IndexString"], unfollowed := true, recurses := true, named := ["unicode/utf8.first", "unicode/utf8.acceptRanges", "internal/bytealg.MaxLen"], apart := false, laid := [("unicode/utf8.acceptRanges", laid_unicode_utf8_acceptRanges), ("unicode/utf8.first", laid_unicode_utf8_first)] }
def AxesMeetsSaid : Prop := axesMeetsRow.holds Tryd.pinned (OpenSpec.ofChange axesMeetsSpec)

/-- ITS FALSE NEIGHBOUR: 'it returns false'. Refute it at one input. -/
def axesMeetsWrong : ChangeSpec := { name := "axesMeets", fn := fun _ => fun
  | [d] => { results := [.lit (.bool false)], args := [d] }
  | _ => none }
def AxesMeetsWrongFalsely : Prop := axesMeetsRow.holds Tryd.pinned (OpenSpec.ofChange axesMeetsWrong)

/-- 'abugidalaw09.AxesAdds': WHATEVER THE INPUT: true; the input reads as it did. -/
def axesAddsSpec : ChangeSpec := { name := "axesAdds", fn := fun _ => fun
  | [d1, d2, d3] => { results := [.lit (.bool true)], args := [d1, d2, d3] }
  | _ => none }
def axesAddsRow : OpenClaim := { program := "ytnonjaonklngpaadoor", sum := "f22cd0a4e2b9d69550ebd6aa7a489e731e340b57d65784a13caa7bbf92c2370a", func := "abugida/abugidalaw09.AxesAdds", spec := "axesAdds", inPlace := ["internal/bytealg.IndexByteString", "internal/bytealg.IndexString"], unfollowed := true, recurses := true, named := ["unicode/utf8.first", "unicode/utf8.acceptRanges", "internal/bytealg.MaxLen"], apart := false, laid := [("unicode/utf8.acceptRanges", laid_unicode_utf8_acceptRanges), ("unicode/utf8.first", laid_unicode_utf8_first)] }
def AxesAddsSaid : Prop := axesAddsRow.holds Tryd.pinned (OpenSpec.ofChange axesAddsSpec)

/-- ITS FALSE NEIGHBOUR: 'it returns false'. Refute it at one input. -/
def axesAddsWrong : ChangeSpec := { name := "axesAdds", fn := fun _ => fun
  | [d1, d2, d3] => { results := [.lit (.bool false)], args := [d1, d2, d3] }
  | _ => none }
def AxesAddsWrongFalsely : Prop := axesAddsRow.holds Tryd.pinned (OpenSpec.ofChange axesAddsWrong)

/- THE SECOND FORM. 'bulk': how many values and letters a reading holds, each counted each time it is reached (what is shared counts as often as it is met; a slice's spare places count too). A statement '..UptoSaid' is the law's where the arguments, and the package variables that the reading takes, are together of bulk at most 1048576: NARROWER than '..Said'. Prove '..Said' where nothing that the law and all that it calls make is longer than what came in: it says more and counts as full. Else prove '..UptoSaid'. A law counts once. -/
mutual
def uptoBulk {H : Type} : DataW H → Nat
  | .lit (.string bytes) => bytes.length + 1
  | .lit _ => 1
  | .nil => 1
  | .ptr d => uptoBulk d + 1
  | .slice elems spare => uptoBulkAll elems + uptoBulkAll spare + 1
  | .agg parts => uptoBulkAll parts + 1
  | .iface _ d => uptoBulk d + 1
  | .map entries => uptoBulkEntries entries + 1
  | .held _ => 1
def uptoBulkAll {H : Type} : List (DataW H) → Nat
  | [] => 0
  | d :: r => uptoBulk d + uptoBulkAll r
def uptoBulkEntries {H : Type} : List (Lit × DataW H) → Nat
  | [] => 0
  | x :: r => uptoBulkEntry x + uptoBulkEntries r
def uptoBulkEntry {H : Type} : Lit × DataW H → Nat
  | (.string bytes, d) => bytes.length + uptoBulk d + 1
  | (_, d) => uptoBulk d + 1
 end
def uptoSmall : (H : Type) → List (DataW H) → Bool := fun _ ds => decide (uptoBulkAll ds ≤ 1048576)
def OpenSpec.upto (s : _root_.Go.ChangeSpec) : _root_.Go.OpenSpec := { _root_.Go.OpenSpec.ofChange s with cond := some uptoSmall }

/-- 'abugidalaw09.AxesChecks', WHERE WHAT IT READS IS OF BULK AT MOST 1048576: true; the input reads as it did. -/
def axesChecksUptoRow : OpenClaim := { program := "ytnonjaonklngpaadoor", sum := "f22cd0a4e2b9d69550ebd6aa7a489e731e340b57d65784a13caa7bbf92c2370a", func := "abugida/abugidalaw09.AxesChecks", spec := "axesChecks", inPlace := ["internal/bytealg.IndexByteString", "internal/bytealg.IndexString"], unfollowed := true, recurses := true, named := ["unicode/utf8.first", "unicode/utf8.acceptRanges", "internal/bytealg.MaxLen"], apart := false, laid := [("unicode/utf8.acceptRanges", laid_unicode_utf8_acceptRanges), ("unicode/utf8.first", laid_unicode_utf8_first)], narrowed := true }
def AxesChecksUptoSaid : Prop := axesChecksUptoRow.holds Tryd.pinned (OpenSpec.upto axesChecksSpec)

/-- 'abugidalaw09.AxesRises', WHERE WHAT IT READS IS OF BULK AT MOST 1048576: true; the input reads as it did. -/
def axesRisesUptoRow : OpenClaim := { program := "ytnonjaonklngpaadoor", sum := "f22cd0a4e2b9d69550ebd6aa7a489e731e340b57d65784a13caa7bbf92c2370a", func := "abugida/abugidalaw09.AxesRises", spec := "axesRises", inPlace := ["internal/bytealg.IndexByteString", "internal/bytealg.IndexString"], unfollowed := true, recurses := true, named := ["unicode/utf8.first", "unicode/utf8.acceptRanges", "internal/bytealg.MaxLen"], apart := false, laid := [("unicode/utf8.acceptRanges", laid_unicode_utf8_acceptRanges), ("unicode/utf8.first", laid_unicode_utf8_first)], narrowed := true }
def AxesRisesUptoSaid : Prop := axesRisesUptoRow.holds Tryd.pinned (OpenSpec.upto axesRisesSpec)

/-- 'abugidalaw09.AxesRegions', WHERE WHAT IT READS IS OF BULK AT MOST 1048576: true; the input reads as it did. -/
def axesRegionsUptoRow : OpenClaim := { program := "ytnonjaonklngpaadoor", sum := "f22cd0a4e2b9d69550ebd6aa7a489e731e340b57d65784a13caa7bbf92c2370a", func := "abugida/abugidalaw09.AxesRegions", spec := "axesRegions", inPlace := ["internal/bytealg.IndexByteString", "internal/bytealg.IndexString"], unfollowed := true, recurses := true, named := ["unicode/utf8.first", "unicode/utf8.acceptRanges", "internal/bytealg.MaxLen"], apart := false, laid := [("unicode/utf8.acceptRanges", laid_unicode_utf8_acceptRanges), ("unicode/utf8.first", laid_unicode_utf8_first)], narrowed := true }
def AxesRegionsUptoSaid : Prop := axesRegionsUptoRow.holds Tryd.pinned (OpenSpec.upto axesRegionsSpec)

/-- 'abugidalaw09.AxesSums', WHERE WHAT IT READS IS OF BULK AT MOST 1048576: true; the input reads as it did. -/
def axesSumsUptoRow : OpenClaim := { program := "ytnonjaonklngpaadoor", sum := "f22cd0a4e2b9d69550ebd6aa7a489e731e340b57d65784a13caa7bbf92c2370a", func := "abugida/abugidalaw09.AxesSums", spec := "axesSums", inPlace := ["internal/bytealg.IndexByteString", "internal/bytealg.IndexString"], unfollowed := true, recurses := true, named := ["unicode/utf8.first", "unicode/utf8.acceptRanges", "internal/bytealg.MaxLen"], apart := false, laid := [("unicode/utf8.acceptRanges", laid_unicode_utf8_acceptRanges), ("unicode/utf8.first", laid_unicode_utf8_first)], narrowed := true }
def AxesSumsUptoSaid : Prop := axesSumsUptoRow.holds Tryd.pinned (OpenSpec.upto axesSumsSpec)

/-- 'abugidalaw09.AxesTouches', WHERE WHAT IT READS IS OF BULK AT MOST 1048576: true; the input reads as it did. -/
def axesTouchesUptoRow : OpenClaim := { program := "ytnonjaonklngpaadoor", sum := "f22cd0a4e2b9d69550ebd6aa7a489e731e340b57d65784a13caa7bbf92c2370a", func := "abugida/abugidalaw09.AxesTouches", spec := "axesTouches", inPlace := ["internal/bytealg.IndexByteString", "internal/bytealg.IndexString"], unfollowed := true, recurses := true, named := ["unicode/utf8.first", "unicode/utf8.acceptRanges", "internal/bytealg.MaxLen"], apart := false, laid := [("unicode/utf8.acceptRanges", laid_unicode_utf8_acceptRanges), ("unicode/utf8.first", laid_unicode_utf8_first)], narrowed := true }
def AxesTouchesUptoSaid : Prop := axesTouchesUptoRow.holds Tryd.pinned (OpenSpec.upto axesTouchesSpec)

/-- 'abugidalaw09.AxesPeaks', WHERE WHAT IT READS IS OF BULK AT MOST 1048576: true; the input reads as it did. -/
def axesPeaksUptoRow : OpenClaim := { program := "ytnonjaonklngpaadoor", sum := "f22cd0a4e2b9d69550ebd6aa7a489e731e340b57d65784a13caa7bbf92c2370a", func := "abugida/abugidalaw09.AxesPeaks", spec := "axesPeaks", inPlace := ["internal/bytealg.IndexByteString", "internal/bytealg.IndexString"], unfollowed := true, recurses := true, named := ["unicode/utf8.first", "unicode/utf8.acceptRanges", "internal/bytealg.MaxLen"], apart := false, laid := [("unicode/utf8.acceptRanges", laid_unicode_utf8_acceptRanges), ("unicode/utf8.first", laid_unicode_utf8_first)], narrowed := true }
def AxesPeaksUptoSaid : Prop := axesPeaksUptoRow.holds Tryd.pinned (OpenSpec.upto axesPeaksSpec)

/-- 'abugidalaw09.AxesMeets', WHERE WHAT IT READS IS OF BULK AT MOST 1048576: true; the input reads as it did. -/
def axesMeetsUptoRow : OpenClaim := { program := "ytnonjaonklngpaadoor", sum := "f22cd0a4e2b9d69550ebd6aa7a489e731e340b57d65784a13caa7bbf92c2370a", func := "abugida/abugidalaw09.AxesMeets", spec := "axesMeets", inPlace := ["internal/bytealg.IndexByteString", "internal/bytealg.IndexString"], unfollowed := true, recurses := true, named := ["unicode/utf8.first", "unicode/utf8.acceptRanges", "internal/bytealg.MaxLen"], apart := false, laid := [("unicode/utf8.acceptRanges", laid_unicode_utf8_acceptRanges), ("unicode/utf8.first", laid_unicode_utf8_first)], narrowed := true }
def AxesMeetsUptoSaid : Prop := axesMeetsUptoRow.holds Tryd.pinned (OpenSpec.upto axesMeetsSpec)

/-- 'abugidalaw09.AxesAdds', WHERE WHAT IT READS IS OF BULK AT MOST 1048576: true; the input reads as it did. -/
def axesAddsUptoRow : OpenClaim := { program := "ytnonjaonklngpaadoor", sum := "f22cd0a4e2b9d69550ebd6aa7a489e731e340b57d65784a13caa7bbf92c2370a", func := "abugida/abugidalaw09.AxesAdds", spec := "axesAdds", inPlace := ["internal/bytealg.IndexByteString", "internal/bytealg.IndexString"], unfollowed := true, recurses := true, named := ["unicode/utf8.first", "unicode/utf8.acceptRanges", "internal/bytealg.MaxLen"], apart := false, laid := [("unicode/utf8.acceptRanges", laid_unicode_utf8_acceptRanges), ("unicode/utf8.first", laid_unicode_utf8_first)], narrowed := true }
def AxesAddsUptoSaid : Prop := axesAddsUptoRow.holds Tryd.pinned (OpenSpec.upto axesAddsSpec)

end Rows
end Go.Proofs.YtnonjaonklngpaaDoor
