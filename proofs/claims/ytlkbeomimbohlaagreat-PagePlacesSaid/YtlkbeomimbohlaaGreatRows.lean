/-
  No cell of these rows narrows 'for every input' (looked for: loops, veiled, ifaces, maps, wideKeys, modest, calm, conditions, laid).
  DERIVED. THE GIVEN ROWS OF THIS SEAT. 6 by the template 'for every input the law returns true; each argument reads behind the call as it read before'; 0 by the template 'total and deterministic' (their statements: YtlkbeomimbohlaaGreatTotals.lean).
  GIVEN WITH THE SEED: the statements are not yours to turn. If you find one false, say at which input.
  Laid BY PROGRAM, IN A SANDBOX (cutbox-rows.mjs): the forced cells as the released guide's own fill.sh prints them over the translation 058a4efb367e4f8e… (all of the seat's roots in one cut). By AI agents, Wed Nov 11 2026. No macro, syntax, notation, axiom, sorry.
-/
import Derived.Test.YtlkbeomimbohlaaGreatChecked
import GoSem.Claim
import GoSem.ClaimJoined
import GoSem.ClaimMapViews
import Derived.JoinedTies
import Derived.KernelRfl
namespace Go.Proofs.YtlkbeomimbohlaaGreat
/- THE CELL 'sum', in the pinned program and in every row, IS THE sha256 OF THE DUMP (.gsa) THAT YtlkbeomimbohlaaGreatProg.lean LOADS. Nothing in Lean hashes anything: it is a label: what it is worth is what the hold of that sum in a sandbox is worth. -/
noncomputable def Tryz.pinned : Pinned := { name := "ytlkbeomimbohlaagreat", sum := "058a4efb367e4f8e550ae772ef219980a31af206e8dff2109c3b4d253f9f0d17", checked := Tryz.checked }
namespace Rows
def none {H : Type} : Left H := { results := [], args := [] }

/-- 'abugidalaw30.PagePlaces': WHATEVER THE INPUT: true; the input reads as it did. -/
def pagePlacesSpec : ChangeSpec := { name := "pagePlaces", fn := fun _ => fun
  | [d1, d2, d3] => { results := [.lit (.bool true)], args := [d1, d2, d3] }
  | _ => none }
def pagePlacesRow : OpenClaim := { program := "ytlkbeomimbohlaagreat", sum := "058a4efb367e4f8e550ae772ef219980a31af206e8dff2109c3b4d253f9f0d17", func := "abugida/abugidalaw30.PagePlaces", spec := "pagePlaces", inPlace := ["internal/abi.NoEscape", "internal/bytealg.MakeNoZero"], unfollowed := true, recurses := true, apart := false }
def PagePlacesSaid : Prop := pagePlacesRow.holds Tryz.pinned (OpenSpec.ofChange pagePlacesSpec)

/-- ITS FALSE NEIGHBOUR: 'it returns false'. Refute it at one input. -/
def pagePlacesWrong : ChangeSpec := { name := "pagePlaces", fn := fun _ => fun
  | [d1, d2, d3] => { results := [.lit (.bool false)], args := [d1, d2, d3] }
  | _ => none }
def PagePlacesWrongFalsely : Prop := pagePlacesRow.holds Tryz.pinned (OpenSpec.ofChange pagePlacesWrong)

/-- 'abugidalaw30.PageStays': WHATEVER THE INPUT: true; the input reads as it did. -/
def pageStaysSpec : ChangeSpec := { name := "pageStays", fn := fun _ => fun
  | [d1, d2, d3] => { results := [.lit (.bool true)], args := [d1, d2, d3] }
  | _ => none }
def pageStaysRow : OpenClaim := { program := "ytlkbeomimbohlaagreat", sum := "058a4efb367e4f8e550ae772ef219980a31af206e8dff2109c3b4d253f9f0d17", func := "abugida/abugidalaw30.PageStays", spec := "pageStays", inPlace := ["internal/abi.NoEscape", "internal/bytealg.MakeNoZero"], unfollowed := true, recurses := true, apart := false }
def PageStaysSaid : Prop := pageStaysRow.holds Tryz.pinned (OpenSpec.ofChange pageStaysSpec)

/-- ITS FALSE NEIGHBOUR: 'it returns false'. Refute it at one input. -/
def pageStaysWrong : ChangeSpec := { name := "pageStays", fn := fun _ => fun
  | [d1, d2, d3] => { results := [.lit (.bool false)], args := [d1, d2, d3] }
  | _ => none }
def PageStaysWrongFalsely : Prop := pageStaysRow.holds Tryz.pinned (OpenSpec.ofChange pageStaysWrong)

/-- 'abugidalaw30.PageCopies': WHATEVER THE INPUT: true; the input reads as it did. -/
def pageCopiesSpec : ChangeSpec := { name := "pageCopies", fn := fun _ => fun
  | [d1, d2] => { results := [.lit (.bool true)], args := [d1, d2] }
  | _ => none }
def pageCopiesRow : OpenClaim := { program := "ytlkbeomimbohlaagreat", sum := "058a4efb367e4f8e550ae772ef219980a31af206e8dff2109c3b4d253f9f0d17", func := "abugida/abugidalaw30.PageCopies", spec := "pageCopies", inPlace := ["internal/abi.NoEscape", "internal/bytealg.MakeNoZero"], unfollowed := true, recurses := true, apart := false }
def PageCopiesSaid : Prop := pageCopiesRow.holds Tryz.pinned (OpenSpec.ofChange pageCopiesSpec)

/-- ITS FALSE NEIGHBOUR: 'it returns false'. Refute it at one input. -/
def pageCopiesWrong : ChangeSpec := { name := "pageCopies", fn := fun _ => fun
  | [d1, d2] => { results := [.lit (.bool false)], args := [d1, d2] }
  | _ => none }
def PageCopiesWrongFalsely : Prop := pageCopiesRow.holds Tryz.pinned (OpenSpec.ofChange pageCopiesWrong)

/-- 'abugidalaw30.PagePoints': WHATEVER THE INPUT: true; the input reads as it did. -/
def pagePointsSpec : ChangeSpec := { name := "pagePoints", fn := fun _ => fun
  | [d1, d2] => { results := [.lit (.bool true)], args := [d1, d2] }
  | _ => none }
def pagePointsRow : OpenClaim := { program := "ytlkbeomimbohlaagreat", sum := "058a4efb367e4f8e550ae772ef219980a31af206e8dff2109c3b4d253f9f0d17", func := "abugida/abugidalaw30.PagePoints", spec := "pagePoints", inPlace := ["internal/abi.NoEscape", "internal/bytealg.MakeNoZero"], unfollowed := true, recurses := true, apart := false }
def PagePointsSaid : Prop := pagePointsRow.holds Tryz.pinned (OpenSpec.ofChange pagePointsSpec)

/-- ITS FALSE NEIGHBOUR: 'it returns false'. Refute it at one input. -/
def pagePointsWrong : ChangeSpec := { name := "pagePoints", fn := fun _ => fun
  | [d1, d2] => { results := [.lit (.bool false)], args := [d1, d2] }
  | _ => none }
def PagePointsWrongFalsely : Prop := pagePointsRow.holds Tryz.pinned (OpenSpec.ofChange pagePointsWrong)

/-- 'abugidalaw30.PageLines': WHATEVER THE INPUT: true; the input reads as it did. -/
def pageLinesSpec : ChangeSpec := { name := "pageLines", fn := fun _ => fun
  | [d] => { results := [.lit (.bool true)], args := [d] }
  | _ => none }
def pageLinesRow : OpenClaim := { program := "ytlkbeomimbohlaagreat", sum := "058a4efb367e4f8e550ae772ef219980a31af206e8dff2109c3b4d253f9f0d17", func := "abugida/abugidalaw30.PageLines", spec := "pageLines", inPlace := ["internal/abi.NoEscape", "internal/bytealg.MakeNoZero"], unfollowed := true, recurses := true, apart := false }
def PageLinesSaid : Prop := pageLinesRow.holds Tryz.pinned (OpenSpec.ofChange pageLinesSpec)

/-- ITS FALSE NEIGHBOUR: 'it returns false'. Refute it at one input. -/
def pageLinesWrong : ChangeSpec := { name := "pageLines", fn := fun _ => fun
  | [d] => { results := [.lit (.bool false)], args := [d] }
  | _ => none }
def PageLinesWrongFalsely : Prop := pageLinesRow.holds Tryz.pinned (OpenSpec.ofChange pageLinesWrong)

/-- 'abugidalaw30.PagePieces': WHATEVER THE INPUT: true; the input reads as it did. -/
def pagePiecesSpec : ChangeSpec := { name := "pagePieces", fn := fun _ => fun
  | [d] => { results := [.lit (.bool true)], args := [d] }
  | _ => none }
def pagePiecesRow : OpenClaim := { program := "ytlkbeomimbohlaagreat", sum := "058a4efb367e4f8e550ae772ef219980a31af206e8dff2109c3b4d253f9f0d17", func := "abugida/abugidalaw30.PagePieces", spec := "pagePieces", inPlace := ["internal/abi.NoEscape", "internal/bytealg.MakeNoZero"], unfollowed := true, recurses := true, apart := false }
def PagePiecesSaid : Prop := pagePiecesRow.holds Tryz.pinned (OpenSpec.ofChange pagePiecesSpec)

/-- ITS FALSE NEIGHBOUR: 'it returns false'. Refute it at one input. -/
def pagePiecesWrong : ChangeSpec := { name := "pagePieces", fn := fun _ => fun
  | [d] => { results := [.lit (.bool false)], args := [d] }
  | _ => none }
def PagePiecesWrongFalsely : Prop := pagePiecesRow.holds Tryz.pinned (OpenSpec.ofChange pagePiecesWrong)

/- THE SECOND FORM. 'bulk': how many values and letters a reading holds, each counted each time it is reached (what is shared counts as often as it is met; a slice's spare places count too). A statement '..UptoSaid' is the law's where the arguments, and the package variables that the reading takes, are together of bulk at most 1048576: NARROWER than '..Said'. Prove '..Said' where nothing that the law and all that it calls make is longer than what came in: it says more and counts as full. Else prove '..UptoSaid'. A law counts once. -/
mutual
def uptoBulk {H : Type} : DataW H → Nat
  | .lit (.string bytes) => bytes.length + 1
  | .lit _ => 1
  | .nil => 1
  | .ptr d => uptoBulk d + 1
  | .slice elems spare => uptoBulkAll elems + uptoBulkAll spare + 1
  | .agg parts => uptoBulkAll parts + 1
  | .iface _ d => uptoBulk d + 1
  | .map entries => uptoBulkEntries entries + 1
  | .held _ => 1
def uptoBulkAll {H : Type} : List (DataW H) → Nat
  | [] => 0
  | d :: r => uptoBulk d + uptoBulkAll r
def uptoBulkEntries {H : Type} : List (Lit × DataW H) → Nat
  | [] => 0
  | x :: r => uptoBulkEntry x + uptoBulkEntries r
def uptoBulkEntry {H : Type} : Lit × DataW H → Nat
  | (.string bytes, d) => bytes.length + uptoBulk d + 1
  | (_, d) => uptoBulk d + 1
 end
def uptoSmall : (H : Type) → List (DataW H) → Bool := fun _ ds => decide (uptoBulkAll ds ≤ 1048576)
def OpenSpec.upto (s : _root_.Go.ChangeSpec) : _root_.Go.OpenSpec := { _root_.Go.OpenSpec.ofChange s with cond := some uptoSmall }

/-- 'abugidalaw30.PagePlaces', WHERE WHAT IT READS IS OF BULK AT MOST 1048576: true; the input reads as it did. -/
def pagePlacesUptoRow : OpenClaim := { program := "ytlkbeomimbohlaagreat", sum := "058a4efb367e4f8e550ae772ef219980a31af206e8dff2109c3b4d253f9f0d17", func := "abugida/abugidalaw30.PagePlaces", spec := "pagePlaces", inPlace := ["internal/abi.NoEscape", "internal/bytealg.MakeNoZero"], unfollowed := true, recurses := true, apart := false, narrowed := true }
def PagePlacesUptoSaid : Prop := pagePlacesUptoRow.holds Tryz.pinned (OpenSpec.upto pagePlacesSpec)

/-- 'abugidalaw30.PageStays', WHERE WHAT IT READS IS OF BULK AT MOST 1048576: true; the input reads as it did. -/
def pageStaysUptoRow : OpenClaim := { program := "ytlkbeomimbohlaagreat", sum := "058a4efb367e4f8e550ae772ef219980a31af206e8dff2109c3b4d253f9f0d17", func := "abugida/abugidalaw30.PageStays", spec := "pageStays", inPlace := ["internal/abi.NoEscape", "internal/bytealg.MakeNoZero"], unfollowed := true, recurses := true, apart := false, narrowed := true }
def PageStaysUptoSaid : Prop := pageStaysUptoRow.holds Tryz.pinned (OpenSpec.upto pageStaysSpec)

/-- 'abugidalaw30.PageCopies', WHERE WHAT IT READS IS OF BULK AT MOST 1048576: true; the input reads as it did. -/
def pageCopiesUptoRow : OpenClaim := { program := "ytlkbeomimbohlaagreat", sum := "058a4efb367e4f8e550ae772ef219980a31af206e8dff2109c3b4d253f9f0d17", func := "abugida/abugidalaw30.PageCopies", spec := "pageCopies", inPlace := ["internal/abi.NoEscape", "internal/bytealg.MakeNoZero"], unfollowed := true, recurses := true, apart := false, narrowed := true }
def PageCopiesUptoSaid : Prop := pageCopiesUptoRow.holds Tryz.pinned (OpenSpec.upto pageCopiesSpec)

/-- 'abugidalaw30.PagePoints', WHERE WHAT IT READS IS OF BULK AT MOST 1048576: true; the input reads as it did. -/
def pagePointsUptoRow : OpenClaim := { program := "ytlkbeomimbohlaagreat", sum := "058a4efb367e4f8e550ae772ef219980a31af206e8dff2109c3b4d253f9f0d17", func := "abugida/abugidalaw30.PagePoints", spec := "pagePoints", inPlace := ["internal/abi.NoEscape", "internal/bytealg.MakeNoZero"], unfollowed := true, recurses := true, apart := false, narrowed := true }
def PagePointsUptoSaid : Prop := pagePointsUptoRow.holds Tryz.pinned (OpenSpec.upto pagePointsSpec)

/-- 'abugidalaw30.PageLines', WHERE WHAT IT READS IS OF BULK AT MOST 1048576: true; the input reads as it did. -/
def pageLinesUptoRow : OpenClaim := { program := "ytlkbeomimbohlaagreat", sum := "058a4efb367e4f8e550ae772ef219980a31af206e8dff2109c3b4d253f9f0d17", func := "abugida/abugidalaw30.PageLines", spec := "pageLines", inPlace := ["internal/abi.NoEscape", "internal/bytealg.MakeNoZero"], unfollowed := true, recurses := true, apart := false, narrowed := true }
def PageLinesUptoSaid : Prop := pageLinesUptoRow.holds Tryz.pinned (OpenSpec.upto pageLinesSpec)

/-- 'abugidalaw30.PagePieces', WHERE WHAT IT READS IS OF BULK AT MOST 1048576: true; the input reads as it did. -/
def pagePiecesUptoRow : OpenClaim := { program := "ytlkbeomimbohlaagreat", sum := "058a4efb367e4f8e550ae772ef219980a31af206e8dff2109c3b4d253f9f0d17", func := "abugida/abugidalaw30.PagePieces", spec := "pagePieces", inPlace := ["internal/abi.NoEscape", "internal/bytealg.MakeNoZero"], unfollowed := true, recurses := true, apart := false, narrowed := true }
def PagePiecesUptoSaid : Prop := pagePiecesUptoRow.holds Tryz.pinned (OpenSpec.upto pagePiecesSpec)

end Rows
end Go.Proofs.YtlkbeomimbohlaaGreat
