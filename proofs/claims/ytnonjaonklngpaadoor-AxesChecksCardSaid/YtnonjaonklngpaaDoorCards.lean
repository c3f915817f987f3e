/-
  DERIVED. GIVEN WITH THE SEED: THE CARDS: each row of YtnonjaonklngpaaDoorRows.lean that lists a variable, with what it lists TIED to the program's text (the seventh form; the later family's looks); each row that meets fmt, with fmt's text TOLD by the authors' own Lean function (tested against real Go, not proved from fmt's source: count such statements apart). THE CARD IS WHAT COUNTS. Prove the row's statement (the work); the ties are given (YtnonjaonklngpaaDoorTie.lean); close each card by the builder's one call (the guide's Derived/Test/ToyasCard.lean, 'card_holds'). Laid BY PROGRAM, IN A SANDBOX (cutbox-door.mjs). By AI agents, Wed Nov 11 2026. No macro, syntax, notation, axiom, sorry.
-/
import Derived.Test.YtnonjaonklngpaaDoorRows
import GoSem.ClaimSeven
namespace Go.Proofs.YtnonjaonklngpaaDoor
namespace Rows

/-- THE TIED CARD OF 'abugidalaw09.AxesChecks'. -/
def axesChecksCard : Claim7 := { stood := { row := axesChecksRow, standIns := [], harness := (true, "a6bb7e9ee7f2422d58a2694b4d874e292dd26c601e4065298115dda05adcd7bf"), looks := false }, kinds := [], alts := [], laidByText := true, laidKinds := [.data, .pinned], laidTests := true, laidLooks := .later }
def AxesChecksCardSaid : Prop := Claim7.holds Tryd.pinned (.plain (OpenSpec.ofChange axesChecksSpec)) axesChecksCard

/-- THE TIED CARD OF 'abugidalaw09.AxesRises'. -/
def axesRisesCard : Claim7 := { stood := { row := axesRisesRow, standIns := [], harness := (true, "a6bb7e9ee7f2422d58a2694b4d874e292dd26c601e4065298115dda05adcd7bf"), looks := false }, kinds := [], alts := [], laidByText := true, laidKinds := [.data, .pinned], laidTests := true, laidLooks := .later }
def AxesRisesCardSaid : Prop := Claim7.holds Tryd.pinned (.plain (OpenSpec.ofChange axesRisesSpec)) axesRisesCard

/-- THE TIED CARD OF 'abugidalaw09.AxesRegions'. -/
def axesRegionsCard : Claim7 := { stood := { row := axesRegionsRow, standIns := [], harness := (true, "a6bb7e9ee7f2422d58a2694b4d874e292dd26c601e4065298115dda05adcd7bf"), looks := false }, kinds := [], alts := [], laidByText := true, laidKinds := [.data, .pinned], laidTests := true, laidLooks := .later }
def AxesRegionsCardSaid : Prop := Claim7.holds Tryd.pinned (.plain (OpenSpec.ofChange axesRegionsSpec)) axesRegionsCard

/-- THE TIED CARD OF 'abugidalaw09.AxesSums'. -/
def axesSumsCard : Claim7 := { stood := { row := axesSumsRow, standIns := [], harness := (true, "a6bb7e9ee7f2422d58a2694b4d874e292dd26c601e4065298115dda05adcd7bf"), looks := false }, kinds := [], alts := [], laidByText := true, laidKinds := [.data, .pinned], laidTests := true, laidLooks := .later }
def AxesSumsCardSaid : Prop := Claim7.holds Tryd.pinned (.plain (OpenSpec.ofChange axesSumsSpec)) axesSumsCard

/-- THE TIED CARD OF 'abugidalaw09.AxesTouches'. -/
def axesTouchesCard : Claim7 := { stood := { row := axesTouchesRow, standIns := [], harness := (true, "a6bb7e9ee7f2422d58a2694b4d874e292dd26c601e4065298115dda05adcd7bf"), looks := false }, kinds := [], alts := [], laidByText := true, laidKinds := [.data, .pinned], laidTests := true, laidLooks := .later }
def AxesTouchesCardSaid : Prop := Claim7.holds Tryd.pinned (.plain (OpenSpec.ofChange axesTouchesSpec)) axesTouchesCard

/-- THE TIED CARD OF 'abugidalaw09.AxesPeaks'. -/
def axesPeaksCard : Claim7 := { stood := { row := axesPeaksRow, standIns := [], harness := (true, "a6bb7e9ee7f2422d58a2694b4d874e292dd26c601e4065298115dda05adcd7bf"), looks := false }, kinds := [], alts := [], laidByText := true, laidKinds := [.data, .pinned], laidTests := true, laidLooks := .later }
def AxesPeaksCardSaid : Prop := Claim7.holds Tryd.pinned (.plain (OpenSpec.ofChange axesPeaksSpec)) axesPeaksCard

/-- THE TIED CARD OF 'abugidalaw09.AxesMeets'. -/
def axesMeetsCard : Claim7 := { stood := { row := axesMeetsRow, standIns := [], harness := (true, "a6bb7e9ee7f2422d58a2694b4d874e292dd26c601e4065298115dda05adcd7bf"), looks := false }, kinds := [], alts := [], laidByText := true, laidKinds := [.data, .pinned], laidTests := true, laidLooks := .later }
def AxesMeetsCardSaid : Prop := Claim7.holds Tryd.pinned (.plain (OpenSpec.ofChange axesMeetsSpec)) axesMeetsCard

/-- THE TIED CARD OF 'abugidalaw09.AxesAdds'. -/
def axesAddsCard : Claim7 := { stood := { row := axesAddsRow, standIns := [], harness := (true, "a6bb7e9ee7f2422d58a2694b4d874e292dd26c601e4065298115dda05adcd7bf"), looks := false }, kinds := [], alts := [], laidByText := true, laidKinds := [.data, .pinned], laidTests := true, laidLooks := .later }
def AxesAddsCardSaid : Prop := Claim7.holds Tryd.pinned (.plain (OpenSpec.ofChange axesAddsSpec)) axesAddsCard

/-- THE SECOND FORM's CARD OF 'abugidalaw09.AxesChecks'. -/
def axesChecksUptoCard : Claim7 := { stood := { row := axesChecksUptoRow, standIns := [], harness := (true, "a6bb7e9ee7f2422d58a2694b4d874e292dd26c601e4065298115dda05adcd7bf"), looks := false }, kinds := [], alts := [], laidByText := true, laidKinds := [.data, .pinned], laidTests := true, laidLooks := .later }
def AxesChecksUptoCardSaid : Prop := Claim7.holds Tryd.pinned (.plain (OpenSpec.upto axesChecksSpec)) axesChecksUptoCard

/-- THE SECOND FORM's CARD OF 'abugidalaw09.AxesRises'. -/
def axesRisesUptoCard : Claim7 := { stood := { row := axesRisesUptoRow, standIns := [], harness := (true, "a6bb7e9ee7f2422d58a2694b4d874e292dd26c601e4065298115dda05adcd7bf"), looks := false }, kinds := [], alts := [], laidByText := true, laidKinds := [.data, .pinned], laidTests := true, laidLooks := .later }
def AxesRisesUptoCardSaid : Prop := Claim7.holds Tryd.pinned (.plain (OpenSpec.upto axesRisesSpec)) axesRisesUptoCard

/-- THE SECOND FORM's CARD OF 'abugidalaw09.AxesRegions'. -/
def axesRegionsUptoCard : Claim7 := { stood := { row := axesRegionsUptoRow, standIns := [], harness := (true, "a6bb7e9ee7f2422d58a2694b4d874e292dd26c601e4065298115dda05adcd7bf"), looks := false }, kinds := [], alts := [], laidByText := true, laidKinds := [.data, .pinned], laidTests := true, laidLooks := .later }
def AxesRegionsUptoCardSaid : Prop := Claim7.holds Tryd.pinned (.plain (OpenSpec.upto axesRegionsSpec)) axesRegionsUptoCard

/-- THE SECOND FORM's CARD OF 'abugidalaw09.AxesSums'. -/
def axesSumsUptoCard : Claim7 := { stood := { row := axesSumsUptoRow, standIns := [], harness := (true, "a6bb7e9ee7f2422d58a2694b4d874e292dd26c601e4065298115dda05adcd7bf"), looks := false }, kinds := [], alts := [], laidByText := true, laidKinds := [.data, .pinned], laidTests := true, laidLooks := .later }
def AxesSumsUptoCardSaid : Prop := Claim7.holds Tryd.pinned (.plain (OpenSpec.upto axesSumsSpec)) axesSumsUptoCard

/-- THE SECOND FORM's CARD OF 'abugidalaw09.AxesTouches'. -/
def axesTouchesUptoCard : Claim7 := { stood := { row := axesTouchesUptoRow, standIns := [], harness := (true, "a6bb7e9ee7f2422d58a2694b4d874e292dd26c601e4065298115dda05adcd7bf"), looks := false }, kinds := [], alts := [], laidByText := true, laidKinds := [.data, .pinned], laidTests := true, laidLooks := .later }
def AxesTouchesUptoCardSaid : Prop := Claim7.holds Tryd.pinned (.plain (OpenSpec.upto axesTouchesSpec)) axesTouchesUptoCard

/-- THE SECOND FORM's CARD OF 'abugidalaw09.AxesPeaks'. -/
def axesPeaksUptoCard : Claim7 := { stood := { row := axesPeaksUptoRow, standIns := [], harness := (true, "a6bb7e9ee7f2422d58a2694b4d874e292dd26c601e4065298115dda05adcd7bf"), looks := false }, kinds := [], alts := [], laidByText := true, laidKinds := [.data, .pinned], laidTests := true, laidLooks := .later }
def AxesPeaksUptoCardSaid : Prop := Claim7.holds Tryd.pinned (.plain (OpenSpec.upto axesPeaksSpec)) axesPeaksUptoCard

/-- THE SECOND FORM's CARD OF 'abugidalaw09.AxesMeets'. -/
def axesMeetsUptoCard : Claim7 := { stood := { row := axesMeetsUptoRow, standIns := [], harness := (true, "a6bb7e9ee7f2422d58a2694b4d874e292dd26c601e4065298115dda05adcd7bf"), looks := false }, kinds := [], alts := [], laidByText := true, laidKinds := [.data, .pinned], laidTests := true, laidLooks := .later }
def AxesMeetsUptoCardSaid : Prop := Claim7.holds Tryd.pinned (.plain (OpenSpec.upto axesMeetsSpec)) axesMeetsUptoCard

/-- THE SECOND FORM's CARD OF 'abugidalaw09.AxesAdds'. -/
def axesAddsUptoCard : Claim7 := { stood := { row := axesAddsUptoRow, standIns := [], harness := (true, "a6bb7e9ee7f2422d58a2694b4d874e292dd26c601e4065298115dda05adcd7bf"), looks := false }, kinds := [], alts := [], laidByText := true, laidKinds := [.data, .pinned], laidTests := true, laidLooks := .later }
def AxesAddsUptoCardSaid : Prop := Claim7.holds Tryd.pinned (.plain (OpenSpec.upto axesAddsSpec)) axesAddsUptoCard
end Rows
end Go.Proofs.YtnonjaonklngpaaDoor
