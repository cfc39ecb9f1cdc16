/-
  DERIVED. GIVEN WITH THE SEED: THE CARDS: each row of YtnghlhcekghciaaGreatDoorRows.lean that lists a variable, with what it lists TIED to the program's text (the seventh form; the later family's looks); each row that meets fmt, with fmt's text TOLD by the authors' own Lean function (tested against real Go, not proved from fmt's source: count such statements apart). THE CARD IS WHAT COUNTS. Prove the row's statement (the work); the ties are given (YtnghlhcekghciaaGreatDoorTie.lean); close each card by the builder's one call (the guide's Derived/Test/ToyasCard.lean, 'card_holds'). Laid BY PROGRAM, IN A SANDBOX (cutbox-door.mjs). By AI agents, Wed Nov 11 2026. No macro, syntax, notation, axiom, sorry.
-/
import Derived.Test.YtnghlhcekghciaaGreatDoorRows
import GoSem.ClaimSeven
namespace Go.Proofs.YtnghlhcekghciaaGreatDoor
namespace Rows

/-- THE TIED CARD OF 'cylinderlaw21.PolytextParses'. -/
def polytextParsesCard : Claim7 := { stood := { row := polytextParsesRow, standIns := [], harness := (true, "d48a1c58fd37d1f9781e36c9c379de335c4dca2ff0f39d011e725c83a1ebf2a2"), looks := false }, kinds := [], alts := [], laidByText := true, laidKinds := [.data, .data, .data, .data, .pinned], laidTests := true, laidLooks := .later }
def PolytextParsesCardSaid : Prop := Claim7.holds Tryz.pinned (.plain (OpenSpec.ofChange polytextParsesSpec)) polytextParsesCard

/-- THE TIED CARD OF 'cylinderlaw21.PolytextBack'. -/
def polytextBackCard : Claim7 := { stood := { row := polytextBackRow, standIns := [], harness := (true, "d48a1c58fd37d1f9781e36c9c379de335c4dca2ff0f39d011e725c83a1ebf2a2"), looks := false }, kinds := [], alts := [], laidByText := true, laidKinds := [.data, .data, .data, .data, .pinned], laidTests := true, laidLooks := .later }
def PolytextBackCardSaid : Prop := Claim7.holds Tryz.pinned (.plain (OpenSpec.ofChange polytextBackSpec)) polytextBackCard

/-- THE TIED CARD OF 'cylinderlaw21.PolytextNames'. -/
def polytextNamesCard : Claim7 := { stood := { row := polytextNamesRow, standIns := [], harness := (true, "d48a1c58fd37d1f9781e36c9c379de335c4dca2ff0f39d011e725c83a1ebf2a2"), looks := false }, kinds := [], alts := [], laidByText := true, laidKinds := [.data, .data, .data, .data, .pinned], laidTests := true, laidLooks := .later }
def PolytextNamesCardSaid : Prop := Claim7.holds Tryz.pinned (.plain (OpenSpec.ofChange polytextNamesSpec)) polytextNamesCard

/-- THE SECOND FORM's CARD OF 'cylinderlaw21.PolytextParses'. -/
def polytextParsesUptoCard : Claim7 := { stood := { row := polytextParsesUptoRow, standIns := [], harness := (true, "d48a1c58fd37d1f9781e36c9c379de335c4dca2ff0f39d011e725c83a1ebf2a2"), looks := false }, kinds := [], alts := [], laidByText := true, laidKinds := [.data, .data, .data, .data, .pinned], laidTests := true, laidLooks := .later }
def PolytextParsesUptoCardSaid : Prop := Claim7.holds Tryz.pinned (.plain (OpenSpec.upto polytextParsesSpec)) polytextParsesUptoCard

/-- THE SECOND FORM's CARD OF 'cylinderlaw21.PolytextBack'. -/
def polytextBackUptoCard : Claim7 := { stood := { row := polytextBackUptoRow, standIns := [], harness := (true, "d48a1c58fd37d1f9781e36c9c379de335c4dca2ff0f39d011e725c83a1ebf2a2"), looks := false }, kinds := [], alts := [], laidByText := true, laidKinds := [.data, .data, .data, .data, .pinned], laidTests := true, laidLooks := .later }
def PolytextBackUptoCardSaid : Prop := Claim7.holds Tryz.pinned (.plain (OpenSpec.upto polytextBackSpec)) polytextBackUptoCard

/-- THE SECOND FORM's CARD OF 'cylinderlaw21.PolytextNames'. -/
def polytextNamesUptoCard : Claim7 := { stood := { row := polytextNamesUptoRow, standIns := [], harness := (true, "d48a1c58fd37d1f9781e36c9c379de335c4dca2ff0f39d011e725c83a1ebf2a2"), looks := false }, kinds := [], alts := [], laidByText := true, laidKinds := [.data, .data, .data, .data, .pinned], laidTests := true, laidLooks := .later }
def PolytextNamesUptoCardSaid : Prop := Claim7.holds Tryz.pinned (.plain (OpenSpec.upto polytextNamesSpec)) polytextNamesUptoCard
end Rows
end Go.Proofs.YtnghlhcekghciaaGreatDoor
