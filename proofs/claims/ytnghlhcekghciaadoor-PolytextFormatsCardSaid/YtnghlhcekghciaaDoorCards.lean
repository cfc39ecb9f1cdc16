/-
  DERIVED. GIVEN WITH THE SEED: THE CARDS: each row of YtnghlhcekghciaaDoorRows.lean that lists a variable, with what it lists TIED to the program's text (the seventh form; the later family's looks); each row that meets fmt, with fmt's text TOLD by the authors' own Lean function (tested against real Go, not proved from fmt's source: count such statements apart). THE CARD IS WHAT COUNTS. Prove the row's statement (the work); the ties are given (YtnghlhcekghciaaDoorTie.lean); close each card by the builder's one call (the guide's Derived/Test/ToyasCard.lean, 'card_holds'). Laid BY PROGRAM, IN A SANDBOX (cutbox-door.mjs). By AI agents, Wed Nov 11 2026. No macro, syntax, notation, axiom, sorry.
-/
import Derived.Test.YtnghlhcekghciaaDoorRows
import GoSem.ClaimSeven
namespace Go.Proofs.YtnghlhcekghciaaDoor
namespace Rows

/-- THE TIED CARD OF 'cylinderlaw21.PolytextFormats'. -/
def polytextFormatsCard : Claim7 := { stood := { row := polytextFormatsRow, standIns := [], harness := (true, "28d9427769afa53e12c5a88deb55b018532b4a15e1d12f88dac73eae3bb0a3f3"), looks := false }, kinds := [], alts := [], laidByText := true, laidKinds := [.data, .data, .data], laidTests := true, laidLooks := .later }
def PolytextFormatsCardSaid : Prop := Claim7.holds Tryd.pinned (.plain (OpenSpec.ofChange polytextFormatsSpec)) polytextFormatsCard

/-- THE TIED CARD OF 'cylinderlaw21.PolytextOrder'. -/
def polytextOrderCard : Claim7 := { stood := { row := polytextOrderRow, standIns := [], harness := (true, "28d9427769afa53e12c5a88deb55b018532b4a15e1d12f88dac73eae3bb0a3f3"), looks := false }, kinds := [], alts := [], laidByText := true, laidKinds := [.data, .data, .data], laidTests := true, laidLooks := .later }
def PolytextOrderCardSaid : Prop := Claim7.holds Tryd.pinned (.plain (OpenSpec.ofChange polytextOrderSpec)) polytextOrderCard

/-- THE TIED CARD OF 'cylinderlaw21.PolytextApart'. -/
def polytextApartCard : Claim7 := { stood := { row := polytextApartRow, standIns := [], harness := (true, "28d9427769afa53e12c5a88deb55b018532b4a15e1d12f88dac73eae3bb0a3f3"), looks := false }, kinds := [], alts := [], laidByText := true, laidKinds := [.data, .data, .data], laidTests := true, laidLooks := .later }
def PolytextApartCardSaid : Prop := Claim7.holds Tryd.pinned (.plain (OpenSpec.ofChange polytextApartSpec)) polytextApartCard

/-- THE TIED CARD OF 'cylinderlaw21.PolytextRenamed'. -/
def polytextRenamedCard : Claim7 := { stood := { row := polytextRenamedRow, standIns := [], harness := (true, "28d9427769afa53e12c5a88deb55b018532b4a15e1d12f88dac73eae3bb0a3f3"), looks := false }, kinds := [], alts := [], laidByText := true, laidKinds := [.data, .data, .data], laidTests := true, laidLooks := .later }
def PolytextRenamedCardSaid : Prop := Claim7.holds Tryd.pinned (.plain (OpenSpec.ofChange polytextRenamedSpec)) polytextRenamedCard

/-- THE TIED CARD OF 'cylinderlaw21.PolytextTerms'. -/
def polytextTermsCard : Claim7 := { stood := { row := polytextTermsRow, standIns := [], harness := (true, "28d9427769afa53e12c5a88deb55b018532b4a15e1d12f88dac73eae3bb0a3f3"), looks := false }, kinds := [], alts := [], laidByText := true, laidKinds := [.data, .data, .data], laidTests := true, laidLooks := .later }
def PolytextTermsCardSaid : Prop := Claim7.holds Tryd.pinned (.plain (OpenSpec.ofChange polytextTermsSpec)) polytextTermsCard

/-- THE TIED CARD OF 'cylinderlaw21.PolytextJoins'. -/
def polytextJoinsCard : Claim7 := { stood := { row := polytextJoinsRow, standIns := [], harness := (true, "28d9427769afa53e12c5a88deb55b018532b4a15e1d12f88dac73eae3bb0a3f3"), looks := false }, kinds := [], alts := [], laidByText := true, laidKinds := [.data, .data, .data], laidTests := true, laidLooks := .later }
def PolytextJoinsCardSaid : Prop := Claim7.holds Tryd.pinned (.plain (OpenSpec.ofChange polytextJoinsSpec)) polytextJoinsCard

/-- THE SECOND FORM's CARD OF 'cylinderlaw21.PolytextFormats'. -/
def polytextFormatsUptoCard : Claim7 := { stood := { row := polytextFormatsUptoRow, standIns := [], harness := (true, "28d9427769afa53e12c5a88deb55b018532b4a15e1d12f88dac73eae3bb0a3f3"), looks := false }, kinds := [], alts := [], laidByText := true, laidKinds := [.data, .data, .data], laidTests := true, laidLooks := .later }
def PolytextFormatsUptoCardSaid : Prop := Claim7.holds Tryd.pinned (.plain (OpenSpec.upto polytextFormatsSpec)) polytextFormatsUptoCard

/-- THE SECOND FORM's CARD OF 'cylinderlaw21.PolytextOrder'. -/
def polytextOrderUptoCard : Claim7 := { stood := { row := polytextOrderUptoRow, standIns := [], harness := (true, "28d9427769afa53e12c5a88deb55b018532b4a15e1d12f88dac73eae3bb0a3f3"), looks := false }, kinds := [], alts := [], laidByText := true, laidKinds := [.data, .data, .data], laidTests := true, laidLooks := .later }
def PolytextOrderUptoCardSaid : Prop := Claim7.holds Tryd.pinned (.plain (OpenSpec.upto polytextOrderSpec)) polytextOrderUptoCard

/-- THE SECOND FORM's CARD OF 'cylinderlaw21.PolytextApart'. -/
def polytextApartUptoCard : Claim7 := { stood := { row := polytextApartUptoRow, standIns := [], harness := (true, "28d9427769afa53e12c5a88deb55b018532b4a15e1d12f88dac73eae3bb0a3f3"), looks := false }, kinds := [], alts := [], laidByText := true, laidKinds := [.data, .data, .data], laidTests := true, laidLooks := .later }
def PolytextApartUptoCardSaid : Prop := Claim7.holds Tryd.pinned (.plain (OpenSpec.upto polytextApartSpec)) polytextApartUptoCard

/-- THE SECOND FORM's CARD OF 'cylinderlaw21.PolytextRenamed'. -/
def polytextRenamedUptoCard : Claim7 := { stood := { row := polytextRenamedUptoRow, standIns := [], harness := (true, "28d9427769afa53e12c5a88deb55b018532b4a15e1d12f88dac73eae3bb0a3f3"), looks := false }, kinds := [], alts := [], laidByText := true, laidKinds := [.data, .data, .data], laidTests := true, laidLooks := .later }
def PolytextRenamedUptoCardSaid : Prop := Claim7.holds Tryd.pinned (.plain (OpenSpec.upto polytextRenamedSpec)) polytextRenamedUptoCard

/-- THE SECOND FORM's CARD OF 'cylinderlaw21.PolytextTerms'. -/
def polytextTermsUptoCard : Claim7 := { stood := { row := polytextTermsUptoRow, standIns := [], harness := (true, "28d9427769afa53e12c5a88deb55b018532b4a15e1d12f88dac73eae3bb0a3f3"), looks := false }, kinds := [], alts := [], laidByText := true, laidKinds := [.data, .data, .data], laidTests := true, laidLooks := .later }
def PolytextTermsUptoCardSaid : Prop := Claim7.holds Tryd.pinned (.plain (OpenSpec.upto polytextTermsSpec)) polytextTermsUptoCard

/-- THE SECOND FORM's CARD OF 'cylinderlaw21.PolytextJoins'. -/
def polytextJoinsUptoCard : Claim7 := { stood := { row := polytextJoinsUptoRow, standIns := [], harness := (true, "28d9427769afa53e12c5a88deb55b018532b4a15e1d12f88dac73eae3bb0a3f3"), looks := false }, kinds := [], alts := [], laidByText := true, laidKinds := [.data, .data, .data], laidTests := true, laidLooks := .later }
def PolytextJoinsUptoCardSaid : Prop := Claim7.holds Tryd.pinned (.plain (OpenSpec.upto polytextJoinsSpec)) polytextJoinsUptoCard
end Rows
end Go.Proofs.YtnghlhcekghciaaDoor
