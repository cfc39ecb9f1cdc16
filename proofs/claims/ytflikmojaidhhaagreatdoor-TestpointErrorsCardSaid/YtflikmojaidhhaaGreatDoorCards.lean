/-
  DERIVED. GIVEN WITH THE SEED: THE CARDS: each row of YtflikmojaidhhaaGreatDoorRows.lean that lists a variable, with what it lists TIED to the program's text (the seventh form; the later family's looks); each row that meets fmt, with fmt's text TOLD by the authors' own Lean function (tested against real Go, not proved from fmt's source: count such statements apart). THE CARD IS WHAT COUNTS. Prove the row's statement (the work); the ties are given (YtflikmojaidhhaaGreatDoorTie.lean); close each card by the builder's one call (the guide's Derived/Test/ToyasCard.lean, 'card_holds'). Laid BY PROGRAM, IN A SANDBOX (cutbox-door.mjs). By AI agents, Wed Nov 11 2026. No macro, syntax, notation, axiom, sorry.
-/
import Derived.Test.YtflikmojaidhhaaGreatDoorRows
import GoSem.ClaimSeven
namespace Go.Proofs.YtflikmojaidhhaaGreatDoor
namespace Rows

/-- THE TIED CARD OF 'cylinderlaw52.TestpointErrors'. -/
def testpointErrorsCard : Claim7 := { stood := { row := testpointErrorsRow, standIns := [], harness := (true, "03a8f6a2a8f45f95c42e0b96a4ce09cce51c9fa15033201be99ebbfecc9eefde"), looks := false }, kinds := [], alts := [], laidByText := true, laidKinds := [.data, .data, .data], laidTests := true, laidLooks := .later }
def TestpointErrorsCardSaid : Prop := Claim7.holds Tryz.pinned (.plain (OpenSpec.ofChange testpointErrorsSpec)) testpointErrorsCard

/-- THE SECOND FORM's CARD OF 'cylinderlaw52.TestpointErrors'. -/
def testpointErrorsUptoCard : Claim7 := { stood := { row := testpointErrorsUptoRow, standIns := [], harness := (true, "03a8f6a2a8f45f95c42e0b96a4ce09cce51c9fa15033201be99ebbfecc9eefde"), looks := false }, kinds := [], alts := [], laidByText := true, laidKinds := [.data, .data, .data], laidTests := true, laidLooks := .later }
def TestpointErrorsUptoCardSaid : Prop := Claim7.holds Tryz.pinned (.plain (OpenSpec.upto testpointErrorsSpec)) testpointErrorsUptoCard
end Rows
end Go.Proofs.YtflikmojaidhhaaGreatDoor
