/-
  DERIVED. GIVEN WITH THE SEED: THE CARDS: each row of YtkkliemgidhgmaaGreatDoorRows.lean that lists a variable, with what it lists TIED to the program's text (the seventh form; the later family's looks); each row that meets fmt, with fmt's text TOLD by the authors' own Lean function (tested against real Go, not proved from fmt's source: count such statements apart). THE CARD IS WHAT COUNTS. Prove the row's statement (the work); the ties are given (YtkkliemgidhgmaaGreatDoorTie.lean); close each card by the builder's one call (the guide's Derived/Test/ToyasCard.lean, 'card_holds'). Laid BY PROGRAM, IN A SANDBOX (cutbox-door.mjs). By AI agents, Wed Nov 11 2026. No macro, syntax, notation, axiom, sorry.
-/
import Derived.Test.YtkkliemgidhgmaaGreatDoorRows
import GoSem.ClaimSeven
namespace Go.Proofs.YtkkliemgidhgmaaGreatDoor
namespace Rows

/-- THE TIED CARD OF 'cylinderlaw50.SolutionBuilds'. -/
def solutionBuildsCard : Claim7 := { stood := { row := solutionBuildsRow, standIns := [], harness := (true, "c99b7a270873bc05eff138ea3a75c9eb49242942e198ac28a39d67d9b6d0ab28"), looks := false }, kinds := [], alts := [], laidByText := true, laidKinds := [.data, .data, .data], laidTests := true, laidLooks := .later }
def SolutionBuildsCardSaid : Prop := Claim7.holds Tryz.pinned (.plain (OpenSpec.ofChange solutionBuildsSpec)) solutionBuildsCard

/-- THE TIED CARD OF 'cylinderlaw50.SolutionTruth'. -/
def solutionTruthCard : Claim7 := { stood := { row := solutionTruthRow, standIns := [], harness := (true, "c99b7a270873bc05eff138ea3a75c9eb49242942e198ac28a39d67d9b6d0ab28"), looks := false }, kinds := [], alts := [], laidByText := true, laidKinds := [.data, .data, .data], laidTests := true, laidLooks := .later }
def SolutionTruthCardSaid : Prop := Claim7.holds Tryz.pinned (.plain (OpenSpec.ofChange solutionTruthSpec)) solutionTruthCard

/-- THE SECOND FORM's CARD OF 'cylinderlaw50.SolutionBuilds'. -/
def solutionBuildsUptoCard : Claim7 := { stood := { row := solutionBuildsUptoRow, standIns := [], harness := (true, "c99b7a270873bc05eff138ea3a75c9eb49242942e198ac28a39d67d9b6d0ab28"), looks := false }, kinds := [], alts := [], laidByText := true, laidKinds := [.data, .data, .data], laidTests := true, laidLooks := .later }
def SolutionBuildsUptoCardSaid : Prop := Claim7.holds Tryz.pinned (.plain (OpenSpec.upto solutionBuildsSpec)) solutionBuildsUptoCard

/-- THE SECOND FORM's CARD OF 'cylinderlaw50.SolutionTruth'. -/
def solutionTruthUptoCard : Claim7 := { stood := { row := solutionTruthUptoRow, standIns := [], harness := (true, "c99b7a270873bc05eff138ea3a75c9eb49242942e198ac28a39d67d9b6d0ab28"), looks := false }, kinds := [], alts := [], laidByText := true, laidKinds := [.data, .data, .data], laidTests := true, laidLooks := .later }
def SolutionTruthUptoCardSaid : Prop := Claim7.holds Tryz.pinned (.plain (OpenSpec.upto solutionTruthSpec)) solutionTruthUptoCard
end Rows
end Go.Proofs.YtkkliemgidhgmaaGreatDoor
