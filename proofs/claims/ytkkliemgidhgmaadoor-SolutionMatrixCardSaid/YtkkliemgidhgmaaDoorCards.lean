/-
  DERIVED. GIVEN WITH THE SEED: THE CARDS: each row of YtkkliemgidhgmaaDoorRows.lean that lists a variable, with what it lists TIED to the program's text (the seventh form; the later family's looks); each row that meets fmt, with fmt's text TOLD by the authors' own Lean function (tested against real Go, not proved from fmt's source: count such statements apart). THE CARD IS WHAT COUNTS. Prove the row's statement (the work); the ties are given (YtkkliemgidhgmaaDoorTie.lean); close each card by the builder's one call (the guide's Derived/Test/ToyasCard.lean, 'card_holds'). Laid BY PROGRAM, IN A SANDBOX (cutbox-door.mjs). By AI agents, Wed Nov 11 2026. No macro, syntax, notation, axiom, sorry.
-/
import Derived.Test.YtkkliemgidhgmaaDoorRows
import GoSem.ClaimSeven
namespace Go.Proofs.YtkkliemgidhgmaaDoor
namespace Rows

/-- THE TIED CARD OF 'cylinderlaw50.SolutionMatrix'. -/
def solutionMatrixCard : Claim7 := { stood := { row := solutionMatrixRow, standIns := [], harness := (true, "a714d9c6cfc026b88676beeba7915ce786fc26b75da2a3d55ce2d894fc179aa2"), looks := false }, kinds := [], alts := [], laidByText := true, laidKinds := [.data, .data, .data], laidTests := true, laidLooks := .later }
def SolutionMatrixCardSaid : Prop := Claim7.holds Tryd.pinned (.plain (OpenSpec.ofChange solutionMatrixSpec)) solutionMatrixCard

/-- THE SECOND FORM's CARD OF 'cylinderlaw50.SolutionMatrix'. -/
def solutionMatrixUptoCard : Claim7 := { stood := { row := solutionMatrixUptoRow, standIns := [], harness := (true, "a714d9c6cfc026b88676beeba7915ce786fc26b75da2a3d55ce2d894fc179aa2"), looks := false }, kinds := [], alts := [], laidByText := true, laidKinds := [.data, .data, .data], laidTests := true, laidLooks := .later }
def SolutionMatrixUptoCardSaid : Prop := Claim7.holds Tryd.pinned (.plain (OpenSpec.upto solutionMatrixSpec)) solutionMatrixUptoCard
end Rows
end Go.Proofs.YtkkliemgidhgmaaDoor
