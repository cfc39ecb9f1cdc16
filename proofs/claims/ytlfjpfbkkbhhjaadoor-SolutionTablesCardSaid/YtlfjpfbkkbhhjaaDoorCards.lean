/-
  DERIVED. GIVEN WITH THE SEED: THE CARDS: each row of YtlfjpfbkkbhhjaaDoorRows.lean that lists a variable, with what it lists TIED to the program's text (the seventh form; the later family's looks); each row that meets fmt, with fmt's text TOLD by the authors' own Lean function (tested against real Go, not proved from fmt's source: count such statements apart). THE CARD IS WHAT COUNTS. Prove the row's statement (the work); the ties are given (YtlfjpfbkkbhhjaaDoorTie.lean); close each card by the builder's one call (the guide's Derived/Test/ToyasCard.lean, 'card_holds'). Laid BY PROGRAM, IN A SANDBOX (cutbox-door.mjs). By AI agents, Wed Nov 11 2026. No macro, syntax, notation, axiom, sorry.
-/
import Derived.Test.YtlfjpfbkkbhhjaaDoorRows
import GoSem.ClaimSeven
namespace Go.Proofs.YtlfjpfbkkbhhjaaDoor
namespace Rows

/-- THE TIED CARD OF 'cylinderlaw50.SolutionCovers'. -/
def solutionCoversCard : Claim7 := { stood := { row := solutionCoversRow, standIns := [], harness := (true, "2c0228052e0f4ba3813649416fd815c062adbc52162462ebf61ea9bf3edcbbce"), looks := false }, kinds := [], alts := [], laidByText := true, laidKinds := [.data, .data, .data], laidTests := true, laidLooks := .later }
def SolutionCoversCardSaid : Prop := Claim7.holds Tryd.pinned (.plain (OpenSpec.ofChange solutionCoversSpec)) solutionCoversCard

/-- THE TIED CARD OF 'cylinderlaw50.SolutionPrime'. -/
def solutionPrimeCard : Claim7 := { stood := { row := solutionPrimeRow, standIns := [], harness := (true, "2c0228052e0f4ba3813649416fd815c062adbc52162462ebf61ea9bf3edcbbce"), looks := false }, kinds := [], alts := [], laidByText := true, laidKinds := [.data, .data, .data], laidTests := true, laidLooks := .later }
def SolutionPrimeCardSaid : Prop := Claim7.holds Tryd.pinned (.plain (OpenSpec.ofChange solutionPrimeSpec)) solutionPrimeCard

/-- THE TIED CARD OF 'cylinderlaw50.SolutionSeparated'. -/
def solutionSeparatedCard : Claim7 := { stood := { row := solutionSeparatedRow, standIns := [], harness := (true, "2c0228052e0f4ba3813649416fd815c062adbc52162462ebf61ea9bf3edcbbce"), looks := false }, kinds := [], alts := [], laidByText := true, laidKinds := [.data, .data, .data], laidTests := true, laidLooks := .later }
def SolutionSeparatedCardSaid : Prop := Claim7.holds Tryd.pinned (.plain (OpenSpec.ofChange solutionSeparatedSpec)) solutionSeparatedCard

/-- THE TIED CARD OF 'cylinderlaw50.SolutionTables'. -/
def solutionTablesCard : Claim7 := { stood := { row := solutionTablesRow, standIns := [], harness := (true, "2c0228052e0f4ba3813649416fd815c062adbc52162462ebf61ea9bf3edcbbce"), looks := false }, kinds := [], alts := [], laidByText := true, laidKinds := [.data, .data, .data], laidTests := true, laidLooks := .later }
def SolutionTablesCardSaid : Prop := Claim7.holds Tryd.pinned (.plain (OpenSpec.ofChange solutionTablesSpec)) solutionTablesCard

/-- THE TIED CARD OF 'cylinderlaw50.SolutionOrder'. -/
def solutionOrderCard : Claim7 := { stood := { row := solutionOrderRow, standIns := [], harness := (true, "2c0228052e0f4ba3813649416fd815c062adbc52162462ebf61ea9bf3edcbbce"), looks := false }, kinds := [], alts := [], laidByText := true, laidKinds := [.data, .data, .data], laidTests := true, laidLooks := .later }
def SolutionOrderCardSaid : Prop := Claim7.holds Tryd.pinned (.plain (OpenSpec.ofChange solutionOrderSpec)) solutionOrderCard

/-- THE SECOND FORM's CARD OF 'cylinderlaw50.SolutionCovers'. -/
def solutionCoversUptoCard : Claim7 := { stood := { row := solutionCoversUptoRow, standIns := [], harness := (true, "2c0228052e0f4ba3813649416fd815c062adbc52162462ebf61ea9bf3edcbbce"), looks := false }, kinds := [], alts := [], laidByText := true, laidKinds := [.data, .data, .data], laidTests := true, laidLooks := .later }
def SolutionCoversUptoCardSaid : Prop := Claim7.holds Tryd.pinned (.plain (OpenSpec.upto solutionCoversSpec)) solutionCoversUptoCard

/-- THE SECOND FORM's CARD OF 'cylinderlaw50.SolutionPrime'. -/
def solutionPrimeUptoCard : Claim7 := { stood := { row := solutionPrimeUptoRow, standIns := [], harness := (true, "2c0228052e0f4ba3813649416fd815c062adbc52162462ebf61ea9bf3edcbbce"), looks := false }, kinds := [], alts := [], laidByText := true, laidKinds := [.data, .data, .data], laidTests := true, laidLooks := .later }
def SolutionPrimeUptoCardSaid : Prop := Claim7.holds Tryd.pinned (.plain (OpenSpec.upto solutionPrimeSpec)) solutionPrimeUptoCard

/-- THE SECOND FORM's CARD OF 'cylinderlaw50.SolutionSeparated'. -/
def solutionSeparatedUptoCard : Claim7 := { stood := { row := solutionSeparatedUptoRow, standIns := [], harness := (true, "2c0228052e0f4ba3813649416fd815c062adbc52162462ebf61ea9bf3edcbbce"), looks := false }, kinds := [], alts := [], laidByText := true, laidKinds := [.data, .data, .data], laidTests := true, laidLooks := .later }
def SolutionSeparatedUptoCardSaid : Prop := Claim7.holds Tryd.pinned (.plain (OpenSpec.upto solutionSeparatedSpec)) solutionSeparatedUptoCard

/-- THE SECOND FORM's CARD OF 'cylinderlaw50.SolutionTables'. -/
def solutionTablesUptoCard : Claim7 := { stood := { row := solutionTablesUptoRow, standIns := [], harness := (true, "2c0228052e0f4ba3813649416fd815c062adbc52162462ebf61ea9bf3edcbbce"), looks := false }, kinds := [], alts := [], laidByText := true, laidKinds := [.data, .data, .data], laidTests := true, laidLooks := .later }
def SolutionTablesUptoCardSaid : Prop := Claim7.holds Tryd.pinned (.plain (OpenSpec.upto solutionTablesSpec)) solutionTablesUptoCard

/-- THE SECOND FORM's CARD OF 'cylinderlaw50.SolutionOrder'. -/
def solutionOrderUptoCard : Claim7 := { stood := { row := solutionOrderUptoRow, standIns := [], harness := (true, "2c0228052e0f4ba3813649416fd815c062adbc52162462ebf61ea9bf3edcbbce"), looks := false }, kinds := [], alts := [], laidByText := true, laidKinds := [.data, .data, .data], laidTests := true, laidLooks := .later }
def SolutionOrderUptoCardSaid : Prop := Claim7.holds Tryd.pinned (.plain (OpenSpec.upto solutionOrderSpec)) solutionOrderUptoCard
end Rows
end Go.Proofs.YtlfjpfbkkbhhjaaDoor
