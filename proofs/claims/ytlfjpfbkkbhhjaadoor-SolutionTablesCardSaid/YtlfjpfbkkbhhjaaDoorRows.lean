/-
  NARROWER THAN 'FOR EVERY INPUT', by the rows' own cells (each row's printed sentence says how): SolutionCovers: laid · SolutionPrime: laid · SolutionSeparated: laid · SolutionTables: laid · SolutionOrder: laid.
  DERIVED. THE GIVEN ROWS OF THIS SEAT. 5 by the template 'for every input the law returns true; each argument reads behind the call as it read before'; 0 by the template 'total and deterministic' (their statements: YtlfjpfbkkbhhjaaDoorTotals.lean).
  GIVEN WITH THE SEED: the statements are not yours to turn. If you find one false, say at which input.
  Laid BY PROGRAM, IN A SANDBOX (cutbox-rows.mjs): the forced cells as the released guide's own fill.sh prints them over the translation 5962e5d486bc0765… (all of the seat's roots in one cut). By AI agents, Wed Nov 11 2026. No macro, syntax, notation, axiom, sorry.
-/
import Derived.Test.YtlfjpfbkkbhhjaaDoorChecked
import GoSem.Claim
import GoSem.ClaimJoined
import GoSem.ClaimMapViews
import Derived.JoinedTies
import Derived.KernelRfl
namespace Go.Proofs.YtlfjpfbkkbhhjaaDoor
/- THE CELL 'sum', in the pinned program and in every row, IS THE sha256 OF THE DUMP (.gsa) THAT YtlfjpfbkkbhhjaaDoorProg.lean LOADS. Nothing in Lean hashes anything: it is a label: what it is worth is what the hold of that sum in a sandbox is worth. -/
noncomputable def Tryd.pinned : Pinned := { name := "ytlfjpfbkkbhhjaadoor", sum := "5962e5d486bc076554f747a485b3f852dcdde69037af48015142e3360522d213", checked := Tryd.checked }
namespace Rows
def none {H : Type} : Left H := { results := [], args := [] }

/- WHAT THE LISTED PACKAGE-LEVEL VARIABLES READ AS WHEN THE CALL BEGINS. Each datum BY PROGRAM (the guide's laid-datum.mjs) off the statement by which the dump's own 'gosem.cut.vars' lays the variable. In a bare row this is a premise. The card (YtlfjpfbkkbhhjaaDoorCards.lean) ties it to the program's text. -/
def laid_math_bits_deBruijn32tab {H : Type} : DataW H := .agg [.lit (.int .u8 0), .lit (.int .u8 1), .lit (.int .u8 28), .lit (.int .u8 2), .lit (.int .u8 29), .lit (.int .u8 14), .lit (.int .u8 24), .lit (.int .u8 3), .lit (.int .u8 30), .lit (.int .u8 22), .lit (.int .u8 20), .lit (.int .u8 15), .lit (.int .u8 25), .lit (.int .u8 17), .lit (.int .u8 4), .lit (.int .u8 8), .lit (.int .u8 31), .lit (.int .u8 27), .lit (.int .u8 13), .lit (.int .u8 23), .lit (.int .u8 21), .lit (.int .u8 19), .lit (.int .u8 16), .lit (.int .u8 7), .lit (.int .u8 26), .lit (.int .u8 12), .lit (.int .u8 18), .lit (.int .u8 6), .lit (.int .u8 11), .lit (.int .u8 5), .lit (.int .u8 10), .lit (.int .u8 9)]
def laid_math_bits_deBruijn64tab {H : Type} : DataW H := .agg [.lit (.int .u8 0), .lit (.int .u8 1), .lit (.int .u8 56), .lit (.int .u8 2), .lit (.int .u8 57), .lit (.int .u8 49), .lit (.int .u8 28), .lit (.int .u8 3), .lit (.int .u8 61), .lit (.int .u8 58), .lit (.int .u8 42), .lit (.int .u8 50), .lit (.int .u8 38), .lit (.int .u8 29), .lit (.int .u8 17), .lit (.int .u8 4), .lit (.int .u8 62), .lit (.int .u8 47), .lit (.int .u8 59), .lit (.int .u8 36), .lit (.int .u8 45), .lit (.int .u8 43), .lit (.int .u8 51), .lit (.int .u8 22), .lit (.int .u8 53), .lit (.int .u8 39), .lit (.int .u8 33), .lit (.int .u8 30), .lit (.int .u8 24), .lit (.int .u8 18), .lit (.int .u8 12), .lit (.int .u8 5), .lit (.int .u8 63), .lit (.int .u8 55), .lit (.int .u8 48), .lit (.int .u8 27), .lit (.int .u8 60), .lit (.int .u8 41), .lit (.int .u8 37), .lit (.int .u8 16), .lit (.int .u8 46), .lit (.int .u8 35), .lit (.int .u8 44), .lit (.int .u8 21), .lit (.int .u8 52), .lit (.int .u8 32), .lit (.int .u8 23), .lit (.int .u8 11), .lit (.int .u8 54), .lit (.int .u8 26), .lit (.int .u8 40), .lit (.int .u8 15), .lit (.int .u8 34), .lit (.int .u8 20), .lit (.int .u8 31), .lit (.int .u8 10), .lit (.int .u8 25), .lit (.int .u8 14), .lit (.int .u8 19), .lit (.int .u8 9), .lit (.int .u8 13), .lit (.int .u8 8), .lit (.int .u8 7), .lit (.int .u8 6)]
def laid_internal_strconv_uint64pow10 {H : Type} : DataW H := .agg [.lit (.int .u64 1), .lit (.int .u64 10), .lit (.int .u64 100), .lit (.int .u64 1000), .lit (.int .u64 10000), .lit (.int .u64 100000), .lit (.int .u64 1000000), .lit (.int .u64 10000000), .lit (.int .u64 100000000), .lit (.int .u64 1000000000), .lit (.int .u64 10000000000), .lit (.int .u64 100000000000), .lit (.int .u64 1000000000000), .lit (.int .u64 10000000000000), .lit (.int .u64 100000000000000), .lit (.int .u64 1000000000000000), .lit (.int .u64 10000000000000000), .lit (.int .u64 100000000000000000), .lit (.int .u64 1000000000000000000), .lit (.int .u64 10000000000000000000)]

/-- 'cylinderlaw50.SolutionCovers': WHATEVER THE INPUT: true; the input reads as it did. -/
def solutionCoversSpec : ChangeSpec := { name := "solutionCovers", fn := fun _ => fun
  | [d1, d2] => { results := [.lit (.bool true)], args := [d1, d2] }
  | _ => none }
def solutionCoversRow : OpenClaim := { program := "ytlfjpfbkkbhhjaadoor", sum := "5962e5d486bc076554f747a485b3f852dcdde69037af48015142e3360522d213", func := "cylinder/cylinderlaw50.SolutionCovers", spec := "solutionCovers", unfollowed := true, recurses := true, named := ["internal/strconv.uint64pow10", "math/bits.deBruijn32tab", "math/bits.deBruijn64tab"], apart := false, laid := [("math/bits.deBruijn32tab", laid_math_bits_deBruijn32tab), ("math/bits.deBruijn64tab", laid_math_bits_deBruijn64tab), ("internal/strconv.uint64pow10", laid_internal_strconv_uint64pow10)] }
def SolutionCoversSaid : Prop := solutionCoversRow.holds Tryd.pinned (OpenSpec.ofChange solutionCoversSpec)

/-- ITS FALSE NEIGHBOUR: 'it returns false'. Refute it at one input. -/
def solutionCoversWrong : ChangeSpec := { name := "solutionCovers", fn := fun _ => fun
  | [d1, d2] => { results := [.lit (.bool false)], args := [d1, d2] }
  | _ => none }
def SolutionCoversWrongFalsely : Prop := solutionCoversRow.holds Tryd.pinned (OpenSpec.ofChange solutionCoversWrong)

/-- 'cylinderlaw50.SolutionPrime': WHATEVER THE INPUT: true; the input reads as it did. -/
def solutionPrimeSpec : ChangeSpec := { name := "solutionPrime", fn := fun _ => fun
  | [d1, d2] => { results := [.lit (.bool true)], args := [d1, d2] }
  | _ => none }
def solutionPrimeRow : OpenClaim := { program := "ytlfjpfbkkbhhjaadoor", sum := "5962e5d486bc076554f747a485b3f852dcdde69037af48015142e3360522d213", func := "cylinder/cylinderlaw50.SolutionPrime", spec := "solutionPrime", unfollowed := true, recurses := true, named := ["internal/strconv.uint64pow10", "math/bits.deBruijn32tab", "math/bits.deBruijn64tab"], apart := false, laid := [("math/bits.deBruijn32tab", laid_math_bits_deBruijn32tab), ("math/bits.deBruijn64tab", laid_math_bits_deBruijn64tab), ("internal/strconv.uint64pow10", laid_internal_strconv_uint64pow10)] }
def SolutionPrimeSaid : Prop := solutionPrimeRow.holds Tryd.pinned (OpenSpec.ofChange solutionPrimeSpec)

/-- ITS FALSE NEIGHBOUR: 'it returns false'. Refute it at one input. -/
def solutionPrimeWrong : ChangeSpec := { name := "solutionPrime", fn := fun _ => fun
  | [d1, d2] => { results := [.lit (.bool false)], args := [d1, d2] }
  | _ => none }
def SolutionPrimeWrongFalsely : Prop := solutionPrimeRow.holds Tryd.pinned (OpenSpec.ofChange solutionPrimeWrong)

/-- 'cylinderlaw50.SolutionSeparated': WHATEVER THE INPUT: true; the input reads as it did. -/
def solutionSeparatedSpec : ChangeSpec := { name := "solutionSeparated", fn := fun _ => fun
  | [d] => { results := [.lit (.bool true)], args := [d] }
  | _ => none }
def solutionSeparatedRow : OpenClaim := { program := "ytlfjpfbkkbhhjaadoor", sum := "5962e5d486bc076554f747a485b3f852dcdde69037af48015142e3360522d213", func := "cylinder/cylinderlaw50.SolutionSeparated", spec := "solutionSeparated", unfollowed := true, recurses := true, named := ["internal/strconv.uint64pow10", "math/bits.deBruijn32tab", "math/bits.deBruijn64tab"], apart := false, laid := [("math/bits.deBruijn32tab", laid_math_bits_deBruijn32tab), ("math/bits.deBruijn64tab", laid_math_bits_deBruijn64tab), ("internal/strconv.uint64pow10", laid_internal_strconv_uint64pow10)] }
def SolutionSeparatedSaid : Prop := solutionSeparatedRow.holds Tryd.pinned (OpenSpec.ofChange solutionSeparatedSpec)

/-- ITS FALSE NEIGHBOUR: 'it returns false'. Refute it at one input. -/
def solutionSeparatedWrong : ChangeSpec := { name := "solutionSeparated", fn := fun _ => fun
  | [d] => { results := [.lit (.bool false)], args := [d] }
  | _ => none }
def SolutionSeparatedWrongFalsely : Prop := solutionSeparatedRow.holds Tryd.pinned (OpenSpec.ofChange solutionSeparatedWrong)

/-- 'cylinderlaw50.SolutionTables': WHATEVER THE INPUT: true; the input reads as it did. -/
def solutionTablesSpec : ChangeSpec := { name := "solutionTables", fn := fun _ => fun
  | [d] => { results := [.lit (.bool true)], args := [d] }
  | _ => none }
def solutionTablesRow : OpenClaim := { program := "ytlfjpfbkkbhhjaadoor", sum := "5962e5d486bc076554f747a485b3f852dcdde69037af48015142e3360522d213", func := "cylinder/cylinderlaw50.SolutionTables", spec := "solutionTables", unfollowed := true, recurses := true, named := ["internal/strconv.uint64pow10", "math/bits.deBruijn32tab", "math/bits.deBruijn64tab"], apart := false, laid := [("math/bits.deBruijn32tab", laid_math_bits_deBruijn32tab), ("math/bits.deBruijn64tab", laid_math_bits_deBruijn64tab), ("internal/strconv.uint64pow10", laid_internal_strconv_uint64pow10)] }
def SolutionTablesSaid : Prop := solutionTablesRow.holds Tryd.pinned (OpenSpec.ofChange solutionTablesSpec)

/-- ITS FALSE NEIGHBOUR: 'it returns false'. Refute it at one input. -/
def solutionTablesWrong : ChangeSpec := { name := "solutionTables", fn := fun _ => fun
  | [d] => { results := [.lit (.bool false)], args := [d] }
  | _ => none }
def SolutionTablesWrongFalsely : Prop := solutionTablesRow.holds Tryd.pinned (OpenSpec.ofChange solutionTablesWrong)

/-- 'cylinderlaw50.SolutionOrder': WHATEVER THE INPUT: true; the input reads as it did. -/
def solutionOrderSpec : ChangeSpec := { name := "solutionOrder", fn := fun _ => fun
  | [d1, d2, d3] => { results := [.lit (.bool true)], args := [d1, d2, d3] }
  | _ => none }
def solutionOrderRow : OpenClaim := { program := "ytlfjpfbkkbhhjaadoor", sum := "5962e5d486bc076554f747a485b3f852dcdde69037af48015142e3360522d213", func := "cylinder/cylinderlaw50.SolutionOrder", spec := "solutionOrder", unfollowed := true, recurses := true, named := ["internal/strconv.uint64pow10", "math/bits.deBruijn32tab", "math/bits.deBruijn64tab"], apart := false, laid := [("math/bits.deBruijn32tab", laid_math_bits_deBruijn32tab), ("math/bits.deBruijn64tab", laid_math_bits_deBruijn64tab), ("internal/strconv.uint64pow10", laid_internal_strconv_uint64pow10)] }
def SolutionOrderSaid : Prop := solutionOrderRow.holds Tryd.pinned (OpenSpec.ofChange solutionOrderSpec)

/-- ITS FALSE NEIGHBOUR: 'it returns false'. Refute it at one input. -/
def solutionOrderWrong : ChangeSpec := { name := "solutionOrder", fn := fun _ => fun
  | [d1, d2, d3] => { results := [.lit (.bool false)], args := [d1, d2, d3] }
  | _ => none }
def SolutionOrderWrongFalsely : Prop := solutionOrderRow.holds Tryd.pinned (OpenSpec.ofChange solutionOrderWrong)

/- THE SECOND FORM. 'bulk': how many values and letters a reading holds, each counted each time it is reached (what is shared counts as often as it is met; a slice's spare places count too). A statement '..UptoSaid' is the law's where the arguments, and the package variables that the reading takes, are together of bulk at most 1048576: NARROWER than '..Said'. Prove '..Said' where nothing that the law and all that it calls make is longer than what came in: it says more and counts as full. Else prove '..UptoSaid'. A law counts once. -/
mutual
def uptoBulk {H : Type} : DataW H → Nat
  | .lit (.string bytes) => bytes.length + 1
  | .lit _ => 1
  | .nil => 1
  | .ptr d => uptoBulk d + 1
  | .slice elems spare => uptoBulkAll elems + uptoBulkAll spare + 1
  | .agg parts => uptoBulkAll parts + 1
  | .iface _ d => uptoBulk d + 1
  | .map entries => uptoBulkEntries entries + 1
  | .held _ => 1
def uptoBulkAll {H : Type} : List (DataW H) → Nat
  | [] => 0
  | d :: r => uptoBulk d + uptoBulkAll r
def uptoBulkEntries {H : Type} : List (Lit × DataW H) → Nat
  | [] => 0
  | x :: r => uptoBulkEntry x + uptoBulkEntries r
def uptoBulkEntry {H : Type} : Lit × DataW H → Nat
  | (.string bytes, d) => bytes.length + uptoBulk d + 1
  | (_, d) => uptoBulk d + 1
 end
def uptoSmall : (H : Type) → List (DataW H) → Bool := fun _ ds => decide (uptoBulkAll ds ≤ 1048576)
def OpenSpec.upto (s : _root_.Go.ChangeSpec) : _root_.Go.OpenSpec := { _root_.Go.OpenSpec.ofChange s with cond := some uptoSmall }

/-- 'cylinderlaw50.SolutionCovers', WHERE WHAT IT READS IS OF BULK AT MOST 1048576: true; the input reads as it did. -/
def solutionCoversUptoRow : OpenClaim := { program := "ytlfjpfbkkbhhjaadoor", sum := "5962e5d486bc076554f747a485b3f852dcdde69037af48015142e3360522d213", func := "cylinder/cylinderlaw50.SolutionCovers", spec := "solutionCovers", unfollowed := true, recurses := true, named := ["internal/strconv.uint64pow10", "math/bits.deBruijn32tab", "math/bits.deBruijn64tab"], apart := false, laid := [("math/bits.deBruijn32tab", laid_math_bits_deBruijn32tab), ("math/bits.deBruijn64tab", laid_math_bits_deBruijn64tab), ("internal/strconv.uint64pow10", laid_internal_strconv_uint64pow10)], narrowed := true }
def SolutionCoversUptoSaid : Prop := solutionCoversUptoRow.holds Tryd.pinned (OpenSpec.upto solutionCoversSpec)

/-- 'cylinderlaw50.SolutionPrime', WHERE WHAT IT READS IS OF BULK AT MOST 1048576: true; the input reads as it did. -/
def solutionPrimeUptoRow : OpenClaim := { program := "ytlfjpfbkkbhhjaadoor", sum := "5962e5d486bc076554f747a485b3f852dcdde69037af48015142e3360522d213", func := "cylinder/cylinderlaw50.SolutionPrime", spec := "solutionPrime", unfollowed := true, recurses := true, named := ["internal/strconv.uint64pow10", "math/bits.deBruijn32tab", "math/bits.deBruijn64tab"], apart := false, laid := [("math/bits.deBruijn32tab", laid_math_bits_deBruijn32tab), ("math/bits.deBruijn64tab", laid_math_bits_deBruijn64tab), ("internal/strconv.uint64pow10", laid_internal_strconv_uint64pow10)], narrowed := true }
def SolutionPrimeUptoSaid : Prop := solutionPrimeUptoRow.holds Tryd.pinned (OpenSpec.upto solutionPrimeSpec)

/-- 'cylinderlaw50.SolutionSeparated', WHERE WHAT IT READS IS OF BULK AT MOST 1048576: true; the input reads as it did. -/
def solutionSeparatedUptoRow : OpenClaim := { program := "ytlfjpfbkkbhhjaadoor", sum := "5962e5d486bc076554f747a485b3f852dcdde69037af48015142e3360522d213", func := "cylinder/cylinderlaw50.SolutionSeparated", spec := "solutionSeparated", unfollowed := true, recurses := true, named := ["internal/strconv.uint64pow10", "math/bits.deBruijn32tab", "math/bits.deBruijn64tab"], apart := false, laid := [("math/bits.deBruijn32tab", laid_math_bits_deBruijn32tab), ("math/bits.deBruijn64tab", laid_math_bits_deBruijn64tab), ("internal/strconv.uint64pow10", laid_internal_strconv_uint64pow10)], narrowed := true }
def SolutionSeparatedUptoSaid : Prop := solutionSeparatedUptoRow.holds Tryd.pinned (OpenSpec.upto solutionSeparatedSpec)

/-- 'cylinderlaw50.SolutionTables', WHERE WHAT IT READS IS OF BULK AT MOST 1048576: true; the input reads as it did. -/
def solutionTablesUptoRow : OpenClaim := { program := "ytlfjpfbkkbhhjaadoor", sum := "5962e5d486bc076554f747a485b3f852dcdde69037af48015142e3360522d213", func := "cylinder/cylinderlaw50.SolutionTables", spec := "solutionTables", unfollowed := true, recurses := true, named := ["internal/strconv.uint64pow10", "math/bits.deBruijn32tab", "math/bits.deBruijn64tab"], apart := false, laid := [("math/bits.deBruijn32tab", laid_math_bits_deBruijn32tab), ("math/bits.deBruijn64tab", laid_math_bits_deBruijn64tab), ("internal/strconv.uint64pow10", laid_internal_strconv_uint64pow10)], narrowed := true }
def SolutionTablesUptoSaid : Prop := solutionTablesUptoRow.holds Tryd.pinned (OpenSpec.upto solutionTablesSpec)

/-- 'cylinderlaw50.SolutionOrder', WHERE WHAT IT READS IS OF BULK AT MOST 1048576: true; the input reads as it did. -/
def solutionOrderUptoRow : OpenClaim := { program := "ytlfjpfbkkbhhjaadoor", sum := "5962e5d486bc076554f747a485b3f852dcdde69037af48015142e3360522d213", func := "cylinder/cylinderlaw50.SolutionOrder", spec := "solutionOrder", unfollowed := true, recurses := true, named := ["internal/strconv.uint64pow10", "math/bits.deBruijn32tab", "math/bits.deBruijn64tab"], apart := false, laid := [("math/bits.deBruijn32tab", laid_math_bits_deBruijn32tab), ("math/bits.deBruijn64tab", laid_math_bits_deBruijn64tab), ("internal/strconv.uint64pow10", laid_internal_strconv_uint64pow10)], narrowed := true }
def SolutionOrderUptoSaid : Prop := solutionOrderUptoRow.holds Tryd.pinned (OpenSpec.upto solutionOrderSpec)

end Rows
end Go.Proofs.YtlfjpfbkkbhhjaaDoor
