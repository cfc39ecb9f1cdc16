/-
  No cell of these rows narrows 'for every input' (looked for: loops, veiled, ifaces, maps, wideKeys, modest, calm, conditions, laid).
  DERIVED. THE GIVEN ROWS OF THIS SEAT. 3 by the template 'for every input the law returns true; each argument reads behind the call as it read before'; 0 by the template 'total and deterministic' (their statements: YtpbapoanjkekmaaGreatTotals.lean).
  GIVEN WITH THE SEED: the statements are not yours to turn. If you find one false, say at which input.
  Laid BY PROGRAM, IN A SANDBOX (cutbox-rows.mjs): the forced cells as the released guide's own fill.sh prints them over the translation d57879de98342058… (all of the seat's roots in one cut). By AI agents, Wed Nov 11 2026. No macro, syntax, notation, axiom, sorry.
-/
import Derived.Test.YtpbapoanjkekmaaGreatChecked
import GoSem.Claim
import GoSem.ClaimJoined
import GoSem.ClaimMapViews
import Derived.JoinedTies
import Derived.KernelRfl
namespace Go.Proofs.YtpbapoanjkekmaaGreat
/- THE CELL 'sum', in the pinned program and in every row, IS THE sha256 OF THE DUMP (.gsa) THAT YtpbapoanjkekmaaGreatProg.lean LOADS. Nothing in Lean hashes anything: it is a label: what it is worth is what the hold of that sum in a sandbox is worth. -/
noncomputable def Tryz.pinned : Pinned := { name := "ytpbapoanjkekmaagreat", sum := "d57879de98342058b6246b55c129c31f33c9ad4ce482247270a2872ae9c8f458", checked := Tryz.checked }
namespace Rows
def none {H : Type} : Left H := { results := [], args := [] }

/-- 'cylinderlaw20.SparseEval': WHATEVER THE INPUT: true; the input reads as it did. -/
def sparseEvalSpec : ChangeSpec := { name := "sparseEval", fn := fun _ => fun
  | [d1, d2, d3] => { results := [.lit (.bool true)], args := [d1, d2, d3] }
  | _ => none }
def sparseEvalRow : OpenClaim := { program := "ytpbapoanjkekmaagreat", sum := "d57879de98342058b6246b55c129c31f33c9ad4ce482247270a2872ae9c8f458", func := "cylinder/cylinderlaw20.SparseEval", spec := "sparseEval", unfollowed := true, recurses := true, named := ["math/bits.overflowError"], plainKeys := false, apart := false }
def SparseEvalSaid : Prop := sparseEvalRow.holds Tryz.pinned (OpenSpec.ofChange sparseEvalSpec)

/-- ITS FALSE NEIGHBOUR: 'it returns false'. Refute it at one input. -/
def sparseEvalWrong : ChangeSpec := { name := "sparseEval", fn := fun _ => fun
  | [d1, d2, d3] => { results := [.lit (.bool false)], args := [d1, d2, d3] }
  | _ => none }
def SparseEvalWrongFalsely : Prop := sparseEvalRow.holds Tryz.pinned (OpenSpec.ofChange sparseEvalWrong)

/-- 'cylinderlaw20.SparseRename': WHATEVER THE INPUT: true; the input reads as it did. -/
def sparseRenameSpec : ChangeSpec := { name := "sparseRename", fn := fun _ => fun
  | [d1, d2, d3] => { results := [.lit (.bool true)], args := [d1, d2, d3] }
  | _ => none }
def sparseRenameRow : OpenClaim := { program := "ytpbapoanjkekmaagreat", sum := "d57879de98342058b6246b55c129c31f33c9ad4ce482247270a2872ae9c8f458", func := "cylinder/cylinderlaw20.SparseRename", spec := "sparseRename", unfollowed := true, recurses := true, named := ["math/bits.overflowError"], plainKeys := false, apart := false }
def SparseRenameSaid : Prop := sparseRenameRow.holds Tryz.pinned (OpenSpec.ofChange sparseRenameSpec)

/-- ITS FALSE NEIGHBOUR: 'it returns false'. Refute it at one input. -/
def sparseRenameWrong : ChangeSpec := { name := "sparseRename", fn := fun _ => fun
  | [d1, d2, d3] => { results := [.lit (.bool false)], args := [d1, d2, d3] }
  | _ => none }
def SparseRenameWrongFalsely : Prop := sparseRenameRow.holds Tryz.pinned (OpenSpec.ofChange sparseRenameWrong)

/-- 'cylinderlaw20.SparseSubstitute': WHATEVER THE INPUT: true; the input reads as it did. -/
def sparseSubstituteSpec : ChangeSpec := { name := "sparseSubstitute", fn := fun _ => fun
  | [d1, d2, d3] => { results := [.lit (.bool true)], args := [d1, d2, d3] }
  | _ => none }
def sparseSubstituteRow : OpenClaim := { program := "ytpbapoanjkekmaagreat", sum := "d57879de98342058b6246b55c129c31f33c9ad4ce482247270a2872ae9c8f458", func := "cylinder/cylinderlaw20.SparseSubstitute", spec := "sparseSubstitute", unfollowed := true, recurses := true, named := ["math/bits.overflowError"], plainKeys := false, apart := false }
def SparseSubstituteSaid : Prop := sparseSubstituteRow.holds Tryz.pinned (OpenSpec.ofChange sparseSubstituteSpec)

/-- ITS FALSE NEIGHBOUR: 'it returns false'. Refute it at one input. -/
def sparseSubstituteWrong : ChangeSpec := { name := "sparseSubstitute", fn := fun _ => fun
  | [d1, d2, d3] => { results := [.lit (.bool false)], args := [d1, d2, d3] }
  | _ => none }
def SparseSubstituteWrongFalsely : Prop := sparseSubstituteRow.holds Tryz.pinned (OpenSpec.ofChange sparseSubstituteWrong)

/- THE SECOND FORM. 'bulk': how many values and letters a reading holds, each counted each time it is reached (what is shared counts as often as it is met; a slice's spare places count too). A statement '..UptoSaid' is the law's where the arguments, and the package variables that the reading takes, are together of bulk at most 1048576: NARROWER than '..Said'. Prove '..Said' where nothing that the law and all that it calls make is longer than what came in: it says more and counts as full. Else prove '..UptoSaid'. A law counts once. -/
mutual
def uptoBulk {H : Type} : DataW H → Nat
  | .lit (.string bytes) => bytes.length + 1
  | .lit _ => 1
  | .nil => 1
  | .ptr d => uptoBulk d + 1
  | .slice elems spare => uptoBulkAll elems + uptoBulkAll spare + 1
  | .agg parts => uptoBulkAll parts + 1
  | .iface _ d => uptoBulk d + 1
  | .map entries => uptoBulkEntries entries + 1
  | .held _ => 1
def uptoBulkAll {H : Type} : List (DataW H) → Nat
  | [] => 0
  | d :: r => uptoBulk d + uptoBulkAll r
def uptoBulkEntries {H : Type} : List (Lit × DataW H) → Nat
  | [] => 0
  | x :: r => uptoBulkEntry x + uptoBulkEntries r
def uptoBulkEntry {H : Type} : Lit × DataW H → Nat
  | (.string bytes, d) => bytes.length + uptoBulk d + 1
  | (_, d) => uptoBulk d + 1
 end
def uptoSmall : (H : Type) → List (DataW H) → Bool := fun _ ds => decide (uptoBulkAll ds ≤ 1048576)
def OpenSpec.upto (s : _root_.Go.ChangeSpec) : _root_.Go.OpenSpec := { _root_.Go.OpenSpec.ofChange s with cond := some uptoSmall }

/-- 'cylinderlaw20.SparseEval', WHERE WHAT IT READS IS OF BULK AT MOST 1048576: true; the input reads as it did. -/
def sparseEvalUptoRow : OpenClaim := { program := "ytpbapoanjkekmaagreat", sum := "d57879de98342058b6246b55c129c31f33c9ad4ce482247270a2872ae9c8f458", func := "cylinder/cylinderlaw20.SparseEval", spec := "sparseEval", unfollowed := true, recurses := true, named := ["math/bits.overflowError"], plainKeys := false, apart := false, narrowed := true }
def SparseEvalUptoSaid : Prop := sparseEvalUptoRow.holds Tryz.pinned (OpenSpec.upto sparseEvalSpec)

/-- 'cylinderlaw20.SparseRename', WHERE WHAT IT READS IS OF BULK AT MOST 1048576: true; the input reads as it did. -/
def sparseRenameUptoRow : OpenClaim := { program := "ytpbapoanjkekmaagreat", sum := "d57879de98342058b6246b55c129c31f33c9ad4ce482247270a2872ae9c8f458", func := "cylinder/cylinderlaw20.SparseRename", spec := "sparseRename", unfollowed := true, recurses := true, named := ["math/bits.overflowError"], plainKeys := false, apart := false, narrowed := true }
def SparseRenameUptoSaid : Prop := sparseRenameUptoRow.holds Tryz.pinned (OpenSpec.upto sparseRenameSpec)

/-- 'cylinderlaw20.SparseSubstitute', WHERE WHAT IT READS IS OF BULK AT MOST 1048576: true; the input reads as it did. -/
def sparseSubstituteUptoRow : OpenClaim := { program := "ytpbapoanjkekmaagreat", sum := "d57879de98342058b6246b55c129c31f33c9ad4ce482247270a2872ae9c8f458", func := "cylinder/cylinderlaw20.SparseSubstitute", spec := "sparseSubstitute", unfollowed := true, recurses := true, named := ["math/bits.overflowError"], plainKeys := false, apart := false, narrowed := true }
def SparseSubstituteUptoSaid : Prop := sparseSubstituteUptoRow.holds Tryz.pinned (OpenSpec.upto sparseSubstituteSpec)

end Rows
end Go.Proofs.YtpbapoanjkekmaaGreat
