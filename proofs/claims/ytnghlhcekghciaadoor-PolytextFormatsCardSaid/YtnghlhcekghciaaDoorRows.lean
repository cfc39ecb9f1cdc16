/-
  NARROWER THAN 'FOR EVERY INPUT', by the rows' own cells (each row's printed sentence says how): PolytextFormats: laid · PolytextOrder: laid · PolytextApart: laid · PolytextRenamed: laid · PolytextTerms: laid · PolytextJoins: laid.
  DERIVED. THE GIVEN ROWS OF THIS SEAT. 6 by the template 'for every input the law returns true; each argument reads behind the call as it read before'; 0 by the template 'total and deterministic' (their statements: YtnghlhcekghciaaDoorTotals.lean).
  GIVEN WITH THE SEED: the statements are not yours to turn. If you find one false, say at which input.
  Laid BY PROGRAM, IN A SANDBOX (cutbox-rows.mjs): the forced cells as the released guide's own fill.sh prints them over the translation 757be2c9c8878a4c… (all of the seat's roots in one cut). By AI agents, Wed Nov 11 2026. No macro, syntax, notation, axiom, sorry.
-/
import Derived.Test.YtnghlhcekghciaaDoorChecked
import GoSem.Claim
import GoSem.ClaimJoined
import GoSem.ClaimMapViews
import Derived.JoinedTies
import Derived.KernelRfl
namespace Go.Proofs.YtnghlhcekghciaaDoor
/- THE CELL 'sum', in the pinned program and in every row, IS THE sha256 OF THE DUMP (.gsa) THAT YtnghlhcekghciaaDoorProg.lean LOADS. Nothing in Lean hashes anything: it is a label: what it is worth is what the hold of that sum in a sandbox is worth. -/
noncomputable def Tryd.pinned : Pinned := { name := "ytnghlhcekghciaadoor", sum := "757be2c9c8878a4ce99ded27c129d99928060690b7e084d6194b348b80ba4929", checked := Tryd.checked }
namespace Rows
def none {H : Type} : Left H := { results := [], args := [] }

/- WHAT THE LISTED PACKAGE-LEVEL VARIABLES READ AS WHEN THE CALL BEGINS. Each datum BY PROGRAM (the guide's laid-datum.mjs) off the statement by which the dump's own 'gosem.cut.vars' lays the variable. In a bare row this is a premise. The card (YtnghlhcekghciaaDoorCards.lean) ties it to the program's text. -/
def laid_math_bits_deBruijn32tab {H : Type} : DataW H := .agg [.lit (.int .u8 0), .lit (.int .u8 1), .lit (.int .u8 28), .lit (.int .u8 2), .lit (.int .u8 29), .lit (.int .u8 14), .lit (.int .u8 24), .lit (.int .u8 3), .lit (.int .u8 30), .lit (.int .u8 22), .lit (.int .u8 20), .lit (.int .u8 15), .lit (.int .u8 25), .lit (.int .u8 17), .lit (.int .u8 4), .lit (.int .u8 8), .lit (.int .u8 31), .lit (.int .u8 27), .lit (.int .u8 13), .lit (.int .u8 23), .lit (.int .u8 21), .lit (.int .u8 19), .lit (.int .u8 16), .lit (.int .u8 7), .lit (.int .u8 26), .lit (.int .u8 12), .lit (.int .u8 18), .lit (.int .u8 6), .lit (.int .u8 11), .lit (.int .u8 5), .lit (.int .u8 10), .lit (.int .u8 9)]
def laid_math_bits_deBruijn64tab {H : Type} : DataW H := .agg [.lit (.int .u8 0), .lit (.int .u8 1), .lit (.int .u8 56), .lit (.int .u8 2), .lit (.int .u8 57), .lit (.int .u8 49), .lit (.int .u8 28), .lit (.int .u8 3), .lit (.int .u8 61), .lit (.int .u8 58), .lit (.int .u8 42), .lit (.int .u8 50), .lit (.int .u8 38), .lit (.int .u8 29), .lit (.int .u8 17), .lit (.int .u8 4), .lit (.int .u8 62), .lit (.int .u8 47), .lit (.int .u8 59), .lit (.int .u8 36), .lit (.int .u8 45), .lit (.int .u8 43), .lit (.int .u8 51), .lit (.int .u8 22), .lit (.int .u8 53), .lit (.int .u8 39), .lit (.int .u8 33), .lit (.int .u8 30), .lit (.int .u8 24), .lit (.int .u8 18), .lit (.int .u8 12), .lit (.int .u8 5), .lit (.int .u8 63), .lit (.int .u8 55), .lit (.int .u8 48), .lit (.int .u8 27), .lit (.int .u8 60), .lit (.int .u8 41), .lit (.int .u8 37), .lit (.int .u8 16), .lit (.int .u8 46), .lit (.int .u8 35), .lit (.int .u8 44), .lit (.int .u8 21), .lit (.int .u8 52), .lit (.int .u8 32), .lit (.int .u8 23), .lit (.int .u8 11), .lit (.int .u8 54), .lit (.int .u8 26), .lit (.int .u8 40), .lit (.int .u8 15), .lit (.int .u8 34), .lit (.int .u8 20), .lit (.int .u8 31), .lit (.int .u8 10), .lit (.int .u8 25), .lit (.int .u8 14), .lit (.int .u8 19), .lit (.int .u8 9), .lit (.int .u8 13), .lit (.int .u8 8), .lit (.int .u8 7), .lit (.int .u8 6)]
def laid_internal_strconv_uint64pow10 {H : Type} : DataW H := .agg [.lit (.int .u64 1), .lit (.int .u64 10), .lit (.int .u64 100), .lit (.int .u64 1000), .lit (.int .u64 10000), .lit (.int .u64 100000), .lit (.int .u64 1000000), .lit (.int .u64 10000000), .lit (.int .u64 100000000), .lit (.int .u64 1000000000), .lit (.int .u64 10000000000), .lit (.int .u64 100000000000), .lit (.int .u64 1000000000000), .lit (.int .u64 10000000000000), .lit (.int .u64 100000000000000), .lit (.int .u64 1000000000000000), .lit (.int .u64 10000000000000000), .lit (.int .u64 100000000000000000), .lit (.int .u64 1000000000000000000), .lit (.int .u64 10000000000000000000)]

/-- 'cylinderlaw21.PolytextFormats': WHATEVER THE INPUT: true; the input reads as it did. -/
def polytextFormatsSpec : ChangeSpec := { name := "polytextFormats", fn := fun _ => fun
  | [d1, d2] => { results := [.lit (.bool true)], args := [d1, d2] }
  | _ => none }
def polytextFormatsRow : OpenClaim := { program := "ytnghlhcekghciaadoor", sum := "757be2c9c8878a4ce99ded27c129d99928060690b7e084d6194b348b80ba4929", func := "cylinder/cylinderlaw21.PolytextFormats", spec := "polytextFormats", inPlace := ["internal/abi.NoEscape"], unfollowed := true, recurses := true, named := ["math/bits.overflowError", "internal/strconv.uint64pow10", "math/bits.deBruijn32tab", "math/bits.deBruijn64tab"], plainKeys := false, apart := false, laid := [("math/bits.deBruijn32tab", laid_math_bits_deBruijn32tab), ("math/bits.deBruijn64tab", laid_math_bits_deBruijn64tab), ("internal/strconv.uint64pow10", laid_internal_strconv_uint64pow10)] }
def PolytextFormatsSaid : Prop := polytextFormatsRow.holds Tryd.pinned (OpenSpec.ofChange polytextFormatsSpec)

/-- ITS FALSE NEIGHBOUR: 'it returns false'. Refute it at one input. -/
def polytextFormatsWrong : ChangeSpec := { name := "polytextFormats", fn := fun _ => fun
  | [d1, d2] => { results := [.lit (.bool false)], args := [d1, d2] }
  | _ => none }
def PolytextFormatsWrongFalsely : Prop := polytextFormatsRow.holds Tryd.pinned (OpenSpec.ofChange polytextFormatsWrong)

/-- 'cylinderlaw21.PolytextOrder': WHATEVER THE INPUT: true; the input reads as it did. -/
def polytextOrderSpec : ChangeSpec := { name := "polytextOrder", fn := fun _ => fun
  | [d1, d2] => { results := [.lit (.bool true)], args := [d1, d2] }
  | _ => none }
def polytextOrderRow : OpenClaim := { program := "ytnghlhcekghciaadoor", sum := "757be2c9c8878a4ce99ded27c129d99928060690b7e084d6194b348b80ba4929", func := "cylinder/cylinderlaw21.PolytextOrder", spec := "polytextOrder", inPlace := ["internal/abi.NoEscape"], unfollowed := true, recurses := true, named := ["math/bits.overflowError", "internal/strconv.uint64pow10", "math/bits.deBruijn32tab", "math/bits.deBruijn64tab"], plainKeys := false, apart := false, laid := [("math/bits.deBruijn32tab", laid_math_bits_deBruijn32tab), ("math/bits.deBruijn64tab", laid_math_bits_deBruijn64tab), ("internal/strconv.uint64pow10", laid_internal_strconv_uint64pow10)] }
def PolytextOrderSaid : Prop := polytextOrderRow.holds Tryd.pinned (OpenSpec.ofChange polytextOrderSpec)

/-- ITS FALSE NEIGHBOUR: 'it returns false'. Refute it at one input. -/
def polytextOrderWrong : ChangeSpec := { name := "polytextOrder", fn := fun _ => fun
  | [d1, d2] => { results := [.lit (.bool false)], args := [d1, d2] }
  | _ => none }
def PolytextOrderWrongFalsely : Prop := polytextOrderRow.holds Tryd.pinned (OpenSpec.ofChange polytextOrderWrong)

/-- 'cylinderlaw21.PolytextApart': WHATEVER THE INPUT: true; the input reads as it did. -/
def polytextApartSpec : ChangeSpec := { name := "polytextApart", fn := fun _ => fun
  | [d1, d2] => { results := [.lit (.bool true)], args := [d1, d2] }
  | _ => none }
def polytextApartRow : OpenClaim := { program := "ytnghlhcekghciaadoor", sum := "757be2c9c8878a4ce99ded27c129d99928060690b7e084d6194b348b80ba4929", func := "cylinder/cylinderlaw21.PolytextApart", spec := "polytextApart", inPlace := ["internal/abi.NoEscape"], unfollowed := true, recurses := true, named := ["math/bits.overflowError", "internal/strconv.uint64pow10", "math/bits.deBruijn32tab", "math/bits.deBruijn64tab"], plainKeys := false, apart := false, laid := [("math/bits.deBruijn32tab", laid_math_bits_deBruijn32tab), ("math/bits.deBruijn64tab", laid_math_bits_deBruijn64tab), ("internal/strconv.uint64pow10", laid_internal_strconv_uint64pow10)] }
def PolytextApartSaid : Prop := polytextApartRow.holds Tryd.pinned (OpenSpec.ofChange polytextApartSpec)

/-- ITS FALSE NEIGHBOUR: 'it returns false'. Refute it at one input. -/
def polytextApartWrong : ChangeSpec := { name := "polytextApart", fn := fun _ => fun
  | [d1, d2] => { results := [.lit (.bool false)], args := [d1, d2] }
  | _ => none }
def PolytextApartWrongFalsely : Prop := polytextApartRow.holds Tryd.pinned (OpenSpec.ofChange polytextApartWrong)

/-- 'cylinderlaw21.PolytextRenamed': WHATEVER THE INPUT: true; the input reads as it did. -/
def polytextRenamedSpec : ChangeSpec := { name := "polytextRenamed", fn := fun _ => fun
  | [d] => { results := [.lit (.bool true)], args := [d] }
  | _ => none }
def polytextRenamedRow : OpenClaim := { program := "ytnghlhcekghciaadoor", sum := "757be2c9c8878a4ce99ded27c129d99928060690b7e084d6194b348b80ba4929", func := "cylinder/cylinderlaw21.PolytextRenamed", spec := "polytextRenamed", inPlace := ["internal/abi.NoEscape"], unfollowed := true, recurses := true, named := ["math/bits.overflowError", "internal/strconv.uint64pow10", "math/bits.deBruijn32tab", "math/bits.deBruijn64tab"], plainKeys := false, apart := false, laid := [("math/bits.deBruijn32tab", laid_math_bits_deBruijn32tab), ("math/bits.deBruijn64tab", laid_math_bits_deBruijn64tab), ("internal/strconv.uint64pow10", laid_internal_strconv_uint64pow10)] }
def PolytextRenamedSaid : Prop := polytextRenamedRow.holds Tryd.pinned (OpenSpec.ofChange polytextRenamedSpec)

/-- ITS FALSE NEIGHBOUR: 'it returns false'. Refute it at one input. -/
def polytextRenamedWrong : ChangeSpec := { name := "polytextRenamed", fn := fun _ => fun
  | [d] => { results := [.lit (.bool false)], args := [d] }
  | _ => none }
def PolytextRenamedWrongFalsely : Prop := polytextRenamedRow.holds Tryd.pinned (OpenSpec.ofChange polytextRenamedWrong)

/-- 'cylinderlaw21.PolytextTerms': WHATEVER THE INPUT: true; the input reads as it did. -/
def polytextTermsSpec : ChangeSpec := { name := "polytextTerms", fn := fun _ => fun
  | [d1, d2] => { results := [.lit (.bool true)], args := [d1, d2] }
  | _ => none }
def polytextTermsRow : OpenClaim := { program := "ytnghlhcekghciaadoor", sum := "757be2c9c8878a4ce99ded27c129d99928060690b7e084d6194b348b80ba4929", func := "cylinder/cylinderlaw21.PolytextTerms", spec := "polytextTerms", inPlace := ["internal/abi.NoEscape"], unfollowed := true, recurses := true, named := ["math/bits.overflowError", "internal/strconv.uint64pow10", "math/bits.deBruijn32tab", "math/bits.deBruijn64tab"], plainKeys := false, apart := false, laid := [("math/bits.deBruijn32tab", laid_math_bits_deBruijn32tab), ("math/bits.deBruijn64tab", laid_math_bits_deBruijn64tab), ("internal/strconv.uint64pow10", laid_internal_strconv_uint64pow10)] }
def PolytextTermsSaid : Prop := polytextTermsRow.holds Tryd.pinned (OpenSpec.ofChange polytextTermsSpec)

/-- ITS FALSE NEIGHBOUR: 'it returns false'. Refute it at one input. -/
def polytextTermsWrong : ChangeSpec := { name := "polytextTerms", fn := fun _ => fun
  | [d1, d2] => { results := [.lit (.bool false)], args := [d1, d2] }
  | _ => none }
def PolytextTermsWrongFalsely : Prop := polytextTermsRow.holds Tryd.pinned (OpenSpec.ofChange polytextTermsWrong)

/-- 'cylinderlaw21.PolytextJoins': WHATEVER THE INPUT: true; the input reads as it did. -/
def polytextJoinsSpec : ChangeSpec := { name := "polytextJoins", fn := fun _ => fun
  | [d1, d2] => { results := [.lit (.bool true)], args := [d1, d2] }
  | _ => none }
def polytextJoinsRow : OpenClaim := { program := "ytnghlhcekghciaadoor", sum := "757be2c9c8878a4ce99ded27c129d99928060690b7e084d6194b348b80ba4929", func := "cylinder/cylinderlaw21.PolytextJoins", spec := "polytextJoins", inPlace := ["internal/abi.NoEscape"], unfollowed := true, recurses := true, named := ["math/bits.overflowError", "internal/strconv.uint64pow10", "math/bits.deBruijn32tab", "math/bits.deBruijn64tab"], plainKeys := false, apart := false, laid := [("math/bits.deBruijn32tab", laid_math_bits_deBruijn32tab), ("math/bits.deBruijn64tab", laid_math_bits_deBruijn64tab), ("internal/strconv.uint64pow10", laid_internal_strconv_uint64pow10)] }
def PolytextJoinsSaid : Prop := polytextJoinsRow.holds Tryd.pinned (OpenSpec.ofChange polytextJoinsSpec)

/-- ITS FALSE NEIGHBOUR: 'it returns false'. Refute it at one input. -/
def polytextJoinsWrong : ChangeSpec := { name := "polytextJoins", fn := fun _ => fun
  | [d1, d2] => { results := [.lit (.bool false)], args := [d1, d2] }
  | _ => none }
def PolytextJoinsWrongFalsely : Prop := polytextJoinsRow.holds Tryd.pinned (OpenSpec.ofChange polytextJoinsWrong)

/- THE SECOND FORM. 'bulk': how many values and letters a reading holds, each counted each time it is reached (what is shared counts as often as it is met; a slice's spare places count too). A statement '..UptoSaid' is the law's where the arguments, and the package variables that the reading takes, are together of bulk at most 1048576: NARROWER than '..Said'. Prove '..Said' where nothing that the law and all that it calls make is longer than what came in: it says more and counts as full. Else prove '..UptoSaid'. A law counts once. -/
mutual
def uptoBulk {H : Type} : DataW H → Nat
  | .lit (.string bytes) => bytes.length + 1
  | .lit _ => 1
  | .nil => 1
  | .ptr d => uptoBulk d + 1
  | .slice elems spare => uptoBulkAll elems + uptoBulkAll spare + 1
  | .agg parts => uptoBulkAll parts + 1
  | .iface _ d => uptoBulk d + 1
  | .map entries => uptoBulkEntries entries + 1
  | .held _ => 1
def uptoBulkAll {H : Type} : List (DataW H) → Nat
  | [] => 0
  | d :: r => uptoBulk d + uptoBulkAll r
def uptoBulkEntries {H : Type} : List (Lit × DataW H) → Nat
  | [] => 0
  | x :: r => uptoBulkEntry x + uptoBulkEntries r
def uptoBulkEntry {H : Type} : Lit × DataW H → Nat
  | (.string bytes, d) => bytes.length + uptoBulk d + 1
  | (_, d) => uptoBulk d + 1
 end
def uptoSmall : (H : Type) → List (DataW H) → Bool := fun _ ds => decide (uptoBulkAll ds ≤ 1048576)
def OpenSpec.upto (s : _root_.Go.ChangeSpec) : _root_.Go.OpenSpec := { _root_.Go.OpenSpec.ofChange s with cond := some uptoSmall }

/-- 'cylinderlaw21.PolytextFormats', WHERE WHAT IT READS IS OF BULK AT MOST 1048576: true; the input reads as it did. -/
def polytextFormatsUptoRow : OpenClaim := { program := "ytnghlhcekghciaadoor", sum := "757be2c9c8878a4ce99ded27c129d99928060690b7e084d6194b348b80ba4929", func := "cylinder/cylinderlaw21.PolytextFormats", spec := "polytextFormats", inPlace := ["internal/abi.NoEscape"], unfollowed := true, recurses := true, named := ["math/bits.overflowError", "internal/strconv.uint64pow10", "math/bits.deBruijn32tab", "math/bits.deBruijn64tab"], plainKeys := false, apart := false, laid := [("math/bits.deBruijn32tab", laid_math_bits_deBruijn32tab), ("math/bits.deBruijn64tab", laid_math_bits_deBruijn64tab), ("internal/strconv.uint64pow10", laid_internal_strconv_uint64pow10)], narrowed := true }
def PolytextFormatsUptoSaid : Prop := polytextFormatsUptoRow.holds Tryd.pinned (OpenSpec.upto polytextFormatsSpec)

/-- 'cylinderlaw21.PolytextOrder', WHERE WHAT IT READS IS OF BULK AT MOST 1048576: true; the input reads as it did. -/
def polytextOrderUptoRow : OpenClaim := { program := "ytnghlhcekghciaadoor", sum := "757be2c9c8878a4ce99ded27c129d99928060690b7e084d6194b348b80ba4929", func := "cylinder/cylinderlaw21.PolytextOrder", spec := "polytextOrder", inPlace := ["internal/abi.NoEscape"], unfollowed := true, recurses := true, named := ["math/bits.overflowError", "internal/strconv.uint64pow10", "math/bits.deBruijn32tab", "math/bits.deBruijn64tab"], plainKeys := false, apart := false, laid := [("math/bits.deBruijn32tab", laid_math_bits_deBruijn32tab), ("math/bits.deBruijn64tab", laid_math_bits_deBruijn64tab), ("internal/strconv.uint64pow10", laid_internal_strconv_uint64pow10)], narrowed := true }
def PolytextOrderUptoSaid : Prop := polytextOrderUptoRow.holds Tryd.pinned (OpenSpec.upto polytextOrderSpec)

/-- 'cylinderlaw21.PolytextApart', WHERE WHAT IT READS IS OF BULK AT MOST 1048576: true; the input reads as it did. -/
def polytextApartUptoRow : OpenClaim := { program := "ytnghlhcekghciaadoor", sum := "757be2c9c8878a4ce99ded27c129d99928060690b7e084d6194b348b80ba4929", func := "cylinder/cylinderlaw21.PolytextApart", spec := "polytextApart", inPlace := ["internal/abi.NoEscape"], unfollowed := true, recurses := true, named := ["math/bits.overflowError", "internal/strconv.uint64pow10", "math/bits.deBruijn32tab", "math/bits.deBruijn64tab"], plainKeys := false, apart := false, laid := [("math/bits.deBruijn32tab", laid_math_bits_deBruijn32tab), ("math/bits.deBruijn64tab", laid_math_bits_deBruijn64tab), ("internal/strconv.uint64pow10", laid_internal_strconv_uint64pow10)], narrowed := true }
def PolytextApartUptoSaid : Prop := polytextApartUptoRow.holds Tryd.pinned (OpenSpec.upto polytextApartSpec)

/-- 'cylinderlaw21.PolytextRenamed', WHERE WHAT IT READS IS OF BULK AT MOST 1048576: true; the input reads as it did. -/
def polytextRenamedUptoRow : OpenClaim := { program := "ytnghlhcekghciaadoor", sum := "757be2c9c8878a4ce99ded27c129d99928060690b7e084d6194b348b80ba4929", func := "cylinder/cylinderlaw21.PolytextRenamed", spec := "polytextRenamed", inPlace := ["internal/abi.NoEscape"], unfollowed := true, recurses := true, named := ["math/bits.overflowError", "internal/strconv.uint64pow10", "math/bits.deBruijn32tab", "math/bits.deBruijn64tab"], plainKeys := false, apart := false, laid := [("math/bits.deBruijn32tab", laid_math_bits_deBruijn32tab), ("math/bits.deBruijn64tab", laid_math_bits_deBruijn64tab), ("internal/strconv.uint64pow10", laid_internal_strconv_uint64pow10)], narrowed := true }
def PolytextRenamedUptoSaid : Prop := polytextRenamedUptoRow.holds Tryd.pinned (OpenSpec.upto polytextRenamedSpec)

/-- 'cylinderlaw21.PolytextTerms', WHERE WHAT IT READS IS OF BULK AT MOST 1048576: true; the input reads as it did. -/
def polytextTermsUptoRow : OpenClaim := { program := "ytnghlhcekghciaadoor", sum := "757be2c9c8878a4ce99ded27c129d99928060690b7e084d6194b348b80ba4929", func := "cylinder/cylinderlaw21.PolytextTerms", spec := "polytextTerms", inPlace := ["internal/abi.NoEscape"], unfollowed := true, recurses := true, named := ["math/bits.overflowError", "internal/strconv.uint64pow10", "math/bits.deBruijn32tab", "math/bits.deBruijn64tab"], plainKeys := false, apart := false, laid := [("math/bits.deBruijn32tab", laid_math_bits_deBruijn32tab), ("math/bits.deBruijn64tab", laid_math_bits_deBruijn64tab), ("internal/strconv.uint64pow10", laid_internal_strconv_uint64pow10)], narrowed := true }
def PolytextTermsUptoSaid : Prop := polytextTermsUptoRow.holds Tryd.pinned (OpenSpec.upto polytextTermsSpec)

/-- 'cylinderlaw21.PolytextJoins', WHERE WHAT IT READS IS OF BULK AT MOST 1048576: true; the input reads as it did. -/
def polytextJoinsUptoRow : OpenClaim := { program := "ytnghlhcekghciaadoor", sum := "757be2c9c8878a4ce99ded27c129d99928060690b7e084d6194b348b80ba4929", func := "cylinder/cylinderlaw21.PolytextJoins", spec := "polytextJoins", inPlace := ["internal/abi.NoEscape"], unfollowed := true, recurses := true, named := ["math/bits.overflowError", "internal/strconv.uint64pow10", "math/bits.deBruijn32tab", "math/bits.deBruijn64tab"], plainKeys := false, apart := false, laid := [("math/bits.deBruijn32tab", laid_math_bits_deBruijn32tab), ("math/bits.deBruijn64tab", laid_math_bits_deBruijn64tab), ("internal/strconv.uint64pow10", laid_internal_strconv_uint64pow10)], narrowed := true }
def PolytextJoinsUptoSaid : Prop := polytextJoinsUptoRow.holds Tryd.pinned (OpenSpec.upto polytextJoinsSpec)

end Rows
end Go.Proofs.YtnghlhcekghciaaDoor
