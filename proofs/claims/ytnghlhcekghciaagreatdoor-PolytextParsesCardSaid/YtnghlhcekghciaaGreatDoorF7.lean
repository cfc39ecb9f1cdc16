/- For the frames of the great text laws: the listed tables, Go's own pinned one too; internal/bytealg.MaxLen. -/
import Derived.Test.YtnghlhcekghciaaGreatDoorF5
import Derived.Test.YtnghlhcekghciaaGreatDoorZB
namespace Go.Proofs.YtnghlhcekghciaaGreatDoor
open Go.ChangeShapes Go.WideShapes Go.ChangeAt Go.RowKit

def laidListG : List (String × DataW Unit) := [("math/bits.deBruijn32tab", Rows.laid_math_bits_deBruijn32tab), ("math/bits.deBruijn64tab", Rows.laid_math_bits_deBruijn64tab), ("internal/strconv.uint64pow10", Rows.laid_internal_strconv_uint64pow10), ("unicode/utf8.acceptRanges", Rows.laid_unicode_utf8_acceptRanges), ("unicode/utf8.first", Rows.laid_unicode_utf8_first)]
theorem tab_of_laidG {W : World} (h : laidMetH Tryz.prog laidListG W) : TabT W :=
  Lib.tabIs_of_head (rest := [("unicode/utf8.acceptRanges", Rows.laid_unicode_utf8_acceptRanges), ("unicode/utf8.first", Rows.laid_unicode_utf8_first)]) gPow gPowType Tryz.underlying173 Tryz.underlying104 cellsU64 cellsPow (laidMet.tail (laidMet.tail (show laidMet Tryz.prog laidListG W from h)))
theorem maxl_of_shaped {W : World} (h : W.ShapedOpen Tryz.prog) : MaxL W := Tryz.laysM145.s1_3 W h
def accR : List Int := [128, 191, 160, 191, 128, 159, 144, 191, 128, 143, 0, 0, 0, 0, 0, 0, 0, 0, 0, 0, 0, 0, 0, 0, 0, 0, 0, 0, 0, 0, 0, 0]
/-- A WORLD FOR THE WITNESS: the settled one, the five tables holding what their initialisers lay. -/
noncomputable def laidWorldG (os : Os) : World :=
  let w := laidWorld os
  { w with heap := (w.heap.modify 4 fun
      | .cells _ t frozen => .cells (accR.map (Value.int .u8)).toArray t frozen
      | o => o).modify 3 fun
      | .cells _ t frozen => .cells (Go.Pinned.utf8FirstZ.map fun (n : Nat) => Value.int .u8 (n : Int)).toArray t frozen
      | o => o }
end Go.Proofs.YtnghlhcekghciaaGreatDoor
