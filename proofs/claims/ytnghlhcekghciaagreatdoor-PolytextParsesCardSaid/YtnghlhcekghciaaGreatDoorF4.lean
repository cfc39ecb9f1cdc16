/- For the frames of the text laws: the listed tables; a list of names among the arguments. -/
import Derived.Lib.LaidTab
import Derived.Test.YtnghlhcekghciaaGreatDoorTie
import Derived.Test.YtnghlhcekghciaaGreatDoorF2
import Derived.Test.YtnghlhcekghciaaGreatDoorXB
namespace Go.Proofs.YtnghlhcekghciaaGreatDoor
open Go.ChangeShapes Go.WideShapes Go.ChangeAt Go.RowKit

def db32 : List Int := [0, 1, 28, 2, 29, 14, 24, 3, 30, 22, 20, 15, 25, 17, 4, 8, 31, 27, 13, 23, 21, 19, 16, 7, 26, 12, 18, 6, 11, 5, 10, 9]
def db64 : List Int := [0, 1, 56, 2, 57, 49, 28, 3, 61, 58, 42, 50, 38, 29, 17, 4, 62, 47, 59, 36, 45, 43, 51, 22, 53, 39, 33, 30, 24, 18, 12, 5, 63, 55, 48, 27, 60, 41, 37, 16, 46, 35, 44, 21, 52, 32, 23, 11, 54, 26, 40, 15, 34, 20, 31, 10, 25, 14, 19, 9, 13, 8, 7, 6]
theorem gPow : Tryz.prog.globalNamed "internal/strconv.uint64pow10" = some 2 := by kernel_rfl
theorem gPowType : (Tryz.prog.globals[2]?).map (·.type) = some 173 := by kernel_rfl
theorem cellsPow : Tryz.prog.cellsOf 173 = 20 := by kernel_rfl
theorem cellsU64 : Tryz.prog.cellsOf 104 = 1 := by kernel_rfl
def laidList : List (String × DataW Unit) := [("math/bits.deBruijn32tab", Rows.laid_math_bits_deBruijn32tab), ("math/bits.deBruijn64tab", Rows.laid_math_bits_deBruijn64tab), ("internal/strconv.uint64pow10", Rows.laid_internal_strconv_uint64pow10)]
theorem tab_of_laid {W : World} (h : laidMetH Tryz.prog laidList W) : TabT W :=
  Lib.tabIs_of_head (rest := []) gPow gPowType Tryz.underlying173 Tryz.underlying104 cellsU64 cellsPow (laidMet.tail (laidMet.tail (show laidMet Tryz.prog laidList W from h)))
/-- A WORLD FOR THE WITNESS: the settled one, the three tables holding what their initialisers lay. -/
noncomputable def laidWorld (os : Os) : World :=
  let w := World.holding Tryz.prog os ⟨#[], #[], []⟩
  { w with heap := ((w.heap.modify 2 fun
      | .cells _ t frozen => .cells (Lib.pow10Tab.map (Value.int .u64)).toArray t frozen
      | o => o).modify 5 fun
      | .cells _ t frozen => .cells (db32.map (Value.int .u8)).toArray t frozen
      | o => o).modify 6 fun
      | .cells _ t frozen => .cells (db64.map (Value.int .u8)).toArray t frozen
      | o => o }
end Go.Proofs.YtnghlhcekghciaaGreatDoor
