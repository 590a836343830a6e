/- Numbers' rows: from 'each call answers true' to the row and its card. -/
import Derived.Test.YtlpifchimnnfdaaDoorCards
import Derived.Test.YtlpifchimnnfdaaDoorTie
import Derived.ProofKit
import Derived.OpenShut
import Derived.HandedShaped
import Derived.Deep.DeepHandedRow
import Derived.Lib.LaidTab
import Derived.LaidSub
import Derived.Test.YtlpifchimnnfdaaDoorTmMem
namespace Go.Proofs.YtlpifchimnnfdaaDoor
open Go.ChangeShapes Go.WideShapes Go.ChangeAt Go.RowKit

theorem Tryd.own : ownKnob Tryd.prog.godebug = none := by kernel_rfl
theorem Tryd.laidOut : laidOutB Tryd.prog = true := by kernel_rfl

/-- What the rows list. -/
def laid3 : List (String × DataW Unit) := [("math/bits.deBruijn32tab", Rows.laid_math_bits_deBruijn32tab), ("math/bits.deBruijn64tab", Rows.laid_math_bits_deBruijn64tab), ("internal/strconv.uint64pow10", Rows.laid_internal_strconv_uint64pow10)]

def db64 : List Int := [0, 1, 56, 2, 57, 49, 28, 3, 61, 58, 42, 50, 38, 29, 17, 4, 62, 47, 59, 36, 45, 43, 51, 22, 53, 39, 33, 30, 24, 18, 12, 5, 63, 55, 48, 27, 60, 41, 37, 16, 46, 35, 44, 21, 52, 32, 23, 11, 54, 26, 40, 15, 34, 20, 31, 10, 25, 14, 19, 9, 13, 8, 7, 6]

theorem db64_data {H : Type} : (Rows.laid_math_bits_deBruijn64tab : DataW H) = Lib.tabData .u8 db64 := rfl

theorem g64 : Tryd.prog.globalNamed "math/bits.deBruijn64tab" = some 3 := by kernel_rfl
theorem g64Type : (Tryd.prog.globals[3]?).map (·.type) = some 108 := by kernel_rfl
theorem cells64 : Tryd.prog.cellsOf 108 = 64 := by kernel_rfl
theorem cells8 : Tryd.prog.cellsOf 5 = 1 := by kernel_rfl

theorem laid_drop : laid3.filter (fun x => x.1 != "math/bits.deBruijn32tab") = [("math/bits.deBruijn64tab", Lib.tabData .u8 db64), ("internal/strconv.uint64pow10", Rows.laid_internal_strconv_uint64pow10)] := rfl

theorem table64 {W : World} (h : laidMetH Tryd.prog laid3 W) : Lib.TabIs Tryd.prog W "math/bits.deBruijn64tab" .u8 db64 := by
  have h2 := laidMetH.filter (fun x => x.1 != "math/bits.deBruijn32tab") h
  rw [laid_drop] at h2
  exact Lib.tabIs_of_head g64 g64Type Tryd.underlying108 Tryd.underlying5 cells8 cells64 h2

end Go.Proofs.YtlpifchimnnfdaaDoor
