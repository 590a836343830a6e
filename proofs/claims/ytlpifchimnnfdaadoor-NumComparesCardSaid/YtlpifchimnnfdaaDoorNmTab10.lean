/- Numbers: the table of powers of ten, as start-up lays it: as it stands. -/
import Derived.Test.YtlpifchimnnfdaaDoorNmLift
import Derived.WalkSmall
import Derived.Lib.ItoaNum
import Derived.Test.YtlpifchimnnfdaaDoorTmMem
namespace Go.Proofs.YtlpifchimnnfdaaDoor
open Go.ChangeShapes Go.WideShapes Go.ChangeAt Go.RowKit

theorem gT10 : Tryd.prog.globalNamed "internal/strconv.uint64pow10" = some 1 := by kernel_rfl
theorem gT10Type : (Tryd.prog.globals[1]?).map (·.type) = some 101 := by kernel_rfl
theorem cellsT10 : Tryd.prog.cellsOf 101 = 20 := by kernel_rfl
theorem cellsT64 : Tryd.prog.cellsOf 22 = 1 := by kernel_rfl

theorem laid_drop10 : laid3.filter (fun x => x.1 == "internal/strconv.uint64pow10") = [("internal/strconv.uint64pow10", Lib.tabData .u64 Lib.pow10Tab)] := rfl

theorem tab_ten {W : World} (h : laidMetH Tryd.prog laid3 W) : Lib.TabIs Tryd.prog W "internal/strconv.uint64pow10" .u64 Lib.pow10Tab := by
  have h2 := laidMetH.filter (fun x => x.1 == "internal/strconv.uint64pow10") h
  rw [laid_drop10] at h2
  exact Lib.tabIs_of_head gT10 gT10Type Tryd.underlying101 Tryd.underlying22 cellsT64 cellsT10 h2

theorem tab_ext {W W' : World} (h : Lib.TabIs Tryd.prog W "internal/strconv.uint64pow10" .u64 Lib.pow10Tab) (hE : Ext W W') : Lib.TabIs Tryd.prog W' "internal/strconv.uint64pow10" .u64 Lib.pow10Tab := by
  by_cases hlt : 1 < W.heap.size
  · exact var?_below hE.below gT10 hlt h
  · exfalso
    unfold Lib.TabIs World.var? at h
    rw [gT10] at h
    simp only [Option.bind_some] at h
    rw [Array.getElem?_eq_none (by omega)] at h
    simp at h

end Go.Proofs.YtlpifchimnnfdaaDoor
