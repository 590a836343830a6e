/- Numbers: how many zeros sixteen ends in; sixteen is a power of two. -/
import Derived.Test.YtlpifchimnnfdaaDoorNmMul
namespace Go.Proofs.YtlpifchimnnfdaaDoor
open Go.RowKit
attribute [local irreducible] Ext
attribute [local go_sem] run_store_float

/-- What the walks want of the library's table: one cell. -/
def Tab4 (W : World) : Prop := W.cell? ⟨3, 15, none⟩ = some (.int .u8 4)

theorem Tab4.ext {W W' : World} (h : Tab4 W) (hE : Ext W W') : Tab4 W' := hE.cell h

theorem tz64_16 (w : World) (ht : Tab4 w) : Calls Tryd.prog 106 #[.int .u64 16] w fun e w' => e = .returned (.int .i64 4) ∧ w = w' := by
  unfold Tab4 at ht
  have h1 : bits .and .u64 16 (IntKind.u64.wrap (-16)) = 16 := by decide
  have h2 : IntKind.u64.wrap (16 * 285870213051353865) / 288230376151711744 = 15 := by decide
  go_enter Tryd.func106, Tryd.ntmps106
  go_wp2_with fail
  go_ret
  exact ⟨rfl, rfl⟩

theorem tz_16 (w : World) (ht : Tab4 w) : Calls Tryd.prog 104 #[.int .u64 16] w fun e w' => e = .returned (.int .i64 4) ∧ w = w' := by
  have h := tz64_16 w ht
  clear ht
  go_enter Tryd.func104, Tryd.ntmps104
  go_wp2_with (first
    | (go_at_call 106; (with_reducible refine h.mono ?_); rintro e wa ⟨rfl, rfl⟩)
    | fail)
  go_ret
  exact ⟨rfl, rfl⟩

theorem pow2_16 (w : World) : Calls Tryd.prog 103 #[.int .i64 16] w fun e w' => e = .returned (.bool true) ∧ w = w' := by
  go_enter Tryd.func103, Tryd.ntmps103
  go_wp2_with fail
  go_ret
  exact ⟨rfl, rfl⟩

end Go.Proofs.YtlpifchimnnfdaaDoor
