/- Numbers as floats, as the program has them. -/
import Derived.Test.YtlpifchimnnfdaaDoorNmExact
import Derived.Test.YtlpifchimnnfdaaDoorNmOf
namespace Go.Proofs.YtlpifchimnnfdaaDoor
open Go.RowKit
attribute [local irreducible] Ext
attribute [local go_sem] run_store_float

/-- The nearest float of a whole number. -/
def nearF (n : Int) : Nat := fput (n * (unit : Int)) false

theorem nearF_eq (n : Int) : FloatKind.f64.nearest n = nearF n := write_int n

theorem fput_lt (x : Int) (z : Bool) : fput x z < 18446744073709551616 := by
  unfold fput
  have := rungQ_le x.natAbs 0
  exact (sgn_word _ (by omega)).2.2

theorem nearF_lt (n : Int) : nearF n < 18446744073709551616 := fput_lt _ _

theorem pnear_any (n : Int) (w : World) : Calls Tryd.prog 36 #[.int .i64 n] w fun e w' => e = .returned (.float .f64 (nearF n)) ∧ w = w' := by
  have HN := Lib.hid (nearF_eq n)
  go_enter Tryd.func36, Tryd.ntmps36
  go_wp2_with fail
  go_ret
  exact ⟨by rw [← HN.out]; rfl, rfl⟩

/-- A number as a float. -/
def realF (k n : Int) (f : Nat) : Nat := if (k == 1) = true then nearF n else f

theorem preal_any (k n : Int) (f : Nat) (w : World) : Calls Tryd.prog 65 #[.agg #[.int .i64 k, .int .i64 n, .int .u64 f]] w fun e w' => e = .returned (.float .f64 (realF k n f)) ∧ Ext w w' := by
  have hE := (Ext.refl w).alloc (.cells #[.int .i64 k, .int .i64 n, .int .u64 f] 71)
  have hB := NBox.new w k n f
  obtain ⟨w1, hw⟩ : ∃ w1, w.alloc (.cells #[.int .i64 k, .int .i64 n, .int .u64 f] 71) = w1 := ⟨_, rfl⟩
  rw [hw] at hE hB
  obtain ⟨c0, c1, c2⟩ := hB.cells
  have HW := Lib.hid hw
  have HB := Lib.hid hB
  have HE := Lib.hid hE
  have hc := fun w => whole_any k n f w
  have hfb := run_frombits f
  clear hE hB hw
  unfold realF
  cases b1 : (k == 1)
  · rw [b1] at hc
    rw [if_neg (by decide)]
    go_enter Tryd.func65, Tryd.ntmps65
    go_upto_region 1 with (fail)
    rw [HW.out]
    go_wp2_with (first
      | (go_at_call 61
         (with_reducible refine (hc _).mono ?_)
         rintro e w2 ⟨rfl, hE2⟩
         have HE2 := Lib.hid (HE.out.trans hE2)
         obtain ⟨d0, d1, d2⟩ := (HB.out.ext hE2).cells
         clear c0 c1 c2 hE2)
      | fail)
    go_ret
    exact ⟨rfl, HE2.out⟩
  · rw [b1] at hc
    rw [if_pos rfl]
    have hn := fun w => pnear_any n w
    go_enter Tryd.func65, Tryd.ntmps65
    go_upto_region 1 with (fail)
    rw [HW.out]
    go_wp2_with (first
      | (go_at_call 61
         (with_reducible refine (hc _).mono ?_)
         rintro e w2 ⟨rfl, hE2⟩
         have HE2 := Lib.hid (HE.out.trans hE2)
         obtain ⟨d0, d1, d2⟩ := (HB.out.ext hE2).cells
         clear c0 c1 c2 hE2)
      | (go_at_call 36; (with_reducible refine (hn _).mono ?_); rintro e w3 ⟨rfl, rfl⟩)
      | fail)
    go_ret
    exact ⟨rfl, HE2.out⟩

end Go.Proofs.YtlpifchimnnfdaaDoor
