/- Numbers: the document's text of a number. -/
import Derived.Test.YtlpifchimnnfdaaDoorNmHexR
namespace Go.Proofs.YtlpifchimnnfdaaDoor
open Go.RowKit
attribute [local irreducible] Ext
attribute [local go_sem] run_store_float

set_option maxRecDepth 100000 in
set_option maxHeartbeats 4000000 in
theorem rtext_any (k n : Int) (hn : -9223372036854775808 ≤ n ∧ n ≤ 9223372036854775807) (f : Nat) (hf : f < 18446744073709551616) (s : ByteArray) (so : Option Addr) (m cap : Nat) (w : World) :
    Calls Tryd.prog 48 #[.agg #[.int .i64 k, .int .i64 n, .float .f64 f, .string s, .slice so m cap]] w fun e w' => e = .returned (.string (if k = 1 then dclS n else textF f)) ∧ Ext w w' := by
  have hE1 := (Ext.refl w).alloc (.cells #[.int .i64 k, .int .i64 n, .float .f64 f, .string s, .slice so m cap] 27)
  have hB1 := RBox.new w k n f s so m cap
  obtain ⟨w1, hw1⟩ : ∃ w1, w.alloc (.cells #[.int .i64 k, .int .i64 n, .float .f64 f, .string s, .slice so m cap] 27) = w1 := ⟨_, rfl⟩
  rw [hw1] at hE1 hB1
  obtain ⟨c0, c1, c2, c3, c4⟩ := hB1.cells
  have HW1 := Lib.hid hw1
  have HE := Lib.hid hE1
  have HD := Lib.hid (fun W => decimal_any n hn W)
  have HH := Lib.hid (fun W => hexr_any f hf W)
  have hb := run_bits f
  obtain ⟨T, hT⟩ : ∃ T, (if k = 1 then dclS n else textF f) = T := ⟨_, rfl⟩
  rw [hT]
  by_cases hk : k = 1
  · have hk1 : decide (k = 1) = true := decide_eq_true hk
    have hk2 : (k == 1) = true := by simpa using hk
    have HS := Lib.hid (show T = dclS n by rw [← hT, if_pos hk])
    clear hE1 hB1 hw1 hf hk hn hT
    go_enter Tryd.func48, Tryd.ntmps48
    go_upto_region 1 with (fail)
    rw [HW1.out]
    go_wp2_with (first
      | (go_at_call 75; (with_reducible refine (HD.out _).mono ?_); rintro e w3 ⟨rfl, hE3⟩)
      | fail)
    exact bodyPost_ret (v := .string (dclS n)) (by simp [results, Tryd.f48, go_sem]) rfl ⟨by rw [HS.out], HE.out.trans hE3⟩
  · have hk1 : decide (k = 1) = false := decide_eq_false hk
    have hk2 : (k == 1) = false := by simpa using hk
    have HS := Lib.hid (show T = ⟨#[35]⟩ ++ hexS f 16 by rw [← hT, if_neg hk]; rfl)
    have hsz := hexS_size f 16
    have hadd := fun W => run_string_add_sum (P := Tryd.prog) W ⟨#[35]⟩ (hexS f 16) (by rw [hsz]; show 1 + 16 ≤ _; omega)
    clear hE1 hB1 hw1 hf hk hn hT hsz
    go_enter Tryd.func48, Tryd.ntmps48
    go_upto_region 1 with (fail)
    rw [HW1.out]
    go_wp2_with (first
      | (go_at_call 76; (with_reducible refine (HH.out _).mono ?_); rintro e w3 ⟨rfl, hE3⟩)
      | fail)
    exact bodyPost_ret (v := .string (⟨#[35]⟩ ++ hexS f 16)) (by simp [results, Tryd.f48, go_sem]) rfl ⟨by rw [HS.out], HE.out.trans hE3⟩

end Go.Proofs.YtlpifchimnnfdaaDoor
