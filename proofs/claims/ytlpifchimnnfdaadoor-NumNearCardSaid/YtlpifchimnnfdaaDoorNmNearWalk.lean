/- NumNear's walk: no float is nearer to a whole number than the one that is told. -/
import Derived.Test.YtlpifchimnnfdaaDoorNmNextP
import Derived.Test.YtlpifchimnnfdaaDoorNmTrunc
import Derived.Test.YtlpifchimnnfdaaDoorNmKnown
namespace Go.Proofs.YtlpifchimnnfdaaDoor
open Go.RowKit Ieee
attribute [local irreducible] Ext
attribute [local go_sem] run_store_float

theorem nz : nearF 0 = 0 := by
  rw [← nearF_eq]
  kernel_rfl

theorem ord_of {a b : Nat} (ha : fin a) (hb : fin b) : FloatKind.f64.format.order a b = some (if fval a < fval b then .lt else if fval b < fval a then .gt else .eq) := by
  rw [← compare_int]
  exact order_fin ha hb

theorem sub_fin0 {b : Nat} (h : finF b = true) (t : TypeId) (w : World) : (binOp .sub t (.float .f64 b) (.float .f64 b)).run Tryd.prog w = .ok (.float .f64 0) w := by
  rcases finF_cases b with ⟨_, neg, m, p, hr⟩ | ⟨hf, _⟩
  · exact run_float_arith w .sub t .f64 b b 0 (sub_self_number hr)
  · rw [h] at hf; cases hf

theorem sizeL_any (b : Int) (hb : -9223372036854775808 < b ∧ b ≤ 9223372036854775807) (w : World) : Calls Tryd.prog 30 #[.int .i64 b] w fun e w' => e = .returned (.int .i64 (b.natAbs : Int)) ∧ w = w' := by
  by_cases h : b < 0
  · have c1 : decide (b < 0) = true := decide_eq_true h
    have e1 : IntKind.i64.wrap (0 - b) = (b.natAbs : Int) := by rw [IntWalk.i64_in _ (by omega)]; omega
    have e2 : IntKind.i64.wrap (-b) = (b.natAbs : Int) := by rw [IntWalk.i64_in _ (by omega)]; omega
    clear hb h
    go_enter Tryd.func30, Tryd.ntmps30
    go_wp2_with fail
    go_ret
    exact ⟨rfl, rfl⟩
  · have c1 : decide (b < 0) = false := decide_eq_false h
    have e1 : b = (b.natAbs : Int) := by omega
    have E1 := Lib.hid e1
    clear hb h e1
    go_enter Tryd.func30, Tryd.ntmps30
    go_wp2_with fail
    go_ret
    exact ⟨by rw [← E1.out]; rfl, rfl⟩

/-- The next float, towards a great one. -/
def nextV (f : Nat) (up : Bool) (g : Nat) : Prop := fval f ≠ 0 → g = if decide (0 < fval f) = up then f + 1 else f - 1

set_option maxRecDepth 100000 in
set_option maxHeartbeats 2000000 in
theorem next_up {f : Nat} (hf : fin f) (h64 : f < 18446744073709551616) (hlt : fval f < 9223372036854775808 * (unit : Int)) (w : World) :
    Calls Tryd.prog 37 #[.float .f64 f, .float .f64 4890909195324358656] w fun e w' => (∃ g, e = .returned (.float .f64 g) ∧ nextV f true g) ∧ w = w' := by
  have n1 := fun w => isNaN_any f w
  have n2 := fun w => isNaN_any 4890909195324358656 w
  have hnf : nanF f = false := by
    unfold nanF
    unfold fin at hf
    exact decide_eq_false (by omega)
  rw [hnf] at n1
  rw [show nanF 4890909195324358656 = false by kernel_rfl] at n2
  have N1 := Lib.hid n1
  have N2 := Lib.hid n2
  have o1 : FloatKind.f64.format.order f 4890909195324358656 = some .lt := by rw [ord_of hf val63.1, val63.2, if_pos hlt]
  have o2 : FloatKind.f64.format.order 4890909195324358656 f = some .gt := by rw [ord_of val63.1 hf, val63.2, if_neg (by omega), if_pos hlt]
  have o3 := ord_of hf val0.1
  rw [val0.2] at o3
  have hb := run_bits f
  by_cases h0 : fval f < 0
  · rw [if_pos h0] at o3
    have e1 : IntKind.u64.wrap ((f : Int) - 1) = ((f - 1 : Nat) : Int) := by
      have : f ≠ 0 := by rintro rfl; rw [show FloatKind.f64.format.order 0 0 = some .eq by decide] at o3; cases o3
      rw [wrap_u64]; omega
    have hfb := run_frombits (f - 1)
    have HR := Lib.hid (show nextV f true (f - 1) from fun _ => by rw [decide_eq_false (by omega), if_neg (by decide)])
    generalize f - 1 = g at e1 hfb HR
    clear hf h64 hlt n1 n2 hnf h0
    go_enter Tryd.func37, Tryd.ntmps37
    go_wp2_with (first
      | (go_at_call 56; (with_reducible first | refine (N1.out _).mono ?_ | refine (N2.out _).mono ?_); rintro e wa ⟨rfl, rfl⟩)
      | fail)
    go_ret
    exact ⟨⟨g, rfl, HR.out⟩, rfl⟩
  · rw [if_neg h0] at o3
    by_cases h1 : 0 < fval f
    · rw [if_pos h1] at o3
      have hlt64 : f + 1 < 18446744073709551616 := by unfold fin at hf; omega
      have e1 : IntKind.u64.wrap ((f : Int) + 1) = ((f + 1 : Nat) : Int) := by rw [wrap_u64]; omega
      have hfb := run_frombits (f + 1)
      have HR := Lib.hid (show nextV f true (f + 1) from fun _ => by rw [decide_eq_true h1, if_pos rfl])
      generalize f + 1 = g at e1 hfb HR
      clear hf h64 hlt n1 n2 hnf h0 h1 hlt64
      go_enter Tryd.func37, Tryd.ntmps37
      go_wp2_with (first
        | (go_at_call 56; (with_reducible first | refine (N1.out _).mono ?_ | refine (N2.out _).mono ?_); rintro e wa ⟨rfl, rfl⟩)
        | fail)
      go_ret
      exact ⟨⟨g, rfl, HR.out⟩, rfl⟩
    · rw [if_neg h1] at o3
      have hF : fval f = 0 := by omega
      have HR := Lib.hid hF
      have r1 : ∀ w, (callFunc 21 #[.int .u64 1]).run Tryd.prog w = .ok (.value (.float .f64 1)) w := run_frombits 1
      have r2 : ∀ w, (callFunc 32 #[.float .f64 1]).run Tryd.prog w = .ok (.value (.int .u64 1)) w := run_bits 1
      have r3 : ∀ w, (callFunc 32 #[.float .f64 4890909195324358656]).run Tryd.prog w = .ok (.value (.int .u64 4890909195324358656)) w := run_bits 4890909195324358656
      have b1 : bits .andNot .u64 1 9223372036854775808 = 1 := by decide
      have b2 : bits .and .u64 4890909195324358656 9223372036854775808 = 0 := by decide
      have b3 : bits .or .u64 1 0 = 1 := by decide
      have hc : ∀ w, Calls Tryd.prog 68 #[.float .f64 1, .float .f64 4890909195324358656] w fun e w' => e = .returned (.float .f64 1) ∧ w = w' := by
        intro w
        clear hb o1 o2 o3 N1 N2
        go_enter Tryd.func68, Tryd.ntmps68
        go_wp2_with fail
        go_ret
        exact ⟨rfl, rfl⟩
      have HCC := Lib.hid hc
      clear hf h64 hlt n1 n2 hnf h0 h1 hF hc r2 r3 b1 b2 b3
      go_enter Tryd.func37, Tryd.ntmps37
      go_wp2_with (first
        | (go_at_call 56; (with_reducible first | refine (N1.out _).mono ?_ | refine (N2.out _).mono ?_); rintro e wa ⟨rfl, rfl⟩)
        | (go_at_call 68; (with_reducible refine (HCC.out _).mono ?_); rintro e wa ⟨rfl, rfl⟩)
        | fail)
      go_ret
      exact ⟨⟨1, rfl, fun h => absurd HR.out h⟩, rfl⟩

set_option maxRecDepth 100000 in
set_option maxHeartbeats 2000000 in
theorem next_down {f : Nat} (hf : fin f) (h64 : f < 18446744073709551616) (hlt : -9223372036854775808 * (unit : Int) < fval f) (w : World) :
    Calls Tryd.prog 37 #[.float .f64 f, .float .f64 14114281232179134464] w fun e w' => (∃ g, e = .returned (.float .f64 g) ∧ nextV f false g) ∧ w = w' := by
  have n1 := fun w => isNaN_any f w
  have n2 := fun w => isNaN_any 14114281232179134464 w
  have hnf : nanF f = false := by
    unfold nanF
    unfold fin at hf
    exact decide_eq_false (by omega)
  rw [hnf] at n1
  rw [show nanF 14114281232179134464 = false by kernel_rfl] at n2
  have N1 := Lib.hid n1
  have N2 := Lib.hid n2
  have o1 : FloatKind.f64.format.order f 14114281232179134464 = some .gt := by rw [ord_of hf valm63.1, valm63.2, if_neg (by omega), if_pos hlt]
  have o2 : FloatKind.f64.format.order 14114281232179134464 f = some .lt := by rw [ord_of valm63.1 hf, valm63.2, if_pos hlt]
  have o3 := ord_of hf val0.1
  rw [val0.2] at o3
  have hb := run_bits f
  by_cases h0 : fval f < 0
  · rw [if_pos h0] at o3
    have hlt64 : f + 1 < 18446744073709551616 := by unfold fin at hf; omega
    have e1 : IntKind.u64.wrap ((f : Int) + 1) = ((f + 1 : Nat) : Int) := by rw [wrap_u64]; omega
    have hfb := run_frombits (f + 1)
    have HR := Lib.hid (show nextV f false (f + 1) from fun _ => by rw [decide_eq_false (by omega), if_pos rfl])
    generalize f + 1 = g at e1 hfb HR
    clear hf h64 hlt n1 n2 hnf h0 hlt64
    go_enter Tryd.func37, Tryd.ntmps37
    go_wp2_with (first
      | (go_at_call 56; (with_reducible first | refine (N1.out _).mono ?_ | refine (N2.out _).mono ?_); rintro e wa ⟨rfl, rfl⟩)
      | fail)
    go_ret
    exact ⟨⟨g, rfl, HR.out⟩, rfl⟩
  · rw [if_neg h0] at o3
    by_cases h1 : 0 < fval f
    · rw [if_pos h1] at o3
      have e1 : IntKind.u64.wrap ((f : Int) - 1) = ((f - 1 : Nat) : Int) := by
        have : f ≠ 0 := by rintro rfl; rw [show FloatKind.f64.format.order 0 0 = some .eq by decide] at o3; cases o3
        rw [wrap_u64]; omega
      have hfb := run_frombits (f - 1)
      have HR := Lib.hid (show nextV f false (f - 1) from fun _ => by rw [decide_eq_true h1, if_neg (by decide)])
      generalize f - 1 = g at e1 hfb HR
      clear hf h64 hlt n1 n2 hnf h0 h1
      go_enter Tryd.func37, Tryd.ntmps37
      go_wp2_with (first
        | (go_at_call 56; (with_reducible first | refine (N1.out _).mono ?_ | refine (N2.out _).mono ?_); rintro e wa ⟨rfl, rfl⟩)
        | fail)
      go_ret
      exact ⟨⟨g, rfl, HR.out⟩, rfl⟩
    · rw [if_neg h1] at o3
      have hF : fval f = 0 := by omega
      have HR := Lib.hid hF
      have r1 : ∀ w, (callFunc 21 #[.int .u64 1]).run Tryd.prog w = .ok (.value (.float .f64 1)) w := run_frombits 1
      have r2 : ∀ w, (callFunc 32 #[.float .f64 1]).run Tryd.prog w = .ok (.value (.int .u64 1)) w := run_bits 1
      have r3 : ∀ w, (callFunc 32 #[.float .f64 14114281232179134464]).run Tryd.prog w = .ok (.value (.int .u64 14114281232179134464)) w := run_bits 14114281232179134464
      have r4 : ∀ w, (callFunc 21 #[.int .u64 9223372036854775809]).run Tryd.prog w = .ok (.value (.float .f64 9223372036854775809)) w := run_frombits 9223372036854775809
      have b1 : bits .andNot .u64 1 9223372036854775808 = 1 := by decide
      have b2 : bits .and .u64 14114281232179134464 9223372036854775808 = 9223372036854775808 := by decide
      have b3 : bits .or .u64 1 9223372036854775808 = 9223372036854775809 := by decide
      have hc : ∀ w, Calls Tryd.prog 68 #[.float .f64 1, .float .f64 14114281232179134464] w fun e w' => e = .returned (.float .f64 9223372036854775809) ∧ w = w' := by
        intro w
        clear hb o1 o2 o3 N1 N2 r1
        go_enter Tryd.func68, Tryd.ntmps68
        go_wp2_with fail
        go_ret
        exact ⟨rfl, rfl⟩
      have HCC := Lib.hid hc
      clear hf h64 hlt n1 n2 hnf h0 h1 hF hc r2 r3 r4 b1 b2 b3
      go_enter Tryd.func37, Tryd.ntmps37
      go_wp2_with (first
        | (go_at_call 56; (with_reducible first | refine (N1.out _).mono ?_ | refine (N2.out _).mono ?_); rintro e wa ⟨rfl, rfl⟩)
        | (go_at_call 68; (with_reducible refine (HCC.out _).mono ?_); rintro e wa ⟨rfl, rfl⟩)
        | fail)
      go_ret
      exact ⟨⟨9223372036854775809, rfl, fun h => absurd HR.out h⟩, rfl⟩

end Go.Proofs.YtlpifchimnnfdaaDoor
