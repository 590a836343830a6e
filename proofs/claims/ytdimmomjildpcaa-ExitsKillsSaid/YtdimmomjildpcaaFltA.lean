/- Floats: their bits, and whether they are finite. -/
import Derived.Test.YtdimmomjildpcaaTmMem
import Derived.Test.YtdimmomjildpcaaFltPure
import Derived.Lib.QuoteBits
import Derived.Laws.Externs
namespace Go.Proofs.Ytdimmomjildpcaa
open Go.RowKit

theorem run_bits (b : Nat) (w : World) : Sem.run Try.prog (callFunc 30 #[.float .f64 b]) w = .ok (.value (.int .u64 b)) w :=
  (run_callFunc_extern (P := Try.prog) (f := 30) (fn := Try.f30) (e := Extern.MathFloatBits.float64bits) Try.func30 (by kernel_rfl) (by kernel_rfl) (by kernel_rfl) (by kernel_rfl) _ w).trans rfl

theorem run_frombits (b : Nat) (w : World) : Sem.run Try.prog (callFunc 48 #[.int .u64 b]) w = .ok (.value (.float .f64 b)) w :=
  (run_callFunc_extern (P := Try.prog) (f := 48) (fn := Try.f48) (e := Extern.MathFloatBits.float64frombits) Try.func48 (by kernel_rfl) (by kernel_rfl) (by kernel_rfl) (by kernel_rfl) _ w).trans rfl

theorem plus_any (b : Nat) (w : World) : Calls Try.prog 43 #[.float .f64 b] w fun e w' => e = .returned (.bool (decide (b = 0))) ∧ w = w' := by
  have hb := run_bits b
  have e0 : ((b : Int) == 0) = decide (b = 0) := by
    rw [Bool.eq_iff_iff]
    simp
  go_enter Try.func43, Try.ntmps43
  go_wp2_with fail
  go_ret
  exact ⟨rfl, rfl⟩

theorem isNaN_any (b : Nat) (w : World) : Calls Try.prog 44 #[.float .f64 b] w fun e w' => e = .returned (.bool (nanF b)) ∧ w = w' := by
  have ho : (FloatKind.f64.format.order b b != some .eq) = nanF b := order_self b
  go_enter Try.func44, Try.ntmps44
  go_wp2_with fail
  go_ret
  exact ⟨by rw [← ho]; rfl, rfl⟩

theorem bits_abs (b : Nat) (hb : b < 18446744073709551616) : bits .andNot .u64 (b : Int) 9223372036854775808 = (b : Int) % 9223372036854775808 := by
  show IntKind.u64.wrap ((BitVec.ofInt 64 (b : Int) &&& ~~~BitVec.ofInt 64 ((9223372036854775808 : Nat) : Int)).toNat : Int) = _
  rw [BitVec.toNat_and, BitVec.toNat_not, ofInt_u64 b (by omega), ofInt_u64 9223372036854775808 (by omega)]
  have e : 2 ^ 64 - 1 - 9223372036854775808 = 2 ^ 63 - 1 := by decide
  rw [e, Nat.and_two_pow_sub_one_eq_mod]
  have h1 : b % 2 ^ 63 < 2 ^ 63 := Nat.mod_lt _ (by decide)
  rw [show IntKind.u64.wrap ((b % 2 ^ 63 : Nat) : Int) = ((b % 2 ^ 63 : Nat) : Int) from ?_]
  · omega
  · unfold IntKind.wrap
    simp [IntKind.bits, IntKind.signed]
    omega

theorem abs_any (b : Nat) (hb : b < 18446744073709551616) (w : World) : Calls Try.prog 47 #[.float .f64 b] w fun e w' => e = .returned (.float .f64 (b % 9223372036854775808)) ∧ w = w' := by
  have h1 := run_bits b
  have h2 : ∀ w, Sem.run Try.prog (callFunc 48 #[.int .u64 ((b : Int) % 9223372036854775808)]) w = .ok (.value (.float .f64 (b % 9223372036854775808))) w := by
    intro w
    have := run_frombits (b % 9223372036854775808) w
    rw [show (((b % 9223372036854775808 : Nat)) : Int) = (b : Int) % 9223372036854775808 by omega] at this
    exact this
  have h3 := bits_abs b hb
  clear hb
  go_enter Try.func47, Try.ntmps47
  go_wp2_with fail
  go_ret
  exact ⟨rfl, rfl⟩

/-- Is it an infinity? -/
def infF (b : Nat) : Bool := decide (b % 9223372036854775808 = 9218868437227405312)

theorem isInf_any (b : Nat) (hb : b < 18446744073709551616) (w : World) : Calls Try.prog 45 #[.float .f64 b, .int .i64 0] w fun e w' => e = .returned (.bool (infF b)) ∧ w = w' := by
  have ha := abs_any b hb w
  have ho : (FloatKind.f64.format.order (b % 9223372036854775808) 9218868437227405311 == some .gt) = infF b := order_max (Nat.mod_lt _ (by decide))
  generalize b % 9223372036854775808 = a at ha ho
  clear hb
  go_enter Try.func45, Try.ntmps45
  go_wp2_with fail
  refine ha.mono ?_
  rintro e w' ⟨rfl, rfl⟩
  clear ha
  go_wp2_with fail
  go_ret
  exact ⟨by rw [← ho]; rfl, rfl⟩

theorem finF_not (b : Nat) : (!nanF b && !infF b) = finF b := by
  unfold nanF infF finF
  rw [Bool.eq_iff_iff]
  simp
  omega

/-- A float less itself. -/
theorem run_sub_self (P : Program) (t : TypeId) (b : Nat) (w : World) : ∃ r w', (binOp .sub t (.float .f64 b) (.float .f64 b)).run P w = .ok (.float .f64 r) w' ∧ (FloatKind.f64.format.order r 0 == some .eq) = finF b ∧ Ext w w' := by
  rcases finF_cases b with ⟨hf, neg, m, p, hr⟩ | ⟨hf, _⟩
  · refine ⟨0, w, run_float_arith w .sub t .f64 b b 0 (sub_self_number hr), ?_, Ext.refl w⟩
    rw [hf]
    decide
  · have hs : FloatKind.f64.format.sub b b = none := sub_self_none hf
    refine ⟨(Question.nanBits .f64 b b).cut (w.tape w.drawn (.nanBits .f64 b b)), w.drew, ?_, ?_, (Ext.refl w).drew⟩
    · simp [binOp, Op.floatArith, hs, choose, Sem.run, Question.forced]
    · have hn : nanF ((Question.nanBits .f64 b b).cut (w.tape w.drawn (.nanBits .f64 b b))) = true := nan_drawn _
      rw [hf, show FloatKind.f64.format = Ieee.double from rfl, order_nan hn]
      rfl

theorem finite_any (b : Nat) (w : World) : Calls Try.prog 46 #[.float .f64 b] w fun e w' => e = .returned (.bool (finF b)) ∧ Ext w w' := by
  obtain ⟨r, w2, hrun, hord, hE⟩ := run_sub_self Try.prog 22 b w
  go_enter Try.func46, Try.ntmps46
  go_wp2_with fail
  go_ret
  exact ⟨by rw [← hord]; rfl, hE⟩

end Go.Proofs.Ytdimmomjildpcaa
