/- Numbers: Go's library rounds a float by its bits. -/
import Derived.Test.YtlpifchimnnfdaaDoorNmRound
namespace Go.Proofs.YtlpifchimnnfdaaDoor
open Go.RowKit Ieee
attribute [local irreducible] Ext
attribute [local go_sem] run_store_float

theorem and_mask (q m : Nat) (hq : q < 18446744073709551616) (hm : m ≤ 63) : bits .and .u64 (q : Int) ((2 ^ m - 1 : Nat) : Int) = ((q % 2 ^ m : Nat) : Int) := by
  have h2 : 2 ^ m ≤ 2 ^ 63 := Nat.pow_le_pow_right (by decide) hm
  have h3 : 0 < 2 ^ m := Nat.two_pow_pos m
  have h4 := Nat.mod_lt q h3
  show IntKind.u64.wrap ((BitVec.ofInt 64 (q : Int) &&& BitVec.ofInt 64 ((2 ^ m - 1 : Nat) : Int)).toNat : Int) = _
  rw [BitVec.toNat_and, ofInt_u64 q (by omega), ofInt_u64 (2 ^ m - 1) (by omega), Nat.and_two_pow_sub_one_eq_mod, wrap_u64]
  generalize 2 ^ m = P at h2 h3 h4 ⊢
  omega

theorem clear_mask (q m : Nat) (hq : q < 18446744073709551616) (hm : m ≤ 63) : q &&& (2 ^ 64 - 1 - (2 ^ m - 1)) = q / 2 ^ m * 2 ^ m := by
  apply Nat.eq_of_testBit_eq
  intro i
  have h1 : 2 ^ m - 1 < 2 ^ 64 := by
    have : 2 ^ m ≤ 2 ^ 63 := Nat.pow_le_pow_right (by decide) hm
    omega
  have e1 : 2 ^ 64 - 1 - (2 ^ m - 1) = 2 ^ 64 - ((2 ^ m - 1) + 1) := by omega
  rw [Nat.testBit_and, e1, Nat.testBit_two_pow_sub_succ h1, Nat.testBit_two_pow_sub_one, ← Nat.shiftRight_eq_div_pow, ← Nat.shiftLeft_eq, Nat.testBit_shiftLeft, Nat.testBit_shiftRight]
  by_cases hi : i < m
  · rw [decide_eq_true hi, decide_eq_false (show ¬ i ≥ m by omega)]
    simp
  · rw [decide_eq_false hi, decide_eq_true (show i ≥ m by omega), show m + (i - m) = i by omega]
    by_cases h64 : i < 64
    · rw [decide_eq_true h64]
      simp
    · have : q.testBit i = false := Nat.testBit_lt_two_pow (by
        have : 2 ^ 64 ≤ 2 ^ i := Nat.pow_le_pow_right (by decide) (by omega)
        omega)
      rw [this]
      rfl

theorem andnot_mask (q m : Nat) (hq : q < 18446744073709551616) (hm : m ≤ 63) : bits .andNot .u64 (q : Int) ((2 ^ m - 1 : Nat) : Int) = ((q / 2 ^ m * 2 ^ m : Nat) : Int) := by
  have h2 : 2 ^ m ≤ 2 ^ 63 := Nat.pow_le_pow_right (by decide) hm
  have h3 := Nat.div_mul_le_self q (2 ^ m)
  show IntKind.u64.wrap ((BitVec.ofInt 64 (q : Int) &&& ~~~BitVec.ofInt 64 ((2 ^ m - 1 : Nat) : Int)).toNat : Int) = _
  rw [BitVec.toNat_and, BitVec.toNat_not, ofInt_u64 q (by omega), ofInt_u64 (2 ^ m - 1) (by omega), clear_mask q m hq hm, wrap_u64]
  generalize q / 2 ^ m * 2 ^ m = P at h3 ⊢
  omega

theorem and_top (b : Nat) (hb : b < 18446744073709551616) : bits .and .u64 (b : Int) 9223372036854775808 = ((b / 9223372036854775808 * 9223372036854775808 : Nat) : Int) := by
  show IntKind.u64.wrap ((BitVec.ofInt 64 (b : Int) &&& BitVec.ofInt 64 ((9223372036854775808 : Nat) : Int)).toNat : Int) = _
  rw [BitVec.toNat_and, ofInt_u64 b (by omega), ofInt_u64 9223372036854775808 (by omega)]
  have e := clear_mask b 63 hb (by decide)
  rw [show 2 ^ 64 - 1 - (2 ^ 63 - 1) = 9223372036854775808 by decide, show (2 : Nat) ^ 63 = 9223372036854775808 by decide] at e
  rw [e, wrap_u64]
  omega

theorem or_one (b : Nat) (hb : b < 18446744073709551616) : bits .or .u64 ((b / 9223372036854775808 * 9223372036854775808 : Nat) : Int) 4607182418800017408 = ((b / 9223372036854775808 * 9223372036854775808 + 4607182418800017408 : Nat) : Int) := by
  have h : b / 9223372036854775808 = 0 ∨ b / 9223372036854775808 = 1 := by omega
  rcases h with h | h <;> rw [h] <;> decide

theorem shl_mask (e : Nat) (he : e ≤ 52) : 4503599627370495 / 2 ^ e = 2 ^ (52 - e) - 1 := by
  have h : 4503599627370496 = 2 ^ (52 - e) * 2 ^ e := by rw [← Nat.pow_add, show 52 - e + e = 52 by omega]
  have hp := Nat.two_pow_pos e
  have hq := Nat.two_pow_pos (52 - e)
  rw [Nat.div_eq_iff hp]
  have h2 : (2 ^ (52 - e) - 1) * 2 ^ e = 4503599627370496 - 2 ^ e := by rw [Nat.sub_mul, ← h, Nat.one_mul]
  have h3 : 2 ^ e ≤ 4503599627370496 := by
    rw [h]
    exact Nat.le_mul_of_pos_left _ hq
  omega

set_option maxRecDepth 100000 in
theorem round_any {b : Nat} (hb : b < 18446744073709551616) (w : World) : Calls Tryd.prog 80 #[.float .f64 b] w fun e w' => e = .returned (.float .f64 (roundR b)) ∧ w = w' := by
  have hbits := run_bits b
  obtain ⟨e, he⟩ : ∃ e, b / 4503599627370496 % 2048 = e := ⟨_, rfl⟩
  have h1 : bits .and .u64 ((b : Int) / 4503599627370496) 2047 = (e : Int) := by
    have := and_mask (b / 4503599627370496) 11 (by omega) (by decide)
    rw [show (2 : Nat) ^ 11 = 2048 by decide, he] at this
    exact this
  have hres : roundR b = if e < 1022 then b / 9223372036854775808 * 9223372036854775808 else if e = 1022 then b / 9223372036854775808 * 9223372036854775808 + 4607182418800017408 else if e < 1075 then (b + 2251799813685248 / 2 ^ (e - 1023)) / 2 ^ (52 - (e - 1023)) * 2 ^ (52 - (e - 1023)) else b := by
    unfold roundR
    rw [he]
  by_cases c1 : e < 1023
  · have d1 : decide ((e : Int) < 1023) = true := decide_eq_true (by omega)
    have d1' : decide (e < 1023) = true := decide_eq_true c1
    have h2 := and_top b hb
    by_cases c2 : e = 1022
    · have d2 : ((e : Int) == 1022) = true := by rw [beq_iff_eq]; omega
      rw [if_neg (by omega), if_pos c2] at hres
      have h3 := or_one b hb
      have HR := Lib.hid hres
      have hfb := run_frombits (b / 9223372036854775808 * 9223372036854775808 + 4607182418800017408)
      generalize b / 9223372036854775808 * 9223372036854775808 = x at h2 h3 HR hfb
      generalize x + 4607182418800017408 = y at h3 HR hfb
      clear hres hb he c1 c2
      go_enter Tryd.func80, Tryd.ntmps80
      go_wp2_with fail
      go_ret
      exact ⟨by rw [HR.out]; rfl, rfl⟩
    · have d2 : ((e : Int) == 1022) = false := by rw [beq_eq_false_iff_ne]; omega
      rw [if_pos (by omega)] at hres
      have HR := Lib.hid hres
      have hfb := run_frombits (b / 9223372036854775808 * 9223372036854775808)
      generalize b / 9223372036854775808 * 9223372036854775808 = x at h2 HR hfb
      clear hres hb he c1 c2
      go_enter Tryd.func80, Tryd.ntmps80
      go_wp2_with fail
      go_ret
      exact ⟨by rw [HR.out]; rfl, rfl⟩
  · have d1 : decide ((e : Int) < 1023) = false := decide_eq_false (by omega)
    have d1' : decide (e < 1023) = false := decide_eq_false c1
    rw [if_neg (by omega), if_neg (by omega)] at hres
    by_cases c2 : e < 1075
    · have d2 : decide ((e : Int) < 1075) = true := decide_eq_true (by omega)
      have d2' : decide (e < 1075) = true := decide_eq_true c2
      rw [if_pos c2] at hres
      obtain ⟨t, ht⟩ : ∃ t, e - 1023 = t := ⟨_, rfl⟩
      have et : IntKind.u64.wrap ((e : Int) - 1023) = (t : Int) := by rw [wrap_u64]; omega
      rw [ht] at hres
      have hmn : min t 64 = t := by omega
      have hle := Nat.div_le_self 2251799813685248 (2 ^ t)
      have hbb : b < 18446744073709551616 - 2251799813685248 := by omega
      obtain ⟨x, hx⟩ : ∃ x, 2251799813685248 / 2 ^ t = x := ⟨_, rfl⟩
      rw [hx] at hres hle
      have hs1 : (2251799813685248 : Int) / 2 ^ t = (x : Int) := by rw [← hx, Int.natCast_ediv, Int.natCast_pow]; rfl
      have ea : IntKind.u64.wrap ((b : Int) + (x : Int)) = ((b + x : Nat) : Int) := by rw [wrap_u64]; omega
      obtain ⟨y, hy⟩ : ∃ y, b + x = y := ⟨_, rfl⟩
      rw [hy] at hres ea
      have hm := andnot_mask y (52 - t) (by omega) (by omega)
      rw [← shl_mask t (by omega)] at hm
      obtain ⟨z, hz⟩ : ∃ z, 4503599627370495 / 2 ^ t = z := ⟨_, rfl⟩
      rw [hz] at hm
      have hs2 : (4503599627370495 : Int) / 2 ^ t = (z : Int) := by rw [← hz, Int.natCast_ediv, Int.natCast_pow]; rfl
      obtain ⟨v, hv⟩ : ∃ v, y / 2 ^ (52 - t) * 2 ^ (52 - t) = v := ⟨_, rfl⟩
      rw [hv] at hres hm
      have HR := Lib.hid hres
      have hfb := run_frombits v
      clear hres hb he c1 c2 ht hle hbb hx hy hz hv
      go_enter Tryd.func80, Tryd.ntmps80
      go_wp2_with fail
      go_ret
      exact ⟨by rw [HR.out]; rfl, rfl⟩
    · have d2 : decide ((e : Int) < 1075) = false := decide_eq_false (by omega)
      have d2' : decide (e < 1075) = false := decide_eq_false c2
      rw [if_neg c2] at hres
      have HR := Lib.hid hres
      have hfb := run_frombits b
      clear hres hb he c1 c2
      go_enter Tryd.func80, Tryd.ntmps80
      go_wp2_with fail
      go_ret
      exact ⟨by rw [HR.out]; rfl, rfl⟩

end Go.Proofs.YtlpifchimnnfdaaDoor
