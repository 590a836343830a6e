/- Floats: rounded, halves away from zero, as Go's library does it by the bits. -/
import Derived.Test.YtlpifchimnnfdaaDoorFltWhole
namespace Go.Proofs.YtlpifchimnnfdaaDoor
open Ieee

/-- The bits of what is rounded. -/
def roundR (b : Nat) : Nat :=
  if b / 4503599627370496 % 2048 < 1022 then b / 9223372036854775808 * 9223372036854775808
  else if b / 4503599627370496 % 2048 = 1022 then b / 9223372036854775808 * 9223372036854775808 + 4607182418800017408
  else if b / 4503599627370496 % 2048 < 1075 then
    (b + 2251799813685248 / 2 ^ (b / 4503599627370496 % 2048 - 1023)) / 2 ^ (52 - (b / 4503599627370496 % 2048 - 1023)) * 2 ^ (52 - (b / 4503599627370496 % 2048 - 1023))
  else b

/-- The whole number. -/
def cutR (x : Nat) : Nat := (2 * x + unit) / (2 * unit)

def roundI (b : Nat) : Int := if sgn b then -(cutR (siz b) : Int) else (cutR (siz b) : Int)

theorem word_split {b : Nat} (hb : b < 18446744073709551616) : b = Ieee.double.word (sgn b) (b % 9223372036854775808) ∧ b / 9223372036854775808 = (sgn b).toNat := by
  refine ⟨(word_sgn hb).symm, ?_⟩
  unfold sgn
  have h : b / 9223372036854775808 = 0 ∨ b / 9223372036854775808 = 1 := by omega
  rcases h with h | h <;> rw [h] <;> rfl

theorem word_add (s : Bool) (r : Nat) : Ieee.double.word s r = s.toNat * 9223372036854775808 + r := by
  have e1 : Ieee.double.signWeight = 9223372036854775808 := by decide
  unfold Ieee.Format.word
  rw [e1]
  cases s <;> simp

theorem cutR_low {x : Nat} (h : 2 * x < unit) : cutR x = 0 := by
  unfold cutR
  exact Nat.div_eq_of_lt (by omega)

theorem cutR_one {x : Nat} (h : unit ≤ 2 * x) (h2 : x < unit) : cutR x = 1 := by
  unfold cutR
  rw [Nat.div_eq_iff (by have := unit_pos; omega)]
  omega

theorem cutR_whole (c : Nat) : cutR (c * unit) = c := by
  have hp := unit_pos
  unfold cutR
  rw [show 2 * (c * unit) + unit = unit + c * (2 * unit) by rw [Nat.mul_left_comm]; omega, Nat.add_mul_div_right _ _ (by omega), Nat.div_eq_of_lt (by omega), Nat.zero_add]

theorem mag_hi {r : Nat} (h : 4503599627370496 ≤ r) : ∃ M k, 4503599627370496 ≤ M ∧ M < 9007199254740992 ∧ r = k * 4503599627370496 + M ∧ k = r / 4503599627370496 - 1 ∧ mag r = M * 2 ^ k := by
  refine ⟨4503599627370496 + r % 4503599627370496, r / 4503599627370496 - 1, by omega, by omega, by omega, rfl, ?_⟩
  unfold mag
  rw [if_neg (by omega)]

theorem mag_any {k M : Nat} (h1 : 4503599627370496 ≤ M) (h2 : M ≤ 9007199254740992) : mag (k * 4503599627370496 + M) = M * 2 ^ k := by
  by_cases h : M = 9007199254740992
  · rw [h]; exact mag_of'
  · exact mag_of h1 (by omega)

/-- In the middle: the fraction's bits. -/
theorem round_mid {M k t : Nat} (h1 : 4503599627370496 ≤ M) (h2 : M < 9007199254740992) (ht : t + k = 1073) (ht2 : t ≤ 51) :
    ((k * 4503599627370496 + M) + 2 ^ t) / 2 ^ (t + 1) * 2 ^ (t + 1) = k * 4503599627370496 + (M + 2 ^ t) / 2 ^ (t + 1) * 2 ^ (t + 1) ∧
    4503599627370496 ≤ (M + 2 ^ t) / 2 ^ (t + 1) * 2 ^ (t + 1) ∧ (M + 2 ^ t) / 2 ^ (t + 1) * 2 ^ (t + 1) ≤ 9007199254740992 ∧
    (M + 2 ^ t) / 2 ^ (t + 1) * 2 ^ (t + 1) * 2 ^ k = cutR (M * 2 ^ k) * unit := by
  have hx := ex_eq
  have hP : 0 < 2 ^ (t + 1) := Nat.two_pow_pos _
  have e52 : 4503599627370496 = 2 ^ (51 - t) * 2 ^ (t + 1) := by rw [← Nat.pow_add, show 51 - t + (t + 1) = 52 by omega]
  have e53 : 9007199254740992 = 2 ^ (52 - t) * 2 ^ (t + 1) := by rw [← Nat.pow_add, show 52 - t + (t + 1) = 53 by omega]
  have hh : 2 ^ t < 2 ^ (t + 1) := Nat.pow_lt_pow_right (by decide) (by omega)
  have hu : unit = 2 ^ (t + 1) * 2 ^ k := by rw [unit_eq, ← Nat.pow_add, show t + 1 + k = ex by omega]
  have hu2 : unit = 2 * 2 ^ t * 2 ^ k := by rw [hu, Nat.pow_succ, Nat.mul_comm (2 ^ t) 2]
  refine ⟨?_, ?_, ?_, ?_⟩
  · rw [Nat.add_assoc, e52, ← Nat.mul_assoc, Nat.add_comm (k * 2 ^ (51 - t) * 2 ^ (t + 1)), Nat.add_mul_div_right _ _ hP, Nat.add_mul, Nat.add_comm]
  · have : 2 ^ (51 - t) ≤ (M + 2 ^ t) / 2 ^ (t + 1) := (Nat.le_div_iff_mul_le hP).2 (by rw [← e52]; omega)
    have := Nat.mul_le_mul_right (2 ^ (t + 1)) this
    omega
  · have : (M + 2 ^ t) / 2 ^ (t + 1) < 2 ^ (52 - t) + 1 := by
      rw [Nat.div_lt_iff_lt_mul hP, Nat.add_mul, ← e53]
      omega
    have := Nat.mul_le_mul_right (2 ^ (t + 1)) (show (M + 2 ^ t) / 2 ^ (t + 1) ≤ 2 ^ (52 - t) by omega)
    omega
  · have hc : cutR (M * 2 ^ k) = (M + 2 ^ t) / 2 ^ (t + 1) := by
      unfold cutR
      have a1 : 2 * (M * 2 ^ k) + unit = (M + 2 ^ t) * (2 * 2 ^ k) := by
        rw [hu2, Nat.add_mul, Nat.mul_left_comm M 2, Nat.mul_comm 2 (2 ^ t), Nat.mul_assoc]
      have a2 : 2 * unit = 2 ^ (t + 1) * (2 * 2 ^ k) := by rw [hu, Nat.mul_left_comm]
      rw [a1, a2, Nat.mul_div_mul_right _ _ (by have := Nat.two_pow_pos k; omega)]
    rw [hc, hu, Nat.mul_assoc]

theorem pow_div (e : Nat) (he : e ≤ 51) : 2251799813685248 / 2 ^ e = 2 ^ (51 - e) := by
  rw [show 2251799813685248 = 2 ^ (51 - e) * 2 ^ e by rw [← Nat.pow_add, show 51 - e + e = 51 by omega], Nat.mul_div_cancel _ (Nat.two_pow_pos e)]

theorem round_val {b : Nat} (hb : fin b) (h64 : b < 18446744073709551616) : fin (roundR b) ∧ fval (roundR b) = roundI b * (unit : Int) ∧ roundR b < 18446744073709551616 := by
  have hx := ex_eq
  obtain ⟨hw, hs⟩ := word_split h64
  have hfb : b % 9223372036854775808 < 9218868437227405312 := hb
  obtain ⟨r, hr⟩ : ∃ r, b % 9223372036854775808 = r := ⟨_, rfl⟩
  have hsiz : siz b = mag r := by unfold siz; rw [hr]
  have he : b / 4503599627370496 % 2048 = r / 4503599627370496 := by omega
  have hbr : b = (sgn b).toNat * 9223372036854775808 + r := by rw [← word_add, ← hr]; exact hw
  suffices key : ∃ r', roundR b = Ieee.double.word (sgn b) r' ∧ r' < 9218868437227405312 ∧ mag r' = cutR (mag r) * unit by
    obtain ⟨r', k1, k2, k3⟩ := key
    obtain ⟨s1, s2, s3⟩ := sgn_word (sgn b) (r := r') (by omega)
    rw [k1]
    refine ⟨by unfold fin; rw [s2]; exact k2, ?_, s3⟩
    unfold fval roundI
    rw [s1, s2, k3, hsiz]
    split
    · rw [Int.neg_mul, Int.natCast_mul]
    · rw [Int.natCast_mul]
  unfold roundR
  rw [he, hs]
  rw [hr] at hfb
  by_cases c1 : r / 4503599627370496 < 1022
  · rw [if_pos c1]
    refine ⟨0, by rw [word_add, Nat.add_zero], by decide, ?_⟩
    have : 2 * mag r < unit := by
      by_cases hlo : r < 4503599627370496
      · unfold mag
        rw [if_pos hlo, unit_eq]
        have h3 : (2 : Nat) ^ 53 < 2 ^ ex := pow_lt_pow (by omega)
        rw [p53] at h3
        omega
      · obtain ⟨M, k, m1, m2, m3, m4, m5⟩ := mag_hi (r := r) (by omega)
        rw [m5, unit_eq]
        calc 2 * (M * 2 ^ k) < 2 * (2 ^ 53 * 2 ^ k) := by have := Nat.mul_lt_mul_of_pos_right (show M < 2 ^ 53 by rw [p53]; exact m2) (Nat.two_pow_pos k); omega
          _ = 2 ^ (54 + k) := by rw [← Nat.pow_add, Nat.mul_comm, ← Nat.pow_succ]; congr 1; omega
          _ ≤ 2 ^ ex := Nat.pow_le_pow_right (by decide) (by omega)
    rw [cutR_low this, mag_zero, Nat.zero_mul]
  · rw [if_neg c1]
    obtain ⟨M, k, m1, m2, m3, m4, m5⟩ := mag_hi (r := r) (by omega)
    by_cases c2 : r / 4503599627370496 = 1022
    · rw [if_pos c2]
      refine ⟨4607182418800017408, by rw [word_add], by decide, ?_⟩
      have hk : k = 1021 := by omega
      have e53 : unit = 2 ^ 53 * 2 ^ k := by rw [unit_eq, ← Nat.pow_add, show ex = 53 + k by omega]
      have e52 : unit = 2 * (2 ^ 52 * 2 ^ k) := by rw [unit_eq, ← Nat.pow_add, Nat.mul_comm, ← Nat.pow_succ, show ex = (52 + k) + 1 by omega]
      rw [p53] at e53
      rw [p52] at e52
      rw [m5, cutR_one (x := M * 2 ^ k)]
      · rw [Nat.one_mul]
        exact mag_one
      · rw [e52]
        have := Nat.mul_le_mul_right (2 ^ k) m1
        generalize 2 ^ k = P at this ⊢
        omega
      · rw [e53]
        exact Nat.mul_lt_mul_of_pos_right m2 (Nat.two_pow_pos _)
    · rw [if_neg c2]
      by_cases c3 : r / 4503599627370496 < 1075
      · rw [if_pos c3]
        obtain ⟨t, ht⟩ : ∃ t, 51 - (r / 4503599627370496 - 1023) = t := ⟨_, rfl⟩
        have htk : t + k = 1073 := by omega
        have ht2 : t ≤ 51 := by omega
        rw [pow_div _ (by omega), ht, show 52 - (r / 4503599627370496 - 1023) = t + 1 by omega]
        obtain ⟨g1, g2, g3, g4⟩ := round_mid m1 m2 htk ht2
        refine ⟨k * 4503599627370496 + (M + 2 ^ t) / 2 ^ (t + 1) * 2 ^ (t + 1), ?_, ?_, ?_⟩
        · rw [word_add, ← g1, ← m3]
          have hP : 0 < 2 ^ (t + 1) := Nat.two_pow_pos _
          have e63 : 9223372036854775808 = 2 ^ (62 - t) * 2 ^ (t + 1) := by rw [← Nat.pow_add, show 62 - t + (t + 1) = 63 by omega]
          have hsplit : b + 2 ^ t = (r + 2 ^ t) + (sgn b).toNat * 2 ^ (62 - t) * 2 ^ (t + 1) := by
            rw [Nat.mul_assoc, ← e63]
            generalize 2 ^ t = P
            omega
          rw [hsplit, Nat.add_mul_div_right _ _ hP, Nat.add_mul, Nat.mul_assoc (sgn b).toNat, ← e63, Nat.add_comm]
        · have := Nat.mul_le_mul_right 4503599627370496 (show k ≤ 1073 by omega)
          omega
        · rw [mag_any g2 g3, g4, m5]
      · rw [if_neg c3]
        refine ⟨r, by rw [word_add]; exact hbr, hfb, ?_⟩
        rw [m5, mul_pow_ge M k (by omega), cutR_whole]

end Go.Proofs.YtlpifchimnnfdaaDoor
