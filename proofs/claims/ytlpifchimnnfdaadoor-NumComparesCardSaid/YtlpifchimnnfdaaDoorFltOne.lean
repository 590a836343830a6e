/- Floats: times one, by one, less nothing; the order of two. -/
import Derived.Test.YtlpifchimnnfdaaDoorFltNear
namespace Go.Proofs.YtlpifchimnnfdaaDoor
open Ieee

/-- The float one. -/
theorem mag_one : mag (4607182418800017408 % 9223372036854775808) = unit := by
  have h3 : (2 : Nat) ^ 52 * 2 ^ 1022 = 2 ^ ex := pow_join 52 1022 ex (by rw [ex_eq])
  rw [p52] at h3
  rw [show 4607182418800017408 % 9223372036854775808 = 1022 * 4503599627370496 + 4503599627370496 by decide, mag_of (by decide) (by decide), h3, unit_eq]

theorem mul_one {b : Nat} (hb : fin b) (h64 : b < 18446744073709551616) : Ieee.double.mul b 4607182418800017408 = some b := by
  rw [mul_fin hb (c := 4607182418800017408) (by unfold fin; decide), mag_one, show sgn 4607182418800017408 = false by decide, Bool.xor_false, unit_eq]
  have := rungQ_scale (mag (b % 9223372036854775808)) ex 0
  rw [Nat.zero_add] at this
  rw [this, rungQ_mag hb, word_sgn h64]

theorem mul_zero {b : Nat} (hb : fin b) (s : Bool) : Ieee.double.mul b (Ieee.double.word s 0) = some (Ieee.double.word (sgn b ^^ s) 0) := by
  obtain ⟨s1, s2, _⟩ := sgn_word s (r := 0) (by decide)
  rw [mul_fin hb (c := Ieee.double.word s 0) (by unfold fin; rw [s2]; decide), s1, s2, mag_zero, Nat.mul_zero]
  rfl

theorem sub_zero {b : Nat} (hb : fin b) (h64 : b < 18446744073709551616) : Ieee.double.sub b 0 = some b := by
  rw [sub_fin hb (c := 0) (by unfold fin; decide), show fval 0 = 0 by rfl, Int.sub_zero, show sgn 0 = false by decide, Bool.not_false, Bool.and_true, fput_fval h64 hb]

theorem sub_self {b : Nat} (hb : fin b) : Ieee.double.sub b b = some 0 := by
  rw [sub_fin hb hb, Int.sub_self, show (sgn b && !sgn b) = false by cases sgn b <;> rfl]
  rfl

theorem read_one : Ieee.double.read 4607182418800017408 = .number false 4503599627370496 (-52) := by decide

theorem div_one {b : Nat} (hb : fin b) (h64 : b < 18446744073709551616) : Ieee.double.div b 4607182418800017408 = some b := by
  obtain ⟨m, p, i, r1, h1, h2, hm53, _⟩ := read_fin hb
  unfold Ieee.Format.div
  rw [r1, read_one]
  simp only [Ieee.Datum.quotient, Bool.xor_false]
  rw [if_neg (by decide)]
  simp only [Option.map_some, Ieee.Format.write]
  have e1 : Ieee.double.fractionBits = 52 := rfl
  have e2 : (4503599627370496 : Nat).log2 = 52 := by decide
  rw [e1, e2]
  have hl : m.log2 ≤ 52 := by
    by_cases h0 : m = 0
    · subst h0; decide
    · have := (Nat.log2_lt h0).2 (show m < 2 ^ 53 by rw [p53]; exact hm53)
      omega
  obtain ⟨k, hk⟩ : ∃ k, 52 + 2 + 52 - m.log2 = 52 + k := ⟨54 - m.log2, by omega⟩
  rw [hk, Nat.shiftLeft_eq]
  have e3 : m * 2 ^ (52 + k) / 4503599627370496 = m * 2 ^ k := by
    rw [Nat.pow_add, p52, Nat.mul_left_comm, Nat.mul_div_cancel_left _ (by decide)]
  have e4 : m * 2 ^ (52 + k) % 4503599627370496 = 0 := by
    rw [Nat.pow_add, p52, Nat.mul_left_comm, Nat.mul_mod_right]
  rw [e3, e4]
  have e5 : 2 * (m * 2 ^ k) + ((0 : Nat) != 0).toNat = m * 2 ^ (k + 1) := by
    show 2 * (m * 2 ^ k) + 0 = _
    rw [Nat.pow_succ, Nat.add_zero, ← Nat.mul_assoc m, Nat.mul_comm 2]
  rw [e5, nearest_eq _ (m * 2 ^ (k + 1)) _ i (k + 1) (by omega), Nat.mul_right_comm, h2]
  have := rungQ_scale (mag (b % 9223372036854775808)) (k + 1) 0
  rw [Nat.zero_add] at this
  rw [this, rungQ_mag hb, word_sgn h64]

theorem add_comm (b c : Nat) : Ieee.double.add b c = Ieee.double.add c b := by
  unfold Ieee.Format.add
  congr 1
  generalize Ieee.double.read b = x
  generalize Ieee.double.read c = y
  cases x with
  | nan => cases y <;> rfl
  | infinity s =>
    cases y with
    | nan => rfl
    | infinity t =>
      unfold Ieee.Datum.sum
      dsimp only
      by_cases h : s = t
      · subst h; rfl
      · rw [if_neg h, if_neg (fun e => h e.symm)]
    | number => rfl
  | number s m i =>
    cases y with
    | nan => rfl
    | infinity => rfl
    | number t n j =>
      unfold Ieee.Datum.sum
      dsimp only
      rw [show min j i = min i j by omega, Int.add_comm (signed t n _), Bool.and_comm t s]

theorem mul_comm (b c : Nat) : Ieee.double.mul b c = Ieee.double.mul c b := by
  unfold Ieee.Format.mul
  congr 1
  generalize Ieee.double.read b = x
  generalize Ieee.double.read c = y
  cases x with
  | nan => cases y <;> rfl
  | infinity s =>
    cases y with
    | nan => rfl
    | infinity t =>
      unfold Ieee.Datum.product
      dsimp only
      rw [Bool.xor_comm]
    | number t n j => rfl
  | number s m i =>
    cases y with
    | nan => rfl
    | infinity t => rfl
    | number t n j =>
      unfold Ieee.Datum.product
      dsimp only
      rw [Bool.xor_comm, Nat.mul_comm, Int.add_comm]

end Go.Proofs.YtlpifchimnnfdaaDoor
