/- Floats by their values: whole numbers of 2^-1074. -/
import Derived.Laws.FloatArith
namespace Go.Proofs.YtlpifchimnnfdaaDoor
open Ieee

/-- n / 2^d, to the nearest, the even one between two. -/
def rnd (n d : Nat) : Nat := n / 2 ^ d + (decide (2 ^ d < 2 * (n % 2 ^ d)) || (2 ^ d == 2 * (n % 2 ^ d) && n / 2 ^ d % 2 == 1)).toNat

theorem cut_even (neg : Bool) (n d : Nat) : Toward.even.cut neg n d = rnd n d := by
  unfold Toward.cut rnd
  simp only [Nat.shiftLeft_eq, Nat.one_mul]
  by_cases h : d ≤ n.log2 + 2
  · rw [Nat.min_eq_left h]
  · rw [Nat.min_eq_right (by omega)]
    have h1 : n < 2 ^ (n.log2 + 1) := Nat.lt_log2_self
    have h2 : 2 ^ (n.log2 + 2) = 2 ^ (n.log2 + 1) * 2 := Nat.pow_succ ..
    have h3 : 2 ^ (n.log2 + 2) ≤ 2 ^ d := Nat.pow_le_pow_right (by decide) (by omega)
    have g1 : n / 2 ^ (n.log2 + 2) = 0 := Nat.div_eq_of_lt (by omega)
    have g2 : n % 2 ^ (n.log2 + 2) = n := Nat.mod_eq_of_lt (by omega)
    have g3 : n / 2 ^ d = 0 := Nat.div_eq_of_lt (by omega)
    have g4 : n % 2 ^ d = n := Nat.mod_eq_of_lt (by omega)
    rw [g1, g2, g3, g4, decide_eq_false (by omega), decide_eq_false (by omega), beq_eq_false_iff_ne.2 (by omega), show ((0 : Nat) % 2 == 1) = false from rfl, Bool.and_false, Bool.and_false]

theorem rnd_scale (n c d : Nat) : rnd (n * 2 ^ c) (d + c) = rnd n d := by
  unfold rnd
  have hc : 0 < 2 ^ c := Nat.two_pow_pos c
  rw [Nat.pow_add, Nat.mul_div_mul_right _ _ hc, Nat.mul_mod_mul_right]
  have e1 : decide (2 ^ d * 2 ^ c < 2 * (n % 2 ^ d * 2 ^ c)) = decide (2 ^ d < 2 * (n % 2 ^ d)) := by
    rw [← Nat.mul_assoc]
    exact decide_eq_decide.2 (Nat.mul_lt_mul_right hc)
  have e2 : (2 ^ d * 2 ^ c == 2 * (n % 2 ^ d * 2 ^ c)) = (2 ^ d == 2 * (n % 2 ^ d)) := by
    rw [← Nat.mul_assoc, Bool.eq_iff_iff, beq_iff_eq, beq_iff_eq]
    exact Nat.mul_right_cancel_iff hc
  rw [e1, e2]

theorem rnd_zero (n : Nat) : rnd n 0 = n := by
  unfold rnd
  simp [Nat.mod_one]

/-- The rung of x / 2^q units. -/
def rungQ (x q : Nat) : Nat := if x = 0 then 0 else min ((x.log2 - q - 52) * 4503599627370496 + rnd x (x.log2 - q - 52 + q)) 9218868437227405312

theorem log2_scale (m a : Nat) (hm : m ≠ 0) : (m * 2 ^ a).log2 = m.log2 + a := by
  have hp : m * 2 ^ a ≠ 0 := Nat.mul_ne_zero hm (Nat.ne_of_gt (Nat.two_pow_pos a))
  rw [Nat.log2_eq_iff hp]
  have h1 := Nat.log2_self_le hm
  have h2 : m < 2 ^ (m.log2 + 1) := Nat.lt_log2_self
  refine ⟨?_, ?_⟩
  · rw [Nat.pow_add]; exact Nat.mul_le_mul_right _ h1
  · rw [show m.log2 + a + 1 = m.log2 + 1 + a by omega, Nat.pow_add]
    exact Nat.mul_lt_mul_of_pos_right h2 (Nat.two_pow_pos a)

theorem rungQ_scale (x c q : Nat) : rungQ (x * 2 ^ c) (q + c) = rungQ x q := by
  unfold rungQ
  by_cases h : x = 0
  · subst h; simp
  · have hp : x * 2 ^ c ≠ 0 := Nat.mul_ne_zero h (Nat.ne_of_gt (Nat.two_pow_pos c))
    rw [if_neg h, if_neg hp, log2_scale x c h]
    rw [show x.log2 + c - (q + c) - 52 = x.log2 - q - 52 by omega, show x.log2 - q - 52 + (q + c) = (x.log2 - q - 52 + q) + c by omega, rnd_scale]

theorem nearest_eq (neg : Bool) (m : Nat) (p : Int) (a q : Nat) (hp : p + 1074 = (a : Int) - q) : Ieee.double.nearest neg m p = Ieee.double.word neg (rungQ (m * 2 ^ a) q) := by
  have e1 : Ieee.double.fractionBits = 52 := rfl
  have e2 : Ieee.double.leastPlace = -1074 := by decide
  have e3 : Ieee.double.binade = 4503599627370496 := by decide
  have e4 : Ieee.double.infRung = 9218868437227405312 := by decide
  unfold Ieee.Format.nearest rungQ
  rw [e1, e2, e3, e4]
  by_cases h : m = 0
  · subst h; rw [if_pos rfl, Nat.zero_mul, if_pos rfl]
  · have hpos : m * 2 ^ a ≠ 0 := Nat.mul_ne_zero h (Nat.ne_of_gt (Nat.two_pow_pos a))
    rw [if_neg h, if_neg hpos, log2_scale m a h]
    dsimp only
    rw [cut_even, Nat.shiftLeft_eq]
    obtain ⟨L, hL⟩ : ∃ L, m.log2 + a - q - 52 = L := ⟨_, rfl⟩
    have hl : max (p + (m.log2 : Int) - ((52 : Nat) : Int)) (-1074) = -1074 + (L : Int) := by omega
    rw [hl, hL]
    have hk : (-1074 + (L : Int) - -1074).toNat = L := by omega
    rw [hk]
    suffices key : rnd (m * 2 ^ (p - (-1074 + (L : Int))).toNat) (-1074 + (L : Int) - p).toNat = rnd (m * 2 ^ a) (L + q) by rw [key]
    by_cases hc : q + L ≤ a
    · have t1 : (p - (-1074 + (L : Int))).toNat = a - (q + L) := by omega
      have t2 : (-1074 + (L : Int) - p).toNat = 0 := by omega
      rw [t1, t2]
      have := rnd_scale (m * 2 ^ (a - (q + L))) (q + L) 0
      rw [Nat.mul_assoc, ← Nat.pow_add, show a - (q + L) + (q + L) = a by omega, Nat.zero_add] at this
      rw [← this, Nat.add_comm q L]
    · have t1 : (p - (-1074 + (L : Int))).toNat = 0 := by omega
      have t2 : (-1074 + (L : Int) - p).toNat = q + L - a := by omega
      rw [t1, t2, Nat.pow_zero, Nat.mul_one]
      have := rnd_scale m a (q + L - a)
      rw [show q + L - a + a = L + q by omega] at this
      rw [this]

/-- How many units a rung is. -/
def mag (r : Nat) : Nat := if r < 4503599627370496 then r else (4503599627370496 + r % 4503599627370496) * 2 ^ (r / 4503599627370496 - 1)

theorem log2_of {x k : Nat} (h1 : 2 ^ k ≤ x) (h2 : x < 2 ^ (k + 1)) : x.log2 = k := by
  have : x ≠ 0 := by have := Nat.two_pow_pos k; omega
  exact (Nat.log2_eq_iff this).2 ⟨h1, h2⟩

theorem p52 : (2 : Nat) ^ 52 = 4503599627370496 := by decide
theorem p53 : (2 : Nat) ^ 53 = 9007199254740992 := by decide

theorem rungQ_mag {r : Nat} (hr : r < 9218868437227405312) : rungQ (mag r) 0 = r := by
  unfold rungQ mag
  by_cases h : r < 4503599627370496
  · rw [if_pos h]
    by_cases h0 : r = 0
    · rw [if_pos h0, h0]
    · rw [if_neg h0]
      have hl : r.log2 < 52 := (Nat.log2_lt h0).2 (by rw [p52]; exact h)
      rw [show r.log2 - 0 - 52 = 0 by omega, Nat.zero_mul, Nat.zero_add, rnd_zero]
      omega
  · rw [if_neg h]
    obtain ⟨M, hM⟩ : ∃ M, 4503599627370496 + r % 4503599627370496 = M := ⟨_, rfl⟩
    obtain ⟨k, hk⟩ : ∃ k, r / 4503599627370496 - 1 = k := ⟨_, rfl⟩
    rw [hM, hk]
    have h1 := Nat.mod_lt r (show 4503599627370496 > 0 by decide)
    have h2 := Nat.div_add_mod r 4503599627370496
    have hM0 : M ≠ 0 := by omega
    have hl : M.log2 = 52 := log2_of (by rw [p52]; omega) (by rw [p53]; omega)
    rw [if_neg (Nat.mul_ne_zero hM0 (Nat.ne_of_gt (Nat.two_pow_pos k))), log2_scale M k hM0, hl]
    rw [show 52 + k - 0 - 52 = k by omega, Nat.add_zero]
    have := rnd_scale M k 0
    rw [Nat.zero_add, rnd_zero] at this
    rw [this]
    have hk1 : r / 4503599627370496 = k + 1 := by omega
    rw [hk1] at h2
    omega

/-- The sign bit. -/
def sgn (b : Nat) : Bool := b / 9223372036854775808 % 2 == 1

/-- A float's value. -/
def fval (b : Nat) : Int := if sgn b then -(mag (b % 9223372036854775808) : Int) else (mag (b % 9223372036854775808) : Int)

theorem read_fin {b : Nat} (h : b % 9223372036854775808 < 9218868437227405312) : ∃ (m : Nat) (p : Int) (a : Nat), Ieee.double.read b = .number (sgn b) m p ∧ p + 1074 = (a : Int) ∧ m * 2 ^ a = mag (b % 9223372036854775808) ∧ m < 9007199254740992 ∧ a ≤ 2045 := by
  have e1 : Ieee.double.signWeight = 9223372036854775808 := by decide
  have e2 : Ieee.double.binade = 4503599627370496 := by decide
  have e3 : Ieee.double.infRung = 9218868437227405312 := by decide
  have e4 : Ieee.double.leastPlace = -1074 := by decide
  unfold Ieee.Format.read mag
  rw [e1, e2, e3, e4]
  dsimp only
  by_cases hs : b % 9223372036854775808 < 4503599627370496
  · rw [if_pos hs, if_pos hs]
    exact ⟨_, _, 0, rfl, by omega, by rw [Nat.pow_zero, Nat.mul_one], by omega, by omega⟩
  · rw [if_neg hs, if_neg hs, if_pos h]
    refine ⟨_, _, _, rfl, ?_, rfl, ?_, ?_⟩
    · omega
    · have := Nat.mod_lt (b % 9223372036854775808) (show 4503599627370496 > 0 by decide)
      omega
    · omega

theorem word_sgn {b : Nat} (hb : b < 18446744073709551616) : Ieee.double.word (sgn b) (b % 9223372036854775808) = b := by
  have e1 : Ieee.double.signWeight = 9223372036854775808 := by decide
  unfold Ieee.Format.word sgn
  rw [e1]
  by_cases h : b < 9223372036854775808
  · rw [Nat.div_eq_of_lt h, Nat.mod_eq_of_lt h]; rfl
  · have : b / 9223372036854775808 = 1 := by omega
    rw [this]
    simp
    omega

theorem sgn_word (s : Bool) {r : Nat} (hr : r < 9223372036854775808) : sgn (Ieee.double.word s r) = s ∧ Ieee.double.word s r % 9223372036854775808 = r ∧ Ieee.double.word s r < 18446744073709551616 := by
  have e1 : Ieee.double.signWeight = 9223372036854775808 := by decide
  unfold Ieee.Format.word sgn
  rw [e1]
  cases s
  · simp only [Bool.false_eq_true, if_false]
    rw [Nat.div_eq_of_lt hr, Nat.mod_eq_of_lt hr]
    exact ⟨rfl, rfl, by omega⟩
  · simp only [if_true]
    have : (9223372036854775808 + r) / 9223372036854775808 = 1 := by omega
    rw [this]
    exact ⟨rfl, by omega, by omega⟩

theorem rungQ_le (x q : Nat) : rungQ x q ≤ 9218868437227405312 := by
  unfold rungQ
  split <;> omega

/-- The float of a number of units; z: a zero's sign. -/
def fput (x : Int) (z : Bool) : Nat := Ieee.double.word (if x = 0 then z else decide (x < 0)) (rungQ x.natAbs 0)

/-- Is a number of units a float's? -/
def Rep (x : Nat) : Prop := ∃ r, r < 9218868437227405312 ∧ mag r = x

theorem mag_zero : mag 0 = 0 := rfl

theorem mag_pos {r : Nat} (h : r ≠ 0) : mag r ≠ 0 := by
  unfold mag
  split
  · exact h
  · exact Nat.mul_ne_zero (by omega) (Nat.ne_of_gt (Nat.two_pow_pos _))

theorem fput_fval {b : Nat} (hb : b < 18446744073709551616) (h : b % 9223372036854775808 < 9218868437227405312) : fput (fval b) (sgn b) = b := by
  unfold fput fval
  have hw := word_sgn hb
  by_cases h0 : b % 9223372036854775808 = 0
  · rw [h0] at hw ⊢
    rw [mag_zero]
    cases hs : sgn b <;> rw [hs] at hw <;> simpa [rungQ] using hw
  · have hm := mag_pos h0
    have hr := rungQ_mag h
    cases hs : sgn b
    · simp only [Bool.false_eq_true, if_false]
      rw [if_neg (by omega), decide_eq_false (by omega), Int.natAbs_natCast, hr]
      rw [hs] at hw; exact hw
    · simp only [if_true]
      rw [if_neg (by omega), decide_eq_true (by omega), Int.natAbs_neg, Int.natAbs_natCast, hr]
      rw [hs] at hw; exact hw

theorem rep_fval {b : Nat} (h : b % 9223372036854775808 < 9218868437227405312) : Rep (fval b).natAbs := by
  refine ⟨_, h, ?_⟩
  unfold fval
  split <;> simp

/-- What is a float's is written exactly. -/
theorem fval_fput {x : Int} (h : Rep x.natAbs) (z : Bool) : fval (fput x z) = x ∧ fput x z < 18446744073709551616 ∧ fput x z % 9223372036854775808 < 9218868437227405312 ∧ (x ≠ 0 → sgn (fput x z) = decide (x < 0)) ∧ (x = 0 → sgn (fput x z) = z) := by
  obtain ⟨r, hr, hm⟩ := h
  have hq : rungQ x.natAbs 0 = r := by rw [← hm]; exact rungQ_mag hr
  obtain ⟨s1, s2, s3⟩ := sgn_word (if x = 0 then z else decide (x < 0)) (r := r) (by omega)
  unfold fval fput
  rw [hq, s1, s2, hm]
  refine ⟨?_, s3, hr, fun h => by rw [if_neg h], fun h => by rw [if_pos h]⟩
  by_cases h0 : x = 0
  · subst h0; simp
  · rw [if_neg h0]
    by_cases hn : x < 0
    · rw [decide_eq_true hn, if_pos rfl]; omega
    · rw [decide_eq_false hn, if_neg (by decide)]; omega

theorem rep_of {M k : Nat} (hM : M < 9007199254740992) (hk : k ≤ 2045) : Rep (M * 2 ^ k) := by
  by_cases h0 : M = 0
  · subst h0; exact ⟨0, by decide, by rw [mag_zero, Nat.zero_mul]⟩
  · have hl : M.log2 ≤ 52 := by
      have := (Nat.log2_lt h0).2 (show M < 2 ^ 53 by rw [p53]; exact hM)
      omega
    have h1 := Nat.log2_self_le h0
    have h2 : M < 2 ^ (M.log2 + 1) := Nat.lt_log2_self
    by_cases hc : 52 - M.log2 ≤ k
    · have hn1 : M * 2 ^ (52 - M.log2) < 9007199254740992 := by
        rw [← p53, show 53 = M.log2 + 1 + (52 - M.log2) by omega, Nat.pow_add]
        exact Nat.mul_lt_mul_of_pos_right h2 (Nat.two_pow_pos _)
      have hn2 : 4503599627370496 ≤ M * 2 ^ (52 - M.log2) := by
        rw [← p52]
        have := Nat.mul_le_mul_right (2 ^ (52 - M.log2)) h1
        rw [← Nat.pow_add, show M.log2 + (52 - M.log2) = 52 by omega] at this
        exact this
      have he : M * 2 ^ k = M * 2 ^ (52 - M.log2) * 2 ^ (k - (52 - M.log2)) := by
        rw [Nat.mul_assoc, ← Nat.pow_add, show 52 - M.log2 + (k - (52 - M.log2)) = k by omega]
      rw [he]
      generalize M * 2 ^ (52 - M.log2) = N at hn1 hn2
      have hj : k - (52 - M.log2) ≤ 2045 := by omega
      generalize k - (52 - M.log2) = j at hj
      refine ⟨(j + 1) * 4503599627370496 + (N - 4503599627370496), by omega, ?_⟩
      unfold mag
      rw [if_neg (by omega), show ((j + 1) * 4503599627370496 + (N - 4503599627370496)) % 4503599627370496 = N - 4503599627370496 by omega, show ((j + 1) * 4503599627370496 + (N - 4503599627370496)) / 4503599627370496 - 1 = j by omega, show 4503599627370496 + (N - 4503599627370496) = N by omega]
    · have hlt : M * 2 ^ k < 4503599627370496 := by
        rw [← p52]
        calc M * 2 ^ k < 2 ^ (M.log2 + 1) * 2 ^ k := Nat.mul_lt_mul_of_pos_right h2 (Nat.two_pow_pos _)
          _ = 2 ^ (M.log2 + 1 + k) := (Nat.pow_add ..).symm
          _ ≤ 2 ^ 52 := Nat.pow_le_pow_right (by decide) (by omega)
      refine ⟨M * 2 ^ k, by omega, ?_⟩
      unfold mag
      rw [if_pos hlt]

end Go.Proofs.YtlpifchimnnfdaaDoor
