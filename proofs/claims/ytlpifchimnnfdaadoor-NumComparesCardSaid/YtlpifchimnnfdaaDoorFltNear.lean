/- The nearest float of a whole number, by its highest 53 bits. -/
import Derived.Test.YtlpifchimnnfdaaDoorFltOps
namespace Go.Proofs.YtlpifchimnnfdaaDoor
open Ieee

theorem mag_of {M k : Nat} (h1 : 4503599627370496 ≤ M) (h2 : M < 9007199254740992) : mag (k * 4503599627370496 + M) = M * 2 ^ k := by
  unfold mag
  rw [if_neg (by omega), show (k * 4503599627370496 + M) % 4503599627370496 = M - 4503599627370496 by omega, show (k * 4503599627370496 + M) / 4503599627370496 - 1 = k by omega, show 4503599627370496 + (M - 4503599627370496) = M by omega]

theorem mag_of' {k : Nat} : mag (k * 4503599627370496 + 9007199254740992) = 9007199254740992 * 2 ^ k := by
  have := mag_of (M := 4503599627370496) (k := k + 1) (by decide) (by decide)
  rw [show k * 4503599627370496 + 9007199254740992 = (k + 1) * 4503599627370496 + 4503599627370496 by omega, this, Nat.pow_succ]
  omega

theorem rnd_le {n d : Nat} : rnd n d ≤ n / 2 ^ d + 1 := by
  unfold rnd
  cases (decide (2 ^ d < 2 * (n % 2 ^ d)) || (2 ^ d == 2 * (n % 2 ^ d) && n / 2 ^ d % 2 == 1)) <;> simp

theorem rnd_ge {n d : Nat} : n / 2 ^ d ≤ rnd n d := by
  unfold rnd
  omega

/-- What rounding makes of a great number of units: it is itself a float's. -/
theorem rungQ_round {x L : Nat} (h1 : 2 ^ (52 + L) ≤ x) (h2 : x < 2 ^ (53 + L)) (hL : L ≤ 2044) : rungQ x 0 < 9218868437227405312 ∧ mag (rungQ x 0) = rnd x L * 2 ^ L ∧ 4503599627370496 ≤ rnd x L ∧ rnd x L ≤ 9007199254740992 := by
  have hx : x ≠ 0 := by have := Nat.two_pow_pos (52 + L); omega
  have hl : x.log2 = 52 + L := log2_of h1 (by rw [show 52 + L + 1 = 53 + L by omega]; exact h2)
  have d1 : 4503599627370496 ≤ x / 2 ^ L := by
    rw [Nat.le_div_iff_mul_le (Nat.two_pow_pos L), ← p52, ← Nat.pow_add]
    exact h1
  have d2 : x / 2 ^ L < 9007199254740992 := by
    rw [Nat.div_lt_iff_lt_mul (Nat.two_pow_pos L), ← p53, ← Nat.pow_add]
    exact h2
  have r1 : 4503599627370496 ≤ rnd x L := Nat.le_trans d1 rnd_ge
  have r2 : rnd x L ≤ 9007199254740992 := by have := @rnd_le x L; omega
  have e : rungQ x 0 = L * 4503599627370496 + rnd x L := by
    unfold rungQ
    rw [if_neg hx, hl, show 52 + L - 0 - 52 = L by omega, Nat.add_zero]
    omega
  rw [e]
  refine ⟨by omega, ?_, r1, r2⟩
  by_cases hc : rnd x L = 9007199254740992
  · rw [hc, mag_of']
  · exact mag_of r1 (by omega)

/-- Twice a float. -/
theorem mul_two {b : Nat} (hb : fin b) : Ieee.double.mul b 4611686018427387904 = some (Ieee.double.word (sgn b) (rungQ (2 * mag (b % 9223372036854775808)) 0)) := by
  have h2 : fin 4611686018427387904 := by unfold fin; decide
  rw [mul_fin hb h2]
  have e : mag (4611686018427387904 % 9223372036854775808) = 2 * 2 ^ ex := by
    have h3 : (2 : Nat) ^ 52 * 2 ^ 1023 = 2 * 2 ^ ex := pow_join1 52 1023 ex (by rw [ex_eq])
    rw [p52] at h3
    rw [show 4611686018427387904 % 9223372036854775808 = 1023 * 4503599627370496 + 4503599627370496 by decide, mag_of (by decide) (by decide), h3]
  have s : sgn 4611686018427387904 = false := by decide
  rw [e, s, Bool.xor_false, ← Nat.mul_assoc]
  have := rungQ_scale (mag (b % 9223372036854775808) * 2) ex 0
  rw [Nat.zero_add] at this
  rw [this, Nat.mul_comm 2]

/-- The document's way: the highest 53 bits, rounded. -/
def top (u s : Nat) : Nat := u / 2 ^ s + (if 2 ^ s / 2 < u % 2 ^ s ∨ u % 2 ^ s = 2 ^ s / 2 ∧ 0 < s ∧ u / 2 ^ s % 2 = 1 then 1 else 0)

theorem top_rnd (u s : Nat) (hs : 0 < s) : top u s = rnd u s := by
  unfold top rnd
  have e : 2 ^ s = 2 * (2 ^ s / 2) := by
    have : 2 ^ s = 2 ^ (s - 1) * 2 := by rw [← Nat.pow_succ]; congr 1; omega
    omega
  generalize 2 ^ s / 2 = h at e
  rw [e]
  congr 1
  have e2 : (2 * h < 2 * (u % (2 * h))) = (h < u % (2 * h)) := by apply propext; omega
  have e3 : (2 * h == 2 * (u % (2 * h))) = decide (u % (2 * h) = h) := by
    rw [Bool.eq_iff_iff, beq_iff_eq, decide_eq_true_iff]; omega
  rw [e3]
  simp only [e2]
  by_cases h1 : h < u % (2 * h)
  · rw [if_pos (.inl h1), decide_eq_true h1, Bool.true_or]; rfl
  · rw [decide_eq_false h1, Bool.false_or]
    by_cases h2 : u % (2 * h) = h
    · rw [decide_eq_true h2, Bool.true_and]
      by_cases h3 : u / (2 * h) % 2 = 1
      · rw [if_pos (.inr ⟨h2, hs, h3⟩), h3]; rfl
      · rw [if_neg (by rintro (h | h) <;> omega), beq_eq_false_iff_ne.2 h3]; rfl
    · rw [decide_eq_false h2, Bool.false_and, if_neg (by rintro (h | h) <;> omega)]; rfl

/-- The nearest float of a great number is that of its highest 53 bits, rounded. -/
theorem near_top {u s : Nat} (h1 : 2 ^ (52 + s) ≤ u) (h2 : u < 2 ^ (53 + s)) (hs : 0 < s) (hs2 : s ≤ 900) (neg : Bool) :
    Ieee.double.word neg (rungQ (u * unit) 0) = Ieee.double.word neg (rungQ (top u s * 2 ^ s * unit) 0) ∧ top u s ≤ 9007199254740992 ∧ 4503599627370496 ≤ top u s := by
  have e := unit_eq
  have hx := ex_eq
  have b1 : 2 ^ (52 + (s + ex)) ≤ u * unit := by
    rw [← Nat.add_assoc, Nat.pow_add, e]; exact Nat.mul_le_mul_right _ h1
  have b2 : u * unit < 2 ^ (53 + (s + ex)) := by
    rw [← Nat.add_assoc, Nat.pow_add 2 (53 + s), e]; exact Nat.mul_lt_mul_of_pos_right h2 (Nat.two_pow_pos _)
  obtain ⟨r1, r2, r3, r4⟩ := rungQ_round b1 b2 (by omega)
  have hr : rnd (u * unit) (s + ex) = rnd u s := by rw [e]; exact rnd_scale u ex s
  rw [hr] at r2 r3 r4
  rw [top_rnd u s hs]
  refine ⟨?_, r4, r3⟩
  have := rungQ_mag r1
  rw [r2, Nat.pow_add, ← Nat.mul_assoc] at this
  rw [e] at this ⊢
  rw [this]

/-- Doubled so often. -/
theorem double_step {t k : Nat} (ht : t ≤ 9007199254740992) (hk : k ≤ 900) (hp : 4503599627370496 ≤ t) :
    fin (Ieee.double.word false (rungQ (t * 2 ^ k * unit) 0)) ∧ Ieee.double.mul (Ieee.double.word false (rungQ (t * 2 ^ k * unit) 0)) 4611686018427387904 = some (Ieee.double.word false (rungQ (t * 2 ^ (k + 1) * unit) 0)) := by
  have e := unit_eq
  have hx := ex_eq
  have hrep : Rep (t * 2 ^ k * unit) := by
    rw [Nat.mul_assoc, e, ← Nat.pow_add]
    by_cases hc : t = 9007199254740992
    · have h3 : t * 2 ^ (k + ex) = 4503599627370496 * 2 ^ (k + ex + 1) := by
        have h5 : ∀ P : Nat, 9007199254740992 * P = 4503599627370496 * (P * 2) := fun P => by omega
        rw [hc, Nat.pow_succ 2 (k + ex)]
        exact h5 _
      rw [h3]
      exact rep_of (by omega) (by omega)
    · exact rep_of (by omega) (by omega)
  obtain ⟨r, hr, hm⟩ := hrep
  have hq : rungQ (t * 2 ^ k * unit) 0 = r := by rw [← hm]; exact rungQ_mag hr
  rw [hq]
  obtain ⟨s1, s2, s3⟩ := sgn_word false (r := r) (by omega)
  have hf : fin (Ieee.double.word false r) := by unfold fin; rw [s2]; exact hr
  refine ⟨hf, ?_⟩
  have h4 : 2 * (t * 2 ^ k * unit) = t * 2 ^ (k + 1) * unit := by
    generalize unit = P
    rw [Nat.pow_succ, Nat.mul_comm 2, Nat.mul_assoc (t * 2 ^ k), Nat.mul_comm P 2, ← Nat.mul_assoc, Nat.mul_assoc t]
  rw [mul_two hf, s1, s2, hm, h4]

end Go.Proofs.YtlpifchimnnfdaaDoor
