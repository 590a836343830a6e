/- Floats: the nearest one is the nearest; the neighbours of great ones are whole. -/
import Derived.Test.YtlpifchimnnfdaaDoorFltCmp
namespace Go.Proofs.YtlpifchimnnfdaaDoor
open Ieee

theorem rnd_near (n d : Nat) : 2 * (rnd n d * 2 ^ d) ≤ 2 * n + 2 ^ d ∧ 2 * n ≤ 2 * (rnd n d * 2 ^ d) + 2 ^ d := by
  have h := Nat.div_add_mod n (2 ^ d)
  have hm := Nat.mod_lt n (Nat.two_pow_pos d)
  unfold rnd
  generalize n / 2 ^ d = q at h ⊢
  generalize n % 2 ^ d = r at h hm ⊢
  generalize 2 ^ d = P at h hm ⊢
  have e : P * q = q * P := Nat.mul_comm _ _
  rw [e] at h
  by_cases h1 : P < 2 * r
  · rw [decide_eq_true h1, Bool.true_or]
    simp only [Bool.toNat_true, Nat.add_mul, Nat.one_mul]
    omega
  · rw [decide_eq_false h1, Bool.false_or]
    by_cases h2 : P = 2 * r
    · have h3 : (P == 2 * r) = true := by simpa using h2
      rw [h3, Bool.true_and]
      cases q % 2 == 1 <;> simp only [Bool.toNat_true, Bool.toNat_false, Nat.add_mul, Nat.one_mul, Nat.zero_mul] <;> omega
    · have h3 : (P == 2 * r) = false := by simpa using h2
      rw [h3, Bool.false_and]
      simp only [Bool.toNat_false, Nat.add_zero]
      omega

/-- No float is nearer than the nearest one, of a number of units that has 53 digits or more. -/
theorem near_best {x L y : Nat} (h1 : 2 ^ (52 + L) ≤ x) (h2 : x < 2 ^ (53 + L)) (hL : L ≤ 2044) (hy : Rep y) : (mag (rungQ x 0) : Int) - x ≤ ((y : Int) - x).natAbs ∧ (x : Int) - mag (rungQ x 0) ≤ ((y : Int) - x).natAbs := by
  obtain ⟨_, r2, r3, r4⟩ := rungQ_round h1 h2 hL
  obtain ⟨n1, n2⟩ := rnd_near x L
  rw [r2]
  have e52 : (2 : Nat) ^ (52 + L) = 4503599627370496 * 2 ^ L := by rw [Nat.pow_add, p52]
  have hP := Nat.two_pow_pos L
  obtain ⟨M, k, hM, hk, rfl⟩ := rep_form hy
  by_cases hc : L ≤ k
  · -- a multiple of 2 ^ L
    obtain ⟨c, hcc⟩ : ∃ c, M * 2 ^ k = c * 2 ^ L := ⟨M * 2 ^ (k - L), by rw [Nat.mul_assoc, ← Nat.pow_add, show k - L + L = k by omega]⟩
    rw [hcc]
    generalize rnd x L = a at n1 n2 r3 r4 ⊢
    generalize 2 ^ L = P at n1 n2 hP ⊢
    rcases Nat.lt_trichotomy c a with h | h | h
    · have : c * P + P ≤ a * P := by have := Nat.mul_le_mul_right P (show c + 1 ≤ a by omega); rw [Nat.add_mul, Nat.one_mul] at this; exact this
      generalize c * P = C at this ⊢
      generalize a * P = A at this n1 n2 ⊢
      omega
    · subst h
      generalize c * P = C at n1 n2 ⊢
      omega
    · have : a * P + P ≤ c * P := by have := Nat.mul_le_mul_right P (show a + 1 ≤ c by omega); rw [Nat.add_mul, Nat.one_mul] at this; exact this
      generalize c * P = C at this ⊢
      generalize a * P = A at this n1 n2 ⊢
      omega
  · -- below the binade
    have hlt : M * 2 ^ k < 4503599627370496 * 2 ^ L := by
      have a1 : M * 2 ^ k < 9007199254740992 * 2 ^ k := Nat.mul_lt_mul_of_pos_right hM (Nat.two_pow_pos k)
      have a2 : 9007199254740992 * 2 ^ k = 4503599627370496 * 2 ^ (k + 1) := by
        rw [Nat.pow_succ]
        generalize 2 ^ k = Q
        omega
      have a3 : (2 : Nat) ^ (k + 1) ≤ 2 ^ L := Nat.pow_le_pow_right (by decide) (by omega)
      have a4 := Nat.mul_le_mul_left 4503599627370496 a3
      omega
    rw [e52] at h1
    generalize M * 2 ^ k = Y at hlt ⊢
    generalize rnd x L = a at n1 n2 r3 r4 ⊢
    generalize 2 ^ L = P at n1 n2 hP h1 hlt ⊢
    by_cases h : a = 4503599627370496
    · subst h
      omega
    · have : 4503599627370496 * P + P ≤ a * P := by have := Nat.mul_le_mul_right P (show 4503599627370496 + 1 ≤ a by omega); rw [Nat.add_mul, Nat.one_mul] at this; exact this
      generalize a * P = A at this n1 n2 ⊢
      omega

/-- Great rungs are whole. -/
theorem mag_whole {r : Nat} (h : 4841369599423283200 ≤ r) : ∃ c, mag r = c * unit := by
  have hx := ex_eq
  obtain ⟨M, k, m1, m2, m3, m4, m5⟩ := mag_hi (r := r) (by omega)
  exact ⟨_, by rw [m5]; exact mul_pow_ge M k (by omega)⟩

theorem mag_53 {r : Nat} (h : 9007199254740992 * unit ≤ mag r) : 4845873199050653696 ≤ r := by
  have hx := ex_eq
  by_cases hc : 4845873199050653696 ≤ r
  · exact hc
  · exfalso
    by_cases hlo : r < 4503599627370496
    · unfold mag at h
      rw [if_pos hlo] at h
      have := unit_pos
      have h2 := Nat.mul_le_mul_left 9007199254740992 (show 1 ≤ unit by omega)
      omega
    · obtain ⟨M, k, m1, m2, m3, m4, m5⟩ := mag_hi (r := r) (by omega)
      rw [m5, unit_eq] at h
      have h1 : M * 2 ^ k < 9007199254740992 * 2 ^ k := Nat.mul_lt_mul_of_pos_right m2 (Nat.two_pow_pos k)
      have h2 : (2 : Nat) ^ k ≤ 2 ^ ex := Nat.pow_le_pow_right (by decide) (by omega)
      have h3 := Nat.mul_le_mul_left 9007199254740992 h2
      omega

theorem pow62 : (4611686018427387904 : Nat) * unit = 2 ^ (62 + ex) := by
  rw [unit_eq, Nat.pow_add]

theorem mag_62 {r : Nat} (h : mag r < 4611686018427387904 * unit) : r < 4886405595696988160 := by
  have hx := ex_eq
  by_cases hc : r < 4886405595696988160
  · exact hc
  · exfalso
    obtain ⟨M, k, m1, m2, m3, m4, m5⟩ := mag_hi (r := r) (by omega)
    rw [m5, pow62] at h
    have h1 : 2 ^ 52 * 2 ^ k ≤ M * 2 ^ k := Nat.mul_le_mul_right _ (by rw [p52]; exact m1)
    rw [← Nat.pow_add] at h1
    have h2 : (2 : Nat) ^ (62 + ex) ≤ 2 ^ (52 + k) := Nat.pow_le_pow_right (by decide) (by omega)
    omega

theorem mag_le62 {r : Nat} (h : r ≤ 4886405595696988160) : mag r ≤ 4611686018427387904 * unit := by
  have hx := ex_eq
  have hp := unit_pos
  by_cases hlo : r < 4503599627370496
  · unfold mag
    rw [if_pos hlo]
    have h2 := Nat.mul_le_mul_left 4611686018427387904 (show 1 ≤ unit by omega)
    omega
  · obtain ⟨M, k, m1, m2, m3, m4, m5⟩ := mag_hi (r := r) (by omega)
    rw [m5, pow62]
    by_cases he : k = 1084
    · have hM : M = 4503599627370496 := by omega
      rw [hM, ← p52, ← Nat.pow_add]
      exact Nat.pow_le_pow_right (by decide) (by omega)
    · have h1 : M * 2 ^ k ≤ 2 ^ 53 * 2 ^ k := Nat.mul_le_mul_right _ (by rw [p53]; omega)
      rw [← Nat.pow_add] at h1
      exact Nat.le_trans h1 (Nat.pow_le_pow_right (by decide) (by omega))

end Go.Proofs.YtlpifchimnnfdaaDoor
