/- Numbers: the document's nearest float. -/
import Derived.Test.YtlpifchimnnfdaaDoorNmReal
namespace Go.Proofs.YtlpifchimnnfdaaDoor
open Go.RowKit
attribute [local irreducible] Ext
attribute [local go_sem] run_store_float

theorem rnear_small (n : Int) (h : -9007199254740992 < n ∧ n < 9007199254740992) (w : World) : Calls Tryd.prog 39 #[.int .i64 n] w fun e w' => e = .returned (.float .f64 (nearF n)) ∧ w = w' := by
  have HN := Lib.hid (nearF_eq n)
  have b1 : decide (-9007199254740992 < n) = true := decide_eq_true h.1
  have b2 : decide (n < 9007199254740992) = true := decide_eq_true h.2
  clear h
  go_enter Tryd.func39, Tryd.ntmps39
  go_wp2_with fail
  go_ret
  exact ⟨by rw [← HN.out]; rfl, rfl⟩

/-- How far the highest 53 bits lie up. -/
theorem great_shift {u : Nat} (h1 : 9007199254740992 ≤ u) (h2 : u ≤ 9223372036854775808) : ∃ s, 1 ≤ s ∧ s ≤ 11 ∧ 2 ^ (52 + s) ≤ u ∧ u < 2 ^ (53 + s) := by
  have h0 : u ≠ 0 := by omega
  have a1 := Nat.log2_self_le h0
  have a2 : u < 2 ^ (u.log2 + 1) := Nat.lt_log2_self
  have b1 : 53 ≤ u.log2 := by
    have := (Nat.le_log2 h0 (k := 53)).2 (by rw [p53]; exact h1)
    exact this
  have b2 : u.log2 < 64 := (Nat.log2_lt h0).2 (by omega)
  refine ⟨u.log2 - 52, by omega, by omega, ?_, ?_⟩
  · rw [show 52 + (u.log2 - 52) = u.log2 by omega]; exact a1
  · rw [show 53 + (u.log2 - 52) = u.log2 + 1 by omega]; exact a2

theorem shift_test {u s j : Nat} (h1 : 2 ^ (52 + s) ≤ u) (h2 : u < 2 ^ (53 + s)) (hj : j ≤ s) : (9007199254740992 ≤ u / 2 ^ j) ↔ j < s := by
  constructor
  · intro h
    by_cases hc : j = s
    · subst hc
      have : u / 2 ^ j < 9007199254740992 := by rw [Nat.div_lt_iff_lt_mul (Nat.two_pow_pos j), ← p53, ← Nat.pow_add]; exact h2
      omega
    · omega
  · intro h
    rw [Nat.le_div_iff_mul_le (Nat.two_pow_pos j), ← p53, ← Nat.pow_add]
    exact Nat.le_trans (Nat.pow_le_pow_right (by decide) (by omega)) h1

/-- A float of the walk: so many units, times 2^k. -/
def dblF (t k : Nat) : Nat := Ieee.double.word false (rungQ (t * 2 ^ k * unit) 0)

theorem dblF_zero {t : Nat} (h : 0 < t) : nearF (t : Int) = dblF t 0 := by
  have hu := unit_pos
  have hp : (0 : Int) < (t : Int) * (unit : Int) := Int.mul_pos (by omega) (by omega)
  unfold nearF fput dblF
  rw [if_neg (by omega), decide_eq_false (by omega), Nat.pow_zero, Nat.mul_one, Int.natAbs_mul, Int.natAbs_natCast, Int.natAbs_natCast]

theorem rep_dbl {t k : Nat} (ht : t ≤ 9007199254740992) (hk : k ≤ 900) : Rep (t * 2 ^ k * unit) := by
  have hx := ex_eq
  rw [Nat.mul_assoc, unit_eq, ← Nat.pow_add]
  by_cases hc : t = 9007199254740992
  · have h3 : t * 2 ^ (k + ex) = 4503599627370496 * 2 ^ (k + ex + 1) := by
      have h5 : ∀ P : Nat, 9007199254740992 * P = 4503599627370496 * (P * 2) := fun P => by omega
      rw [hc, Nat.pow_succ 2 (k + ex)]
      exact h5 _
    rw [h3]
    exact rep_of (by omega) (by omega)
  · exact rep_of (by omega) (by omega)

theorem dblF_fval {t k : Nat} (ht : t ≤ 9007199254740992) (hk : k ≤ 900) : fin (dblF t k) ∧ fval (dblF t k) = ((t * 2 ^ k * unit : Nat) : Int) ∧ sgn (dblF t k) = false := by
  obtain ⟨r, hr, hm⟩ := rep_dbl ht hk
  have hq : rungQ (t * 2 ^ k * unit) 0 = r := by rw [← hm]; exact rungQ_mag hr
  unfold dblF
  rw [hq]
  obtain ⟨s1, s2, s3⟩ := sgn_word false (r := r) (by omega)
  refine ⟨by unfold fin; rw [s2]; exact hr, ?_, s1⟩
  unfold fval
  rw [s1, s2, hm]
  rfl

/-- What the walk ends with is the nearest float. -/
theorem near_end {n : Int} {u s : Nat} (hu : n.natAbs = u) (hu0 : 0 < u) (h1 : 2 ^ (52 + s) ≤ u) (h2 : u < 2 ^ (53 + s)) (hs : 0 < s) (hs2 : s ≤ 11) :
    (0 ≤ n → dblF (top u s) s = nearF n) ∧ (n < 0 → Ieee.double.sub 0 (dblF (top u s) s) = some (nearF n)) := by
  obtain ⟨e1, ht, hp⟩ := near_top h1 h2 hs (by omega) false
  have hun := unit_pos
  have habs : (n * (unit : Int)).natAbs = u * unit := by rw [Int.natAbs_mul, hu, Int.natAbs_natCast]
  have hn0 : n * (unit : Int) ≠ 0 := by
    intro h
    rw [h] at habs
    have := Nat.mul_pos hu0 hun
    omega
  refine ⟨fun h => ?_, fun h => ?_⟩
  · have hpos : 0 ≤ n * (unit : Int) := Int.mul_nonneg h (by omega)
    unfold nearF fput dblF
    rw [if_neg hn0, decide_eq_false (by omega), habs, e1]
  · obtain ⟨hf, hv, hsg⟩ := dblF_fval ht (show s ≤ 900 by omega)
    have hneg : n * (unit : Int) < 0 := Int.mul_neg_of_neg_of_pos h (by omega)
    rw [sub_fin (b := 0) (by unfold fin; decide) hf, hv, hsg, show fval 0 = 0 by rfl, Int.zero_sub]
    obtain ⟨e2, _, _⟩ := near_top h1 h2 hs (by omega) true
    unfold nearF fput
    have hz : (0 : Int) < ((top u s * 2 ^ s * unit : Nat) : Int) := by
      have := Nat.mul_pos (Nat.mul_pos (show 0 < top u s by omega) (Nat.two_pow_pos s)) hun
      omega
    rw [if_neg hn0, decide_eq_true hneg, habs, if_neg (by omega), decide_eq_true (by omega), Int.natAbs_neg, Int.natAbs_natCast, e2]

end Go.Proofs.YtlpifchimnnfdaaDoor
