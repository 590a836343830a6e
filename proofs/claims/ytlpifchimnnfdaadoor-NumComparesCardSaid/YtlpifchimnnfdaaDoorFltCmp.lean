/- Floats: the order with constants and with whole numbers. -/
import Derived.Test.YtlpifchimnnfdaaDoorFltRound
namespace Go.Proofs.YtlpifchimnnfdaaDoor
open Ieee

/-- The order of two numbers, as a number. -/
def cmpI (a b : Int) : Int := if a < b then -1 else if b < a then 1 else 0

theorem compare_int (a b : Int) : compare a b = if a < b then .lt else if b < a then .gt else .eq := by
  show compareOfLessAndEq a b = _
  unfold compareOfLessAndEq
  by_cases h : a < b
  · rw [if_pos h, if_pos h]
  · rw [if_neg h, if_neg h]
    by_cases h2 : a = b
    · rw [if_pos h2, if_neg (by omega)]
    · rw [if_neg h2, if_pos (by omega)]

theorem order_lt {b c : Nat} (hb : fin b) (hc : fin c) (h : fval b < fval c) : Ieee.double.order b c = some .lt := by
  rw [order_fin hb hc, compare_int, if_pos h]
theorem order_gt {b c : Nat} (hb : fin b) (hc : fin c) (h : fval c < fval b) : Ieee.double.order b c = some .gt := by
  rw [order_fin hb hc, compare_int, if_neg (by omega), if_pos h]
theorem order_eq {b c : Nat} (hb : fin b) (hc : fin c) (h : fval b = fval c) : Ieee.double.order b c = some .eq := by
  rw [order_fin hb hc, compare_int, if_neg (by omega), if_neg (by omega)]

/-- A power of two, as a float. -/
theorem fval_pow (j : Nat) (hj : j ≤ 900) : fin ((1023 + j) * 4503599627370496) ∧ fval ((1023 + j) * 4503599627370496) = 2 ^ j * (unit : Int) ∧ fin (9223372036854775808 + (1023 + j) * 4503599627370496) ∧ fval (9223372036854775808 + (1023 + j) * 4503599627370496) = -(2 ^ j * (unit : Int)) := by
  have hx := ex_eq
  have hm : mag ((1023 + j) * 4503599627370496) = 2 ^ j * unit := by
    rw [show (1023 + j) * 4503599627370496 = (1022 + j) * 4503599627370496 + 4503599627370496 by omega, mag_of (by decide) (by decide), ← p52, unit_eq, ← Nat.pow_add, ← Nat.pow_add]
    congr 1
    omega
  have e1 : (1023 + j) * 4503599627370496 % 9223372036854775808 = (1023 + j) * 4503599627370496 := Nat.mod_eq_of_lt (by omega)
  have e2 : (9223372036854775808 + (1023 + j) * 4503599627370496) % 9223372036854775808 = (1023 + j) * 4503599627370496 := by rw [Nat.add_mod_left]; exact e1
  have s1 : sgn ((1023 + j) * 4503599627370496) = false := by
    unfold sgn
    rw [Nat.div_eq_of_lt (by omega)]
    rfl
  have s2 : sgn (9223372036854775808 + (1023 + j) * 4503599627370496) = true := by
    unfold sgn
    rw [show (9223372036854775808 + (1023 + j) * 4503599627370496) / 9223372036854775808 = 1 by omega]
    rfl
  have hc : ((2 ^ j * unit : Nat) : Int) = 2 ^ j * (unit : Int) := by rw [Int.natCast_mul, Int.natCast_pow]; rfl
  unfold fin fval
  rw [e1, e2, s1, s2, hm, hc]
  exact ⟨by omega, by rw [if_neg (by decide)], by omega, by rw [if_pos rfl]⟩

theorem val59 : fin 4872894796814876672 ∧ fval 4872894796814876672 = 576460752303423488 * (unit : Int) := ⟨(fval_pow 59 (by decide)).1, (fval_pow 59 (by decide)).2.1⟩
theorem valm59 : fin 14096266833669652480 ∧ fval 14096266833669652480 = -576460752303423488 * (unit : Int) := ⟨(fval_pow 59 (by decide)).2.2.1, by rw [Int.neg_mul]; exact (fval_pow 59 (by decide)).2.2.2⟩
theorem val60 : fin 4877398396442247168 ∧ fval 4877398396442247168 = 1152921504606846976 * (unit : Int) := ⟨(fval_pow 60 (by decide)).1, (fval_pow 60 (by decide)).2.1⟩
theorem valm60 : fin 14100770433297022976 ∧ fval 14100770433297022976 = -1152921504606846976 * (unit : Int) := ⟨(fval_pow 60 (by decide)).2.2.1, by rw [Int.neg_mul]; exact (fval_pow 60 (by decide)).2.2.2⟩
theorem val63 : fin 4890909195324358656 ∧ fval 4890909195324358656 = 9223372036854775808 * (unit : Int) := ⟨(fval_pow 63 (by decide)).1, (fval_pow 63 (by decide)).2.1⟩
theorem valm63 : fin 14114281232179134464 ∧ fval 14114281232179134464 = -9223372036854775808 * (unit : Int) := ⟨(fval_pow 63 (by decide)).2.2.1, by rw [Int.neg_mul]; exact (fval_pow 63 (by decide)).2.2.2⟩
theorem val53 : fin 4845873199050653696 ∧ fval 4845873199050653696 = 9007199254740992 * (unit : Int) := ⟨(fval_pow 53 (by decide)).1, (fval_pow 53 (by decide)).2.1⟩
theorem val62 : fin 4886405595696988160 ∧ fval 4886405595696988160 = 4611686018427387904 * (unit : Int) := ⟨(fval_pow 62 (by decide)).1, (fval_pow 62 (by decide)).2.1⟩
theorem valm62 : fin 14109777632551763968 ∧ fval 14109777632551763968 = -4611686018427387904 * (unit : Int) := ⟨(fval_pow 62 (by decide)).2.2.1, by rw [Int.neg_mul]; exact (fval_pow 62 (by decide)).2.2.2⟩
theorem val0 : fin 0 ∧ fval 0 = 0 := ⟨by unfold fin; decide, rfl⟩
theorem valm0 : fin 9223372036854775808 ∧ fval 9223372036854775808 = 0 := ⟨by unfold fin; decide, rfl⟩

/-- A half. -/
theorem mag_half : 2 * mag 4602678819172646912 = unit := by
  have hx := ex_eq
  obtain ⟨k, hk⟩ : ∃ k, 1021 = k := ⟨_, rfl⟩
  rw [show 4602678819172646912 = 1021 * 4503599627370496 + 4503599627370496 by decide, hk, mag_of (by decide) (by decide), ← p52, ← Nat.pow_add, Nat.mul_comm, ← Nat.pow_succ, unit_eq, show ex = (52 + k).succ by omega]

theorem valh : fin 4602678819172646912 ∧ 2 * fval 4602678819172646912 = (unit : Int) ∧ fin 13826050856027422720 ∧ 2 * fval 13826050856027422720 = -(unit : Int) := by
  have h := mag_half
  have e1 : 4602678819172646912 % 9223372036854775808 = 4602678819172646912 := by decide
  have e2 : 13826050856027422720 % 9223372036854775808 = 4602678819172646912 := by decide
  have s1 : sgn 4602678819172646912 = false := by decide
  have s2 : sgn 13826050856027422720 = true := by decide
  have hI : 2 * (mag 4602678819172646912 : Int) = (unit : Int) := by rw [← h, Int.natCast_mul]; rfl
  have f1 : fval 4602678819172646912 = (mag 4602678819172646912 : Int) := by
    unfold fval
    rw [e1, s1, if_neg (by decide)]
  have f2 : fval 13826050856027422720 = -(mag 4602678819172646912 : Int) := by
    unfold fval
    rw [e2, s2, if_pos rfl]
  rw [f1, f2]
  refine ⟨by unfold fin; decide, hI, by unfold fin; decide, by rw [Int.mul_neg, hI]⟩

theorem mul_unit_lt {a b : Int} : a * (unit : Int) < b * (unit : Int) ↔ a < b := Int.mul_lt_mul_right unitI_pos
theorem mul_unit_eq {a b : Int} : a * (unit : Int) = b * (unit : Int) ↔ a = b := ⟨fun h => Int.eq_of_mul_eq_mul_right (by have := unitI_pos; omega) h, fun h => by rw [h]⟩

/-- How a float stands to a whole number. -/
def exV (f : Nat) (n : Int) : Int :=
  if 9218868437227405312 < f % 9223372036854775808 then 2
  else if f % 9223372036854775808 = 9218868437227405312 then (if sgn f then -1 else 1)
  else cmpI (fval f) (n * (unit : Int))

theorem exV_fin {f : Nat} (h : fin f) (n : Int) : exV f n = cmpI (fval f) (n * (unit : Int)) := by
  unfold fin at h
  unfold exV
  rw [if_neg (by omega), if_neg (by omega)]

/-- By the whole part. -/
theorem exV_trunc {f : Nat} (h : fin f) (n : Int) : exV f n = if ftrunc f < n then -1 else if n < ftrunc f then 1 else cmpI (fval f) (ftrunc f * (unit : Int)) := by
  rw [exV_fin h]
  obtain ⟨h1, h2⟩ := trunc_lt (b := f) (n := n)
  by_cases a : ftrunc f < n
  · rw [if_pos a]
    unfold cmpI
    rw [if_pos (h1 a)]
  · rw [if_neg a]
    by_cases b : n < ftrunc f
    · rw [if_pos b]
      have := h2 b
      unfold cmpI
      rw [if_neg (by omega), if_pos this]
    · rw [if_neg b, show ftrunc f = n by omega]

/-- The range of int64: within it a float's whole part is one. -/
theorem trunc_range {f : Nat} (_ : fin f) (h1 : fval f < 9223372036854775808 * (unit : Int)) (h2 : -9223372036854775808 * (unit : Int) ≤ fval f) : -9223372036854775808 ≤ ftrunc f ∧ ftrunc f ≤ 9223372036854775807 := by
  have a := (trunc_lt (b := f) (n := -9223372036854775808)).1
  have b := (trunc_lt (b := f) (n := 9223372036854775807)).2
  have c := (trunc_lt (b := f) (n := 9223372036854775808)).2
  have hp := unitI_pos
  constructor
  · by_cases h : -9223372036854775808 ≤ ftrunc f
    · exact h
    · have := a (by omega)
      omega
  · by_cases h : ftrunc f ≤ 9223372036854775807
    · exact h
    · by_cases h' : ftrunc f = 9223372036854775808
      · have ht := trunc_parts (b := f)
        rw [h'] at ht
        have hm : ((siz f % unit : Nat) : Int) < (unit : Int) := Int.ofNat_lt.2 (Nat.mod_lt _ unit_pos)
        cases hs : sgn f
        · rw [hs, if_neg (by decide)] at ht
          have h0 : (0 : Int) ≤ ((siz f % unit : Nat) : Int) := by omega
          generalize ((siz f % unit : Nat) : Int) = R at ht h0
          omega
        · exfalso
          have : ftrunc f ≤ 0 := by
            unfold ftrunc
            rw [hs, if_pos rfl]
            exact Int.neg_nonpos_of_nonneg (Int.natCast_nonneg _)
          omega
      · have := c (by omega)
        omega

end Go.Proofs.YtlpifchimnnfdaaDoor
