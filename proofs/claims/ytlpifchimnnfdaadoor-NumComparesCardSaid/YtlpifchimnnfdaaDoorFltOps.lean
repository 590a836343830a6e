/- Floats by their values: sums, products, order, whole parts. -/
import Derived.Test.YtlpifchimnnfdaaDoorFltV
namespace Go.Proofs.YtlpifchimnnfdaaDoor
open Ieee

/-- How many places a unit lies below one. -/
def ex : Nat := 1074

theorem ex_eq : ex = 1074 := rfl

/-- Finite. -/
def fin (b : Nat) : Prop := b % 9223372036854775808 < 9218868437227405312

theorem signed_eq (s : Bool) (m u : Nat) : signed s m u = if s then -((m * 2 ^ u : Nat) : Int) else ((m * 2 ^ u : Nat) : Int) := by
  unfold signed
  rw [Nat.shiftLeft_eq]

theorem signed_scale (s : Bool) (m u k : Nat) : signed s m u * ((2 ^ k : Nat) : Int) = signed s m (u + k) := by
  rw [signed_eq, signed_eq, Nat.pow_add, ← Nat.mul_assoc, Int.natCast_mul (m * 2 ^ u)]
  cases s
  · rfl
  · rw [if_pos rfl, if_pos rfl, Int.neg_mul]

theorem signed_fval {b m a : Nat} (h : m * 2 ^ a = mag (b % 9223372036854775808)) : signed (sgn b) m a = fval b := by
  rw [signed_eq, h]
  rfl

/-- A sum, before it is rounded: on a base, so many times 2^k units. -/
theorem sum_base {b c m n i j : Nat} {p q : Int} (hb : p + 1074 = (i : Int)) (hm : m * 2 ^ i = mag (b % 9223372036854775808)) (hc : q + 1074 = (j : Int)) (hn : n * 2 ^ j = mag (c % 9223372036854775808)) :
    (signed (sgn b) m (p - min p q).toNat + signed (sgn c) n (q - min p q).toNat) * ((2 ^ min i j : Nat) : Int) = fval b + fval c := by
  rw [Int.add_mul, signed_scale, signed_scale, show (p - min p q).toNat + min i j = i by omega, show (q - min p q).toNat + min i j = j by omega, signed_fval hm, signed_fval hn]

theorem natAbs_mul_pow (t : Int) (k : Nat) : t.natAbs * 2 ^ k = (t * ((2 ^ k : Nat) : Int)).natAbs := by rw [Int.natAbs_mul, Int.natAbs_natCast]

theorem pow_int_pos (k : Nat) : (0 : Int) < ((2 ^ k : Nat) : Int) := Int.ofNat_lt.2 (Nat.two_pow_pos k)

theorem add_fin {b c : Nat} (hb : fin b) (hc : fin c) : Ieee.double.add b c = some (fput (fval b + fval c) (sgn b && sgn c)) := by
  obtain ⟨m, p, i, r1, h1, h2, _⟩ := read_fin hb
  obtain ⟨n, q, j, r2, h3, h4, _⟩ := read_fin hc
  have hs := sum_base h1 h2 h3 h4
  unfold Ieee.Format.add
  rw [r1, r2]
  simp only [Ieee.Datum.sum, Option.map_some, Ieee.Format.write]
  obtain ⟨t, ht⟩ : ∃ t, signed (sgn b) m (p - min p q).toNat + signed (sgn c) n (q - min p q).toNat = t := ⟨_, rfl⟩
  rw [ht] at hs ⊢
  rw [nearest_eq _ t.natAbs (min p q) (min i j) 0 (by omega), natAbs_mul_pow, hs]
  unfold fput
  have h0 := pow_int_pos (min i j)
  generalize ((2 ^ min i j : Nat) : Int) = P at hs h0
  have z : (t = 0) = (fval b + fval c = 0) := by
    rw [← hs]
    apply propext
    constructor
    · rintro rfl; exact Int.zero_mul _
    · intro h
      rcases Int.mul_eq_zero.1 h with h | h
      · exact h
      · omega
  have n : (t < 0) = (fval b + fval c < 0) := by
    rw [← hs]
    apply propext
    constructor
    · intro h; exact Int.mul_neg_of_neg_of_pos h h0
    · intro h
      by_cases h' : t < 0
      · exact h'
      · have := Int.mul_nonneg (show 0 ≤ t by omega) (Int.le_of_lt h0)
        omega
  simp only [z, n]

/-- The negative. -/
def fneg (b : Nat) : Nat := if sgn b then b % 9223372036854775808 else 9223372036854775808 + b % 9223372036854775808

theorem fneg_sgn (b : Nat) : sgn (fneg b) = !sgn b ∧ fneg b % 9223372036854775808 = b % 9223372036854775808 ∧ fneg b < 18446744073709551616 := by
  have hlt := Nat.mod_lt b (show 9223372036854775808 > 0 by decide)
  unfold fneg
  cases sgn b
  · simp only [Bool.false_eq_true, if_false]
    refine ⟨?_, by omega, by omega⟩
    unfold sgn
    rw [show (9223372036854775808 + b % 9223372036854775808) / 9223372036854775808 = 1 by omega]
    rfl
  · simp only [if_true]
    refine ⟨?_, by omega, by omega⟩
    unfold sgn
    rw [Nat.div_eq_of_lt hlt]
    rfl

theorem fneg_fin {b : Nat} (h : fin b) : fin (fneg b) := by
  unfold fin at h ⊢
  rw [(fneg_sgn b).2.1]
  exact h

theorem fneg_fval (b : Nat) : fval (fneg b) = - fval b := by
  obtain ⟨h1, h2, _⟩ := fneg_sgn b
  unfold fval
  rw [h1, h2]
  cases sgn b <;> simp

theorem sub_fin {b c : Nat} (hb : fin b) (hc : fin c) : Ieee.double.sub b c = some (fput (fval b - fval c) (sgn b && !sgn c)) := by
  obtain ⟨n, q, j, r2, h3, h4, _⟩ := read_fin hc
  obtain ⟨n', q', j', r2', h3', h4', _⟩ := read_fin (fneg_fin hc)
  have e : (Ieee.double.read c).opposite = Ieee.double.read (fneg c) := by
    have hm := (fneg_sgn c).2.1
    have hsg := (fneg_sgn c).1
    have e1 : Ieee.double.signWeight = 9223372036854775808 := by decide
    have : ∀ x y : Nat, x % 9223372036854775808 = y % 9223372036854775808 → sgn x = !sgn y → (Ieee.double.read y).opposite = Ieee.double.read x := by
      intro x y h1 h2
      unfold Ieee.Format.read
      rw [e1]
      have hx : (x / 9223372036854775808 % 2 == 1) = !(y / 9223372036854775808 % 2 == 1) := h2
      dsimp only
      rw [h1, hx]
      split
      · rfl
      · split
        · rfl
        · split <;> rfl
    exact this _ _ hm hsg
  have h := add_fin hb (fneg_fin hc)
  rw [fneg_fval, (fneg_sgn c).1] at h
  unfold Ieee.Format.add at h
  unfold Ieee.Format.sub
  rw [e, h, Int.sub_eq_add_neg]

theorem mul_fin {b c : Nat} (hb : fin b) (hc : fin c) : Ieee.double.mul b c = some (Ieee.double.word (sgn b ^^ sgn c) (rungQ (mag (b % 9223372036854775808) * mag (c % 9223372036854775808)) ex)) := by
  obtain ⟨m, p, i, r1, h1, h2, _⟩ := read_fin hb
  obtain ⟨n, q, j, r2, h3, h4, _⟩ := read_fin hc
  unfold Ieee.Format.mul
  rw [r1, r2]
  simp only [Ieee.Datum.product, Option.map_some, Ieee.Format.write]
  have hx := ex_eq
  rw [nearest_eq _ (m * n) (p + q) (i + j) ex (by omega), Nat.pow_add, ← h2, ← h4, Nat.mul_assoc, Nat.mul_assoc, Nat.mul_left_comm n]

theorem order_fin {b c : Nat} (hb : fin b) (hc : fin c) : Ieee.double.order b c = some (compare (fval b) (fval c)) := by
  obtain ⟨m, p, i, r1, h1, h2, _⟩ := read_fin hb
  obtain ⟨n, q, j, r2, h3, h4, _⟩ := read_fin hc
  unfold Ieee.Format.order
  rw [r1, r2]
  simp only [Ieee.Datum.order]
  have e1 := signed_scale (sgn b) m (p - min p q).toNat (min i j)
  have e2 := signed_scale (sgn c) n (q - min p q).toNat (min i j)
  rw [show (p - min p q).toNat + min i j = i by omega, signed_fval h2] at e1
  rw [show (q - min p q).toNat + min i j = j by omega, signed_fval h4] at e2
  have h0 := pow_int_pos (min i j)
  generalize ((2 ^ min i j : Nat) : Int) = P at e1 e2 h0
  generalize signed (sgn b) m (p - min p q).toNat = x at e1
  generalize signed (sgn c) n (q - min p q).toNat = y at e2
  rw [← e1, ← e2]
  have hl : (x * P < y * P) ↔ x < y := Int.mul_lt_mul_right h0
  have he : (x * P = y * P) ↔ x = y := ⟨fun h => Int.eq_of_mul_eq_mul_right (by omega) h, fun h => by rw [h]⟩
  congr 1
  unfold compare instOrdInt
  simp only [compareOfLessAndEq, hl, he]

theorem pow_lt_pow {a b : Nat} (h : a < b) : 2 ^ a < 2 ^ b := Nat.pow_lt_pow_right (by decide) h

/-- Cut towards zero. -/
theorem cut_zero (neg : Bool) (n d : Nat) : Toward.zero.cut neg n d = n / 2 ^ d := by
  unfold Toward.cut
  simp only [Nat.shiftLeft_eq, Nat.one_mul]
  by_cases h : d ≤ n.log2 + 2
  · rw [Nat.min_eq_left h]; rfl
  · rw [Nat.min_eq_right (by omega)]
    have h1 : n < 2 ^ (n.log2 + 1) := Nat.lt_log2_self
    have h2 := pow_lt_pow (show n.log2 + 1 < n.log2 + 2 by omega)
    have h3 := pow_lt_pow (show n.log2 + 1 < d by omega)
    rw [Nat.div_eq_of_lt (by omega), Nat.div_eq_of_lt (by omega)]
    rfl

/-- One. -/
def unit : Nat := 2 ^ ex

theorem unit_pos : 0 < unit := by
  unfold unit
  exact Nat.two_pow_pos _

theorem unit_eq : unit = 2 ^ ex := rfl

theorem pow_join (a b c : Nat) (h : a + b = c) : 2 ^ a * 2 ^ b = 2 ^ c := by rw [← h, Nat.pow_add]

theorem pow_join1 (a b c : Nat) (h : a + b = c + 1) : 2 ^ a * 2 ^ b = 2 * 2 ^ c := by rw [← Nat.pow_add, h, Nat.pow_succ, Nat.mul_comm]

theorem split_div {m a : Nat} {p : Int} (h : p + 1074 = (a : Int)) : (m * 2 ^ p.toNat) / 2 ^ (-p).toNat = m * 2 ^ a / unit := by
  unfold unit
  have hx := ex_eq
  by_cases hp : 0 ≤ p
  · rw [show (-p).toNat = 0 by omega, Nat.pow_zero, Nat.div_one, show a = p.toNat + ex by omega, Nat.pow_add, ← Nat.mul_assoc, Nat.mul_div_cancel _ (Nat.two_pow_pos ex)]
  · rw [show p.toNat = 0 by omega, Nat.pow_zero, Nat.mul_one]
    have e : 2 ^ ex = 2 ^ (-p).toNat * 2 ^ a := by rw [← Nat.pow_add, show (-p).toNat + a = ex by omega]
    rw [e, Nat.mul_div_mul_right _ _ (Nat.two_pow_pos a)]

/-- The whole part, towards zero. -/
def ftrunc (b : Nat) : Int := if sgn b then -((mag (b % 9223372036854775808) / unit : Nat) : Int) else ((mag (b % 9223372036854775808) / unit : Nat) : Int)

theorem toInt_fin {b : Nat} (hb : fin b) : (Ieee.double.read b).toInt .zero = some (ftrunc b) := by
  obtain ⟨m, p, i, r1, h1, h2, _⟩ := read_fin hb
  unfold Ieee.Datum.toInt
  rw [r1]
  simp only [Ieee.Datum.integral]
  rw [cut_zero, Nat.shiftLeft_eq, split_div h1, h2, signed_eq, Nat.pow_zero, Nat.mul_one]
  rfl

theorem write_int (n : Int) : Ieee.double.write (.number (decide (n < 0)) n.natAbs 0) = fput (n * (unit : Int)) false := by
  unfold Ieee.Format.write
  dsimp only
  have hx := ex_eq
  rw [nearest_eq _ n.natAbs 0 ex 0 (by omega), natAbs_mul_pow]
  unfold fput
  have h0 : (0 : Int) < (unit : Int) := Int.ofNat_lt.2 unit_pos
  have e : ((2 ^ ex : Nat) : Int) = (unit : Int) := by rw [unit_eq]
  rw [e]
  generalize (unit : Int) = P at h0
  have z : (n * P = 0) ↔ n = 0 := ⟨fun h => by rcases Int.mul_eq_zero.1 h with h | h; exact h; omega, fun h => by rw [h, Int.zero_mul]⟩
  have g : (n * P < 0) ↔ n < 0 := ⟨fun h => by
    by_cases h' : n < 0
    · exact h'
    · have := Int.mul_nonneg (show 0 ≤ n by omega) (Int.le_of_lt h0)
      omega, fun h => Int.mul_neg_of_neg_of_pos h h0⟩
  simp only [z, g]
  by_cases hz : n = 0
  · subst hz; rfl
  · rw [if_neg hz]

end Go.Proofs.YtlpifchimnnfdaaDoor
