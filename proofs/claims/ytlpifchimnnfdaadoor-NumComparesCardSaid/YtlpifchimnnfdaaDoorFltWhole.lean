/- Floats: whole parts, by all four ways; what is left; the order of a float and a whole number. -/
import Derived.Test.YtlpifchimnnfdaaDoorFltOne
namespace Go.Proofs.YtlpifchimnnfdaaDoor
open Ieee

theorem rep_form {x : Nat} (h : Rep x) : ∃ M k, M < 9007199254740992 ∧ k ≤ 2045 ∧ x = M * 2 ^ k := by
  obtain ⟨r, hr, hm⟩ := h
  unfold mag at hm
  by_cases h : r < 4503599627370496
  · rw [if_pos h] at hm
    exact ⟨x, 0, by omega, by omega, by rw [Nat.pow_zero, Nat.mul_one]⟩
  · rw [if_neg h] at hm
    exact ⟨_, _, by omega, by omega, hm.symm⟩

theorem rep_of' {M k : Nat} (hM : M ≤ 9007199254740992) (hk : k ≤ 2044) : Rep (M * 2 ^ k) := by
  by_cases h : M = 9007199254740992
  · have h3 : M * 2 ^ k = 4503599627370496 * 2 ^ (k + 1) := by
      rw [h, Nat.pow_succ]
      generalize 2 ^ k = P
      omega
    rw [h3]
    exact rep_of (by omega) (by omega)
  · exact rep_of (by omega) (by omega)

theorem rep_zero : Rep 0 := ⟨0, by decide, rfl⟩

theorem div_mod_pow (M k : Nat) (h : k < ex) : M * 2 ^ k / unit = M / 2 ^ (ex - k) ∧ M * 2 ^ k % unit = M % 2 ^ (ex - k) * 2 ^ k := by
  have e : unit = 2 ^ (ex - k) * 2 ^ k := by rw [unit_eq, ← Nat.pow_add, show ex - k + k = ex by omega]
  rw [e, Nat.mul_div_mul_right _ _ (Nat.two_pow_pos k), Nat.mul_mod_mul_right]
  exact ⟨rfl, rfl⟩

theorem mul_pow_ge (M k : Nat) (h : ex ≤ k) : M * 2 ^ k = M * 2 ^ (k - ex) * unit := by
  rw [unit_eq, Nat.mul_assoc, ← Nat.pow_add, show k - ex + ex = k by omega]

/-- The whole part is a float's, and what is left; and the next whole number, if something is left. -/
theorem rep_parts {x : Nat} (h : Rep x) : Rep (x / unit * unit) ∧ Rep (x % unit) ∧ (x % unit ≠ 0 → Rep ((x / unit + 1) * unit) ∧ x / unit < 9007199254740992) := by
  obtain ⟨M, k, hM, hk, rfl⟩ := rep_form h
  have hx := ex_eq
  by_cases hc : ex ≤ k
  · have e := mul_pow_ge M k hc
    have e1 : M * 2 ^ k / unit * unit = M * 2 ^ k := by rw [e, Nat.mul_div_cancel _ unit_pos]
    have e2 : M * 2 ^ k % unit = 0 := by rw [e, Nat.mul_mod_left]
    rw [e1, e2]
    exact ⟨h, rep_zero, fun h => absurd rfl h⟩
  · obtain ⟨e1, e2⟩ := div_mod_pow M k (by omega)
    have hd := Nat.div_le_self M (2 ^ (ex - k))
    have hm := Nat.mod_le M (2 ^ (ex - k))
    rw [e1, e2, unit_eq]
    refine ⟨rep_of (by omega) (by omega), rep_of (by omega) (by omega), fun _ => ⟨rep_of' (by omega) (by omega), by omega⟩⟩

/-- How many units a float's size is. -/
def siz (b : Nat) : Nat := mag (b % 9223372036854775808)

theorem fval_siz (b : Nat) : fval b = if sgn b then -(siz b : Int) else (siz b : Int) := rfl

theorem rep_siz {b : Nat} (h : fin b) : Rep (siz b) := ⟨_, h, rfl⟩

/-- A whole part, by a way. -/
def cutW (way : Toward) (s : Bool) (x : Nat) : Nat := match way with
  | .down => x / unit + (s && decide (x % unit ≠ 0)).toNat
  | .up => x / unit + (!s && decide (x % unit ≠ 0)).toNat
  | _ => x / unit

theorem cut_low (n d : Nat) : n / 2 ^ min d (n.log2 + 2) = n / 2 ^ d ∧ ((n % 2 ^ min d (n.log2 + 2) != 0) = decide (n % 2 ^ d ≠ 0)) := by
  by_cases h : d ≤ n.log2 + 2
  · rw [Nat.min_eq_left h]
    refine ⟨rfl, ?_⟩
    rw [Bool.eq_iff_iff]
    simp
  · rw [Nat.min_eq_right (by omega)]
    have h1 : n < 2 ^ (n.log2 + 1) := Nat.lt_log2_self
    have h2 := pow_lt_pow (show n.log2 + 1 < n.log2 + 2 by omega)
    have h3 := pow_lt_pow (show n.log2 + 1 < d by omega)
    rw [Nat.div_eq_of_lt (by omega), Nat.div_eq_of_lt (by omega), Nat.mod_eq_of_lt (show n < 2 ^ (n.log2 + 2) by omega), Nat.mod_eq_of_lt (show n < 2 ^ d by omega)]
    refine ⟨rfl, ?_⟩
    rw [Bool.eq_iff_iff]
    simp

theorem split_mod {m a : Nat} {p : Int} (h : p + 1074 = (a : Int)) : ((m * 2 ^ p.toNat) % 2 ^ (-p).toNat ≠ 0) ↔ (m * 2 ^ a % unit ≠ 0) := by
  have hx := ex_eq
  by_cases hp : 0 ≤ p
  · rw [show (-p).toNat = 0 by omega, Nat.pow_zero, Nat.mod_one]
    have e := mul_pow_ge m a (by omega)
    rw [e, Nat.mul_mod_left]
  · rw [show p.toNat = 0 by omega, Nat.pow_zero, Nat.mul_one, (div_mod_pow m a (by omega)).2, show ex - a = (-p).toNat by omega]
    constructor
    · intro h1 h2
      rcases Nat.mul_eq_zero.1 h2 with h3 | h3
      · exact h1 h3
      · exact absurd h3 (Nat.ne_of_gt (Nat.two_pow_pos a))
    · intro h1 h2
      rw [h2, Nat.zero_mul] at h1
      exact h1 rfl

/-- A float made whole, by a way. -/
def intg (way : Toward) (b : Nat) : Nat := Ieee.double.write ((Ieee.double.read b).integral way)

theorem intg_fin (way : Toward) (hw : way ≠ .even) {b : Nat} (hb : fin b) : intg way b = Ieee.double.word (sgn b) (rungQ (cutW way (sgn b) (siz b) * unit) 0) := by
  obtain ⟨m, p, i, r1, h1, h2, _⟩ := read_fin hb
  unfold intg
  rw [r1]
  simp only [Ieee.Datum.integral, Ieee.Format.write]
  have hx := ex_eq
  suffices key : way.cut (sgn b) (m <<< p.toNat) (-p).toNat = cutW way (sgn b) (siz b) by
    rw [key, nearest_eq _ _ 0 ex 0 (by omega), ← unit_eq]
  have hd := split_div (m := m) h1
  have hm := split_mod (m := m) h1
  have hs : siz b = m * 2 ^ i := h2.symm
  rw [hs, Nat.shiftLeft_eq]
  obtain ⟨c1, c2⟩ := cut_low (m * 2 ^ p.toNat) (-p).toNat
  have hm' : decide (m * 2 ^ p.toNat % 2 ^ (-p).toNat ≠ 0) = decide (m * 2 ^ i % unit ≠ 0) := decide_eq_decide.2 hm
  unfold Toward.cut cutW
  simp only [Nat.shiftLeft_eq, Nat.one_mul]
  cases way
  · exact absurd rfl hw
  · simp only [c1, c2, hd, hm']
  · simp only [c1, c2, hd, hm']
  · simp only [c1, hd]
    simp

/-- The whole number that comes of it. -/
def wholeI (way : Toward) (b : Nat) : Int := if sgn b then -(cutW way (sgn b) (siz b) : Int) else (cutW way (sgn b) (siz b) : Int)

theorem rep_cut (way : Toward) (s : Bool) {x : Nat} (h : Rep x) : Rep (cutW way s x * unit) := by
  obtain ⟨h1, _, h3⟩ := rep_parts h
  unfold cutW
  split
  · by_cases h0 : x % unit = 0
    · rw [decide_eq_false (by omega), Bool.and_false]
      exact h1
    · rw [decide_eq_true h0, Bool.and_true]
      cases s
      · exact h1
      · exact (h3 h0).1
  · by_cases h0 : x % unit = 0
    · rw [decide_eq_false (by omega), Bool.and_false]
      exact h1
    · rw [decide_eq_true h0, Bool.and_true]
      cases s
      · exact (h3 h0).1
      · exact h1
  · exact h1

/-- Of a sign and a float's number of units. -/
theorem word_val {x : Nat} (h : Rep x) (s : Bool) : fin (Ieee.double.word s (rungQ x 0)) ∧ fval (Ieee.double.word s (rungQ x 0)) = (if s then -(x : Int) else (x : Int)) ∧ sgn (Ieee.double.word s (rungQ x 0)) = s ∧ Ieee.double.word s (rungQ x 0) < 18446744073709551616 ∧ siz (Ieee.double.word s (rungQ x 0)) = x := by
  obtain ⟨r, hr, hm⟩ := h
  have hq : rungQ x 0 = r := by rw [← hm]; exact rungQ_mag hr
  obtain ⟨s1, s2, s3⟩ := sgn_word s (r := r) (by omega)
  rw [hq]
  unfold fin fval siz
  rw [s1, s2, hm]
  exact ⟨hr, rfl, rfl, s3, rfl⟩

theorem intg_val (way : Toward) (hw : way ≠ .even) {b : Nat} (hb : fin b) : fin (intg way b) ∧ fval (intg way b) = wholeI way b * (unit : Int) ∧ intg way b < 18446744073709551616 := by
  rw [intg_fin way hw hb]
  obtain ⟨h1, h2, _, h4, _⟩ := word_val (rep_cut way (sgn b) (rep_siz hb)) (sgn b)
  refine ⟨h1, ?_, h4⟩
  rw [h2]
  unfold wholeI
  split
  · rw [Int.neg_mul, Int.natCast_mul]
  · rw [Int.natCast_mul]

theorem ftrunc_eq (b : Nat) : ftrunc b = wholeI .zero b := rfl

theorem unitI_pos : (0 : Int) < (unit : Int) := Int.ofNat_lt.2 unit_pos

/-- A whole number's float. -/
theorem nearI {n : Int} (h : n.natAbs ≤ 9007199254740992) : fin (fput (n * (unit : Int)) false) ∧ fval (fput (n * (unit : Int)) false) = n * (unit : Int) := by
  have e : (n * (unit : Int)).natAbs = n.natAbs * 2 ^ ex := by rw [Int.natAbs_mul, Int.natAbs_natCast, unit_eq]
  have hx := ex_eq
  have hr : Rep (n * (unit : Int)).natAbs := by rw [e]; exact rep_of' h (by omega)
  obtain ⟨h1, _, h3, _⟩ := fval_fput hr false
  exact ⟨h3, h1⟩

/-- A float whose value is a whole number, made whole. -/
theorem trunc_whole {b : Nat} {n : Int} (h : fval b = n * (unit : Int)) : ftrunc b = n := by
  have hp := unit_pos
  rw [fval_siz] at h
  unfold ftrunc
  show (if sgn b then -((siz b / unit : Nat) : Int) else ((siz b / unit : Nat) : Int)) = n
  cases hs : sgn b
  · rw [hs, if_neg (by decide)] at h
    rw [if_neg (by decide)]
    have hn : 0 ≤ n := by
      by_cases h' : 0 ≤ n
      · exact h'
      · have := Int.mul_neg_of_neg_of_pos (show n < 0 by omega) unitI_pos
        omega
    obtain ⟨k, rfl⟩ := Int.eq_ofNat_of_zero_le hn
    have h2 : siz b = k * unit := by rw [← Int.natCast_mul] at h; exact Int.ofNat.inj h
    rw [h2, Nat.mul_div_cancel _ hp]
  · rw [hs, if_pos rfl] at h
    rw [if_pos rfl]
    have h1 : (siz b : Int) = -n * (unit : Int) := by rw [Int.neg_mul]; omega
    have hn : 0 ≤ -n := by
      by_cases h' : 0 ≤ -n
      · exact h'
      · have := Int.mul_neg_of_neg_of_pos (show -n < 0 by omega) unitI_pos
        omega
    obtain ⟨k, hk⟩ := Int.eq_ofNat_of_zero_le hn
    rw [hk, ← Int.natCast_mul] at h1
    have h2 : siz b = k * unit := Int.ofNat.inj h1
    rw [h2, Nat.mul_div_cancel _ hp]
    omega

/-- The value and its whole part. -/
theorem trunc_parts {b : Nat} : fval b = ftrunc b * (unit : Int) + (if sgn b then -((siz b % unit : Nat) : Int) else ((siz b % unit : Nat) : Int)) := by
  have he : ftrunc b = (if sgn b then -((siz b / unit : Nat) : Int) else ((siz b / unit : Nat) : Int)) := rfl
  rw [fval_siz, he]
  have h := Nat.div_add_mod (siz b) unit
  have h2 : ((siz b / unit * unit : Nat) : Int) + ((siz b % unit : Nat) : Int) = (siz b : Int) := by
    rw [← Int.natCast_add, Nat.mul_comm, h]
  cases sgn b
  · rw [if_neg (by decide), if_neg (by decide), if_neg (by decide), ← Int.natCast_mul, h2]
  · rw [if_pos rfl, if_pos rfl, if_pos rfl, Int.neg_mul, ← Int.natCast_mul, ← h2]
    omega

/-- The order of a float and a whole number, by its whole part. -/
theorem trunc_lt {b : Nat} {n : Int} : (ftrunc b < n → fval b < n * (unit : Int)) ∧ (n < ftrunc b → n * (unit : Int) < fval b) := by
  have hp := unitI_pos
  have hm : ((siz b % unit : Nat) : Int) < (unit : Int) := Int.ofNat_lt.2 (Nat.mod_lt _ unit_pos)
  have hm0 : (0 : Int) ≤ ((siz b % unit : Nat) : Int) := by omega
  rw [trunc_parts (b := b)]
  have key : ∀ a c : Int, a < c → a * (unit : Int) + (unit : Int) ≤ c * (unit : Int) := by
    intro a c h
    have := Int.mul_le_mul_of_nonneg_right (show a + 1 ≤ c by omega) (Int.le_of_lt hp)
    rw [Int.add_mul, Int.one_mul] at this
    exact this
  constructor
  · intro h
    have := key _ _ h
    split <;> omega
  · intro h
    have := key _ _ h
    split <;> omega

/-- What is left has the float's sign; of a whole number's float it is exact. -/
theorem rest_val {b : Nat} (hb : fin b) {w : Nat} (hw : fin w) (hv : fval w = ftrunc b * (unit : Int)) : ∃ r, Ieee.double.sub b w = some r ∧ fin r ∧ r < 18446744073709551616 ∧ fval r = (if sgn b then -((siz b % unit : Nat) : Int) else ((siz b % unit : Nat) : Int)) := by
  have he : fval b - fval w = (if sgn b then -((siz b % unit : Nat) : Int) else ((siz b % unit : Nat) : Int)) := by
    rw [hv, trunc_parts (b := b)]; omega
  have hr : Rep (fval b - fval w).natAbs := by
    rw [he]
    have := (rep_parts (rep_siz hb)).2.1
    split
    · rw [Int.natAbs_neg, Int.natAbs_natCast]; exact this
    · rw [Int.natAbs_natCast]; exact this
  obtain ⟨h1, h2, h3, _⟩ := fval_fput hr (sgn b && !sgn w)
  refine ⟨_, sub_fin hb hw, h3, h2, ?_⟩
  rw [h1, he]

/-- A whole part is a float's, as a whole number. -/
theorem near_trunc {b : Nat} (hb : fin b) : fin (fput (ftrunc b * (unit : Int)) false) ∧ fval (fput (ftrunc b * (unit : Int)) false) = ftrunc b * (unit : Int) := by
  have h := (rep_parts (rep_siz hb)).1
  have e : (ftrunc b * (unit : Int)).natAbs = siz b / unit * unit := by
    rw [Int.natAbs_mul, Int.natAbs_natCast]
    unfold ftrunc
    split
    · rw [Int.natAbs_neg, Int.natAbs_natCast]; rfl
    · rw [Int.natAbs_natCast]; rfl
  rw [← e] at h
  obtain ⟨h1, _, h3, _⟩ := fval_fput h false
  exact ⟨h3, h1⟩

end Go.Proofs.YtlpifchimnnfdaaDoor
