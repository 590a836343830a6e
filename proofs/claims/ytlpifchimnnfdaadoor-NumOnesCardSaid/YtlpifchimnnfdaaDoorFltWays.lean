/- Floats: the four ways to a whole number, by the whole part and what is left. -/
import Derived.Test.YtlpifchimnnfdaaDoorFltCmp
namespace Go.Proofs.YtlpifchimnnfdaaDoor
open Ieee

/-- What is left, with its sign. -/
def rest (b : Nat) : Int := if sgn b then -((siz b % unit : Nat) : Int) else ((siz b % unit : Nat) : Int)

theorem rest_eq (b : Nat) : fval b = ftrunc b * (unit : Int) + rest b := trunc_parts

theorem rest_small (b : Nat) : -(unit : Int) < rest b ∧ rest b < (unit : Int) := by
  have h := Int.ofNat_lt.2 (Nat.mod_lt (siz b) unit_pos)
  have h0 : (0 : Int) ≤ ((siz b % unit : Nat) : Int) := Int.natCast_nonneg _
  have h1 := unitI_pos
  unfold rest
  generalize ((siz b % unit : Nat) : Int) = R at h h0 ⊢
  have h' : R < (unit : Int) := h
  split <;> omega

theorem rest_zero_iff (b : Nat) : (rest b = 0 ↔ siz b % unit = 0) := by
  unfold rest
  split
  · constructor
    · intro h
      have : ((siz b % unit : Nat) : Int) = 0 := by omega
      exact Int.ofNat.inj this
    · intro h; rw [h]; rfl
  · constructor
    · intro h; exact Int.ofNat.inj h
    · intro h; rw [h]; rfl

theorem rest_sign (b : Nat) : (sgn b = true → rest b ≤ 0) ∧ (sgn b = false → 0 ≤ rest b) := by
  have h0 : (0 : Int) ≤ ((siz b % unit : Nat) : Int) := Int.natCast_nonneg _
  unfold rest
  generalize ((siz b % unit : Nat) : Int) = R at h0 ⊢
  constructor
  · intro h; rw [if_pos h]; omega
  · intro h; rw [h, if_neg (by decide)]; exact h0

theorem way_down (b : Nat) : wholeI .down b = ftrunc b - (if rest b < 0 then 1 else 0) := by
  have hs := rest_sign b
  have hz := rest_zero_iff b
  have e : ftrunc b = if sgn b then -((siz b / unit : Nat) : Int) else ((siz b / unit : Nat) : Int) := rfl
  unfold wholeI cutW
  rw [e]
  cases h : sgn b
  · have h1 := hs.2 h
    simp only [Bool.false_eq_true, if_false, Bool.false_and, Bool.toNat_false, Nat.add_zero]
    rw [if_neg (by omega)]
    omega
  · have h1 := hs.1 h
    simp only [if_true, Bool.true_and]
    by_cases h2 : siz b % unit = 0
    · rw [decide_eq_false (by omega), if_neg (by have := hz.2 h2; omega)]
      simp
    · have : rest b ≠ 0 := fun h => h2 (hz.1 h)
      rw [decide_eq_true h2, if_pos (by omega)]
      simp only [Bool.toNat_true, Int.natCast_add]
      generalize ((siz b / unit : Nat) : Int) = Q
      omega

theorem way_up (b : Nat) : wholeI .up b = ftrunc b + (if 0 < rest b then 1 else 0) := by
  have hs := rest_sign b
  have hz := rest_zero_iff b
  have e : ftrunc b = if sgn b then -((siz b / unit : Nat) : Int) else ((siz b / unit : Nat) : Int) := rfl
  unfold wholeI cutW
  rw [e]
  cases h : sgn b
  · have h1 := hs.2 h
    simp only [Bool.false_eq_true, if_false, Bool.not_false, Bool.true_and]
    by_cases h2 : siz b % unit = 0
    · rw [decide_eq_false (by omega), if_neg (by have := hz.2 h2; omega)]
      simp
    · have : rest b ≠ 0 := fun h => h2 (hz.1 h)
      rw [decide_eq_true h2, if_pos (by omega)]
      simp only [Bool.toNat_true, Int.natCast_add]
      generalize ((siz b / unit : Nat) : Int) = Q
      omega
  · have h1 := hs.1 h
    simp only [if_true, Bool.not_true, Bool.false_and, Bool.toNat_false, Nat.add_zero]
    rw [if_neg (by omega)]
    omega

theorem cutR_eq (x : Nat) : cutR x = x / unit + (if unit ≤ 2 * (x % unit) then 1 else 0) := by
  have hp := unit_pos
  have hx := Nat.div_add_mod x unit
  have hm := Nat.mod_lt x hp
  unfold cutR
  rw [Nat.div_eq_iff (by omega)]
  generalize x / unit = q at hx ⊢
  generalize x % unit = r at hx hm ⊢
  have e : 2 * x = q * (2 * unit) + 2 * r := by rw [← hx, Nat.mul_add, Nat.mul_comm unit q, Nat.mul_left_comm]
  by_cases h : unit ≤ 2 * r
  · rw [if_pos h, Nat.add_mul, Nat.one_mul, e]
    omega
  · rw [if_neg h, Nat.add_zero, e]
    omega

theorem way_round (b : Nat) : roundI b = ftrunc b + (if (unit : Int) ≤ 2 * rest b then 1 else 0) - (if 2 * rest b ≤ -(unit : Int) then 1 else 0) := by
  have hp := unitI_pos
  have e : ftrunc b = if sgn b then -((siz b / unit : Nat) : Int) else ((siz b / unit : Nat) : Int) := rfl
  unfold roundI
  rw [e, cutR_eq]
  unfold rest
  have h0 : (0 : Int) ≤ ((siz b % unit : Nat) : Int) := Int.natCast_nonneg _
  have hc : (unit ≤ 2 * (siz b % unit)) ↔ ((unit : Int) ≤ 2 * ((siz b % unit : Nat) : Int)) := by
    rw [show (2 : Int) * ((siz b % unit : Nat) : Int) = ((2 * (siz b % unit) : Nat) : Int) by rw [Int.natCast_mul]; rfl]
    exact Int.ofNat_le.symm
  generalize ((siz b % unit : Nat) : Int) = R at h0 hc ⊢
  cases h : sgn b
  · simp only [Bool.false_eq_true, if_false]
    rw [if_neg (show ¬ 2 * R ≤ -(unit : Int) by omega)]
    by_cases h2 : unit ≤ 2 * (siz b % unit)
    · rw [if_pos h2, if_pos (hc.1 h2), Int.natCast_add]
      generalize ((siz b / unit : Nat) : Int) = Q
      omega
    · rw [if_neg h2, if_neg (fun h => h2 (hc.2 h)), Int.natCast_add]
      generalize ((siz b / unit : Nat) : Int) = Q
      omega
  · simp only [if_true]
    rw [if_neg (show ¬ (unit : Int) ≤ 2 * -R by omega)]
    by_cases h2 : unit ≤ 2 * (siz b % unit)
    · have := hc.1 h2
      rw [if_pos h2, if_pos (by omega), Int.natCast_add]
      generalize ((siz b / unit : Nat) : Int) = Q
      omega
    · have : ¬ (unit : Int) ≤ 2 * R := fun h => h2 (hc.2 h)
      rw [if_neg h2, if_neg (by omega), Int.natCast_add]
      generalize ((siz b / unit : Nat) : Int) = Q
      omega

/-- All four lie between the floor and the ceiling, which lie round the float. -/
structure Ways (b : Nat) (T R lo hi t r : Int) : Prop where
  val : fval b = T * (unit : Int) + R
  small : -(unit : Int) < R ∧ R < (unit : Int)
  lo : lo = T - (if R < 0 then 1 else 0)
  hi : hi = T + (if 0 < R then 1 else 0)
  t : t = T
  r : r = T + (if (unit : Int) ≤ 2 * R then 1 else 0) - (if 2 * R ≤ -(unit : Int) then 1 else 0)
  sign : (0 ≤ fval b → 0 ≤ R) ∧ (fval b < 0 → R ≤ 0)

theorem fval_sign (b : Nat) : (sgn b = true → fval b ≤ 0) ∧ (sgn b = false → 0 ≤ fval b) := by
  unfold fval
  constructor
  · intro h; rw [if_pos h]; omega
  · intro h; rw [h, if_neg (by decide)]; omega

theorem ways (b : Nat) : Ways b (ftrunc b) (rest b) (wholeI .down b) (wholeI .up b) (wholeI .zero b) (roundI b) := by
  refine ⟨rest_eq b, rest_small b, way_down b, way_up b, rfl, way_round b, ?_⟩
  have h1 := rest_sign b
  have h2 := fval_sign b
  have h3 := rest_eq b
  cases h : sgn b
  · exact ⟨fun _ => h1.2 h, fun hl => by have := h2.2 h; omega⟩
  · refine ⟨fun hg => ?_, fun _ => h1.1 h⟩
    have h4 := h2.1 h
    have h5 := h1.1 h
    have h6 : ftrunc b ≤ 0 := by
      unfold ftrunc
      rw [h, if_pos rfl]
      exact Int.neg_nonpos_of_nonneg (Int.natCast_nonneg _)
    have h7 : ftrunc b * (unit : Int) ≤ 0 := Int.mul_nonpos_of_nonpos_of_nonneg h6 (Int.le_of_lt unitI_pos)
    omega

theorem Ways.facts {b : Nat} {T R lo hi t r : Int} (h : Ways b T R lo hi t r) : lo ≤ hi ∧ hi - lo ≤ 1 ∧ lo ≤ t ∧ t ≤ hi ∧ (r = lo ∨ r = hi) ∧ lo * (unit : Int) ≤ fval b ∧ fval b ≤ hi * (unit : Int) ∧ (lo = hi ↔ fval b = lo * (unit : Int)) ∧ (0 ≤ fval b → t = lo) ∧ (fval b < 0 → t = hi) := by
  obtain ⟨h1, ⟨h2, h3⟩, h4, h5, h6, h7, h8⟩ := h
  have hp := unitI_pos
  have a1 : (T - 1) * (unit : Int) = T * (unit : Int) - (unit : Int) := by rw [Int.sub_mul, Int.one_mul]
  have a2 : (T + 1) * (unit : Int) = T * (unit : Int) + (unit : Int) := by rw [Int.add_mul, Int.one_mul]
  subst h6
  by_cases n : R < 0
  · rw [if_pos n] at h4
    rw [if_neg (by omega)] at h5
    rw [if_neg (by omega)] at h7
    have e5 : hi = t := by omega
    subst h4 e5
    refine ⟨by omega, by omega, by omega, by omega, ?_, by rw [a1]; omega, by omega, ⟨fun h => by omega, fun h => by rw [a1] at h; omega⟩, fun h => by have := h8.1 h; omega, fun _ => rfl⟩
    by_cases c : 2 * R ≤ -(unit : Int)
    · rw [if_pos c] at h7; exact .inl (by omega)
    · rw [if_neg c] at h7; exact .inr (by omega)
  · rw [if_neg n] at h4
    have e4 : lo = t := by omega
    subst e4
    rw [if_neg (show ¬ 2 * R ≤ -(unit : Int) by omega)] at h7
    by_cases p : 0 < R
    · rw [if_pos p] at h5
      subst h5
      refine ⟨by omega, by omega, by omega, by omega, ?_, by omega, by rw [a2]; omega, ⟨fun h => by omega, fun h => by omega⟩, fun _ => rfl, fun h => by have := h8.2 h; omega⟩
      by_cases c : (unit : Int) ≤ 2 * R
      · rw [if_pos c] at h7; exact .inr (by omega)
      · rw [if_neg c] at h7; exact .inl (by omega)
    · rw [if_neg p] at h5
      rw [if_neg (by omega)] at h7
      have e5 : hi = lo := by omega
      subst e5
      exact ⟨by omega, by omega, by omega, by omega, .inl (by omega), by omega, by omega, ⟨fun _ => by omega, fun _ => rfl⟩, fun _ => rfl, fun _ => rfl⟩

/-- The floor of the negative. -/
theorem neg_floor (b : Nat) : wholeI .down (fneg b) = -(wholeI .up b) := by
  obtain ⟨h1, h2, _⟩ := fneg_sgn b
  have hs : siz (fneg b) = siz b := by unfold siz; rw [h2]
  unfold wholeI cutW
  rw [h1, hs]
  cases sgn b <;> simp

end Go.Proofs.YtlpifchimnnfdaaDoor
