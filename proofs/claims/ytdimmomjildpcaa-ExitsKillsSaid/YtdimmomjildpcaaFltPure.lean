/- Floats, plain: their order with themselves and with the greatest one; a float less itself. -/
import Derived.Laws.FloatArith
import Derived.Test.YtdimmomjildpcaaTmPlain
namespace Go.Proofs.Ytdimmomjildpcaa
open Ieee

/-- How a float's rung stands. -/
theorem read_cases (b : Nat) : (∃ neg m p, Ieee.double.read b = .number neg m p ∧ b % 9223372036854775808 < 9218868437227405312) ∨ (∃ neg, Ieee.double.read b = .infinity neg ∧ b % 9223372036854775808 = 9218868437227405312) ∨
    (∃ neg fr, Ieee.double.read b = .nan neg fr ∧ 9218868437227405312 < b % 9223372036854775808) := by
  have e1 : Ieee.double.signWeight = 9223372036854775808 := by decide
  have e2 : Ieee.double.binade = 4503599627370496 := by decide
  have e3 : Ieee.double.infRung = 9218868437227405312 := by decide
  unfold Ieee.Format.read
  rw [e1, e2, e3]
  dsimp only
  split
  · exact .inl ⟨_, _, _, rfl, by omega⟩
  · split
    · exact .inl ⟨_, _, _, rfl, by assumption⟩
    · split
      · exact .inr (.inl ⟨_, rfl, by assumption⟩)
      · exact .inr (.inr ⟨_, _, rfl, by omega⟩)

theorem finF_cases (b : Nat) : (finF b = true ∧ ∃ neg m p, Ieee.double.read b = .number neg m p) ∨ (finF b = false ∧ ((∃ neg, Ieee.double.read b = .infinity neg ∧ b % 9223372036854775808 = 9218868437227405312) ∨ ∃ neg fr, Ieee.double.read b = .nan neg fr)) := by
  unfold finF
  rcases read_cases b with ⟨a1, a2, a3, h, hl⟩ | ⟨a1, h, hl⟩ | ⟨a1, a2, h, hl⟩
  · exact .inl ⟨decide_eq_true hl, _, _, _, h⟩
  · exact .inr ⟨decide_eq_false (by omega), .inl ⟨_, h, hl⟩⟩
  · exact .inr ⟨decide_eq_false (by omega), .inr ⟨_, _, h⟩⟩

theorem order_self_number {b : Nat} {neg : Bool} {m : Nat} {p : Int} (h : Ieee.double.read b = .number neg m p) : Ieee.double.order b b = some .eq := by
  unfold Ieee.Format.order
  rw [h]
  simp [Ieee.Datum.order]

/-- Is it no number? -/
def nanF (b : Nat) : Bool := decide (9218868437227405312 < b % 9223372036854775808)

theorem order_self (b : Nat) : (Ieee.double.order b b != some .eq) = nanF b := by
  unfold nanF
  rcases read_cases b with ⟨a1, a2, a3, h, hl⟩ | ⟨a1, h, hl⟩ | ⟨a1, a2, h, hl⟩
  · rw [order_self_number h, decide_eq_false (by omega)]
    rfl
  · rw [decide_eq_false (by omega)]
    unfold Ieee.Format.order
    rw [h]
    cases a1 <;> rfl
  · rw [decide_eq_true hl]
    unfold Ieee.Format.order
    rw [h]
    rfl

/-- The greatest float. -/
theorem read_max : Ieee.double.read 9218868437227405311 = .number false 9007199254740991 971 := by decide

theorem shl_le (m n a : Nat) (h : m ≤ n) : m ≤ n <<< a := by
  rw [Nat.shiftLeft_eq]
  exact Nat.le_trans h (Nat.le_mul_of_pos_right _ (Nat.two_pow_pos a))

theorem read_number_max {b : Nat} (hb : b < 9218868437227405312) : ∃ m p, Ieee.double.read b = .number false m p ∧ m ≤ 9007199254740991 ∧ p ≤ 971 := by
  have e1 : Ieee.double.signWeight = 9223372036854775808 := by decide
  have e2 : Ieee.double.binade = 4503599627370496 := by decide
  have e3 : Ieee.double.infRung = 9218868437227405312 := by decide
  have e4 : Ieee.double.leastPlace = -1074 := by decide
  have h0 : b / 9223372036854775808 = 0 := Nat.div_eq_of_lt (by omega)
  have h1 : b % 9223372036854775808 = b := Nat.mod_eq_of_lt (by omega)
  unfold Ieee.Format.read
  rw [e1, e2, e3, e4, h0, h1]
  dsimp only
  split
  · exact ⟨_, _, rfl, by omega, by omega⟩
  · refine ⟨_, _, rfl, ?_, ?_⟩
    · have := Nat.mod_lt b (show 4503599627370496 > 0 by decide)
      omega
    · have : b / 4503599627370496 ≤ 2046 := by omega
      omega

theorem order_max {a : Nat} (ha : a < 9223372036854775808) : (Ieee.double.order a 9218868437227405311 == some .gt) = decide (a = 9218868437227405312) := by
  by_cases h : a < 9218868437227405312
  · obtain ⟨m, p, hr, hm, hp⟩ := read_number_max h
    rw [decide_eq_false (by omega)]
    unfold Ieee.Format.order
    rw [hr, read_max]
    simp only [Ieee.Datum.order, Ieee.signed]
    have hmin : min p 971 = p := by omega
    rw [hmin, Int.sub_self]
    have hle := shl_le m 9007199254740991 (971 - p).toNat hm
    simp only [Int.toNat_zero, Nat.shiftLeft_zero, Bool.false_eq_true, if_false]
    have hle' : ((m : Nat) : Int) ≤ ((9007199254740991 <<< (971 - p).toNat : Nat) : Int) := Int.ofNat_le.2 hle
    generalize ((9007199254740991 <<< (971 - p).toNat : Nat) : Int) = M at hle'
    have : compare (m : Int) M ≠ .gt := by
      unfold compare instOrdInt
      simp only [compareOfLessAndEq]
      split
      · decide
      · split
        · decide
        · omega
    generalize compare (m : Int) M = c at this
    cases c <;> first | rfl | exact absurd rfl this
  · rcases read_cases a with ⟨a1, a2, a3, hr, hl⟩ | ⟨a1, hr, hl⟩ | ⟨a1, a2, hr, hl⟩
    · omega
    · have e : a = 9218868437227405312 := by omega
      subst e
      decide
    · rw [decide_eq_false (by omega)]
      unfold Ieee.Format.order
      rw [hr]
      rfl

theorem sub_self_number {b : Nat} {neg : Bool} {m : Nat} {p : Int} (h : Ieee.double.read b = .number neg m p) : Ieee.double.sub b b = some 0 := by
  unfold Ieee.Format.sub
  rw [h]
  simp only [Ieee.Datum.opposite, Ieee.Datum.sum]
  have e : Ieee.signed neg m (p - min p p).toNat + Ieee.signed (!neg) m (p - min p p).toNat = 0 := by
    unfold Ieee.signed
    cases neg <;> simp <;> omega
  rw [e]
  cases neg <;> simp [Ieee.Format.write, Ieee.Format.nearest, Ieee.Format.word]

theorem sub_self_none {b : Nat} (h : finF b = false) : Ieee.double.sub b b = none := by
  rcases finF_cases b with ⟨h', _⟩ | ⟨_, ⟨neg, hr, _⟩ | ⟨neg, fr, hr⟩⟩
  · rw [h] at h'; cases h'
  · unfold Ieee.Format.sub
    rw [hr]
    cases neg <;> rfl
  · unfold Ieee.Format.sub
    rw [hr]
    rfl

/-- What the model draws for a NaN is one. -/
theorem order_nan {b : Nat} (h : nanF b = true) (c : Nat) : Ieee.double.order b c = none := by
  unfold nanF at h
  have h := of_decide_eq_true h
  rcases read_cases b with ⟨a1, a2, a3, hr, hl⟩ | ⟨a1, hr, hl⟩ | ⟨a1, a2, hr, hl⟩
  · omega
  · omega
  · unfold Ieee.Format.order
    rw [hr]
    rfl

theorem nan_drawn (t : Nat) : nanF ((t % 2) * 2 ^ 63 + 0x7ff0000000000000 + 1 + (t / 2) % (2 ^ 52 - 1)) = true := by
  unfold nanF
  apply decide_eq_true
  have h1 : t % 2 = 0 ∨ t % 2 = 1 := by omega
  have h2 := Nat.mod_lt (t / 2) (show 2 ^ 52 - 1 > 0 by decide)
  rcases h1 with h1 | h1 <;> rw [h1] <;> omega

end Go.Proofs.Ytdimmomjildpcaa
