/- Numbers: the nearest float of a whole number, and its neighbours. -/
import Derived.Test.YtlpifchimnnfdaaDoorFltNext
import Derived.Test.YtlpifchimnnfdaaDoorNmSlot
namespace Go.Proofs.YtlpifchimnnfdaaDoor
open Go.RowKit Ieee
attribute [local irreducible] Ext

theorem near_val {n : Int} : fval (nearF n) = (if n < 0 then -(mag (rungQ (n.natAbs * unit) 0) : Int) else (mag (rungQ (n.natAbs * unit) 0) : Int)) := by
  have hp := unitI_pos
  have e : (n * (unit : Int)).natAbs = n.natAbs * unit := by rw [Int.natAbs_mul, Int.natAbs_natCast]
  unfold nearF fput
  rw [e]
  have hle := rungQ_le (n.natAbs * unit) 0
  obtain ⟨s1, s2, _⟩ := sgn_word (if n * (unit : Int) = 0 then false else decide (n * (unit : Int) < 0)) (r := rungQ (n.natAbs * unit) 0) (by omega)
  unfold fval
  rw [s1, s2]
  by_cases h0 : n = 0
  · subst h0
    rw [if_pos (Int.zero_mul _)]
    simp
  · have h1 : n * (unit : Int) ≠ 0 := fun h => by rcases Int.mul_eq_zero.1 h with h | h <;> omega
    have h2 : (n * (unit : Int) < 0) ↔ n < 0 := by
      have := mul_unit_lt (a := n) (b := 0)
      rw [Int.zero_mul] at this
      exact this
    rw [if_neg h1]
    by_cases h3 : n < 0
    · rw [decide_eq_true (h2.2 h3), if_pos rfl, if_pos h3]
    · rw [decide_eq_false (fun h => h3 (h2.1 h)), if_neg (by decide), if_neg h3]

theorem int_split (n : Int) : n * (unit : Int) = if n < 0 then -((n.natAbs * unit : Nat) : Int) else ((n.natAbs * unit : Nat) : Int) := by
  rw [Int.natCast_mul]
  generalize (unit : Int) = U
  by_cases h : n < 0
  · obtain ⟨a, ha⟩ : ∃ a, ((n.natAbs : Nat) : Int) = a := ⟨_, rfl⟩
    have : n = -a := by omega
    rw [if_pos h, ha, this, Int.neg_mul]
  · obtain ⟨a, ha⟩ : ∃ a, ((n.natAbs : Nat) : Int) = a := ⟨_, rfl⟩
    have : n = a := by omega
    rw [if_neg h, ha, this]

/-- No float is nearer. -/
theorem near_best_int {n : Int} (hn : n ≠ 0) (h64 : n.natAbs < 18446744073709551616) {Y : Int} (hY : Rep Y.natAbs) : (fval (nearF n) - n * (unit : Int)).natAbs ≤ (Y - n * (unit : Int)).natAbs := by
  have hx := ex_eq
  have hp := unit_pos
  have hne : n.natAbs * unit ≠ 0 := Nat.mul_ne_zero (by omega) (by omega)
  have hlog : (n.natAbs * unit).log2 = n.natAbs.log2 + ex := by rw [unit_eq]; exact log2_scale n.natAbs ex (by omega)
  have hlt : n.natAbs.log2 < 64 := (Nat.log2_lt (by omega)).2 h64
  have h1 := Nat.log2_self_le hne
  have h2 : n.natAbs * unit < 2 ^ ((n.natAbs * unit).log2 + 1) := Nat.lt_log2_self
  have k1 : 2 ^ (52 + ((n.natAbs * unit).log2 - 52)) ≤ n.natAbs * unit := by rw [show 52 + ((n.natAbs * unit).log2 - 52) = (n.natAbs * unit).log2 by omega]; exact h1
  have k2 : n.natAbs * unit < 2 ^ (53 + ((n.natAbs * unit).log2 - 52)) := by rw [show 53 + ((n.natAbs * unit).log2 - 52) = (n.natAbs * unit).log2 + 1 by omega]; exact h2
  obtain ⟨a1, a2⟩ := near_best k1 k2 (by omega) hY
  obtain ⟨b1, b2⟩ := near_best k1 k2 (by omega) rep_zero
  rw [near_val, int_split n]
  generalize n.natAbs * unit = N at a1 a2 b1 b2 ⊢
  generalize mag (rungQ N 0) = x at a1 a2 b1 b2 ⊢
  split <;> omega

/-- What the law asks of a great whole number. -/
theorem near_next {n : Int} (h53 : 9007199254740992 ≤ n.natAbs) (h63 : n.natAbs ≤ 9223372036854775808) (hs : (fval (nearF n)).natAbs < 4611686018427387904 * unit) :
    9007199254740992 * unit ≤ (fval (nearF n)).natAbs ∧ (∃ T Tp Tm : Int, fval (nearF n) = T * (unit : Int) ∧ fin (nearF n + 1) ∧ fval (nearF n + 1) = Tp * (unit : Int) ∧ fin (nearF n - 1) ∧ fval (nearF n - 1) = Tm * (unit : Int) ∧ nearF n + 1 < 18446744073709551616 ∧
      (T - n).natAbs ≤ (Tp - n).natAbs ∧ (T - n).natAbs ≤ (Tm - n).natAbs ∧ T.natAbs ≤ 4611686018427387904 ∧ Tp.natAbs ≤ 4611686018427387904 ∧ Tm.natAbs ≤ 4611686018427387904 ∧ n.natAbs ≤ 4611686018427387904 ∧ (T < 0 ↔ n < 0) ∧ (Tp < 0 ↔ n < 0) ∧ (Tm < 0 ↔ n < 0)) := by
  have hp := unit_pos
  have hpI := unitI_pos
  have hn0 : n ≠ 0 := by omega
  have hf := near_fin (n := n) (by omega)
  have h64 := nearF_lt n
  obtain ⟨hw, hsg⟩ := word_split h64
  have hsz : (fval (nearF n)).natAbs = siz (nearF n) := by
    rw [fval_siz]
    split <;> simp
  have hrep : ∀ c : Nat, c = 9007199254740992 ∨ c = 4611686018427387904 → Rep (c * unit) := by
    intro c hc
    have hx := ex_eq
    rw [unit_eq]
    rcases hc with rfl | rfl
    · exact rep_of' (by omega) (by omega)
    · have e : 4611686018427387904 * 2 ^ ex = 4503599627370496 * 2 ^ (10 + ex) := by rw [Nat.pow_add]; generalize 2 ^ ex = P; omega
      rw [e]
      exact rep_of (by omega) (by omega)
  have hv := near_val (n := n)
  have key : ∀ c : Nat, c = 9007199254740992 ∨ c = 4611686018427387904 → c ≤ n.natAbs → c * unit ≤ (fval (nearF n)).natAbs := by
    intro c hc hle
    have hY : Rep (if n < 0 then -((c * unit : Nat) : Int) else ((c * unit : Nat) : Int)).natAbs := by
      split
      · rw [Int.natAbs_neg, Int.natAbs_natCast]; exact hrep c hc
      · rw [Int.natAbs_natCast]; exact hrep c hc
    have hb := near_best_int hn0 (by omega) hY
    have e := int_split n
    have hcn := Nat.mul_le_mul_right unit hle
    rw [hv, e] at hb
    rw [hv]
    generalize c * unit = C at hb hcn ⊢
    generalize n.natAbs * unit = N at hb hcn ⊢
    generalize mag (rungQ N 0) = x at hb ⊢
    by_cases hneg : n < 0
    · simp only [if_pos hneg] at hb ⊢
      omega
    · simp only [if_neg hneg] at hb ⊢
      omega
  have k53 := key 9007199254740992 (.inl rfl) h53
  have kn : n.natAbs ≤ 4611686018427387904 := by
    by_cases h : n.natAbs ≤ 4611686018427387904
    · exact h
    · have := key 4611686018427387904 (.inr rfl) (by omega)
      omega
  refine ⟨k53, ?_⟩
  obtain ⟨r, hr⟩ : ∃ r, nearF n % 9223372036854775808 = r := ⟨_, rfl⟩
  have hm : siz (nearF n) = mag r := by unfold siz; rw [hr]
  rw [hsz, hm] at hs k53
  have r1 := mag_53 k53
  have r2 := mag_62 hs
  have hfv : fval (nearF n) = if n < 0 then -(mag r : Int) else (mag r : Int) := by
    have h3 := fval_siz (nearF n)
    rw [hm] at h3
    have hpos : mag r ≠ 0 := by
      have := Nat.mul_le_mul_left 9007199254740992 (show 1 ≤ unit by omega)
      omega
    rw [hv] at h3 ⊢
    generalize mag (rungQ (n.natAbs * unit) 0) = x at h3 ⊢
    by_cases hneg : n < 0
    · simp only [if_pos hneg] at h3 ⊢
      cases hq : sgn (nearF n)
      · simp only [hq, Bool.false_eq_true, if_false] at h3
        omega
      · simp only [hq, if_true] at h3
        exact h3
    · simp only [if_neg hneg] at h3 ⊢
      cases hq : sgn (nearF n)
      · simp only [hq, Bool.false_eq_true, if_false] at h3
        exact h3
      · simp only [hq, if_true] at h3
        omega
  have hsn : sgn (nearF n) = decide (n < 0) := by
    have h3 := fval_siz (nearF n)
    rw [hm, hfv] at h3
    have hpos : mag r ≠ 0 := by
      have := Nat.mul_le_mul_left 9007199254740992 (show 1 ≤ unit by omega)
      omega
    by_cases hneg : n < 0
    · simp only [if_pos hneg] at h3
      rw [decide_eq_true hneg]
      cases hq : sgn (nearF n)
      · simp only [hq, Bool.false_eq_true, if_false] at h3
        omega
      · rfl
    · simp only [if_neg hneg] at h3
      rw [decide_eq_false hneg]
      cases hq : sgn (nearF n)
      · rfl
      · simp only [hq, if_true] at h3
        omega
  have hwr : nearF n = Ieee.double.word (decide (n < 0)) r := by rw [← hsn, ← hr]; exact hw
  have step : ∀ q, 4841369599423283200 ≤ q → q ≤ 4886405595696988160 → ∃ c : Nat, fin (Ieee.double.word (decide (n < 0)) q) ∧ fval (Ieee.double.word (decide (n < 0)) q) = (if n < 0 then -(c : Int) else (c : Int)) * (unit : Int) ∧ c ≤ 4611686018427387904 ∧ 0 < c ∧ Rep (fval (Ieee.double.word (decide (n < 0)) q)).natAbs := by
    intro q q1 q2
    obtain ⟨c, hc⟩ := mag_whole q1
    have hle := mag_le62 q2
    rw [hc] at hle
    have hcle := Nat.le_of_mul_le_mul_right hle hp
    have hc0 : 0 < c := by
      have := mag_pos (r := q) (by omega)
      rw [hc] at this
      rcases Nat.eq_zero_or_pos c with h | h
      · subst h; simp at this
      · exact h
    obtain ⟨s1, s2, s3⟩ := sgn_word (decide (n < 0)) (r := q) (by omega)
    have hfi : fin (Ieee.double.word (decide (n < 0)) q) := by unfold fin; rw [s2]; omega
    refine ⟨c, hfi, ?_, hcle, hc0, rep_fval hfi⟩
    unfold fval
    rw [s1, s2, hc, Int.natCast_mul]
    by_cases h : n < 0
    · rw [decide_eq_true h, if_pos rfl, if_pos h, Int.neg_mul]
    · rw [decide_eq_false h, if_neg (by decide), if_neg h]
  obtain ⟨c, _, cv, cl, c0, _⟩ := step r (by omega) (by omega)
  obtain ⟨cp, pf, pv, pl, p0, pr⟩ := step (r + 1) (by omega) (by omega)
  obtain ⟨cm, mf, mv, ml, m0, mr⟩ := step (r - 1) (by omega) (by omega)
  have ep : Ieee.double.word (decide (n < 0)) (r + 1) = nearF n + 1 := by rw [hwr, word_add, word_add]; omega
  have em : Ieee.double.word (decide (n < 0)) (r - 1) = nearF n - 1 := by rw [hwr, word_add, word_add]; omega
  rw [← hwr] at cv
  rw [ep] at pf pv pr
  rw [em] at mf mv mr
  have hb1 := near_best_int hn0 (by omega) pr
  have hb2 := near_best_int hn0 (by omega) mr
  rw [cv, pv, ← Int.sub_mul, ← Int.sub_mul, Int.natAbs_mul, Int.natAbs_mul, Int.natAbs_natCast] at hb1
  rw [cv, mv, ← Int.sub_mul, ← Int.sub_mul, Int.natAbs_mul, Int.natAbs_mul, Int.natAbs_natCast] at hb2
  refine ⟨_, _, _, cv, pf, pv, mf, mv, ?_, Nat.le_of_mul_le_mul_right hb1 hp, Nat.le_of_mul_le_mul_right hb2 hp, ?_, ?_, ?_, kn, ?_, ?_, ?_⟩
  · rw [hwr, word_add]
    cases decide (n < 0) <;> simp <;> omega
  all_goals (split <;> omega)

end Go.Proofs.YtlpifchimnnfdaaDoor
