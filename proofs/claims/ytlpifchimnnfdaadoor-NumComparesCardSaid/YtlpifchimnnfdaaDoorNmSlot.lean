/- Numbers' laws: a call's result goes into cells of its own, whatever order the statement is drawn in. -/
import Derived.Test.YtlpifchimnnfdaaDoorNmPair
import Derived.Test.YtlpifchimnnfdaaDoorNmNeg
import Derived.Test.YtlpifchimnnfdaaDoorFltCmp
namespace Go.Proofs.YtlpifchimnnfdaaDoor
open Go.RowKit
attribute [local irreducible] Ext
attribute [local go_sem] run_store_float

/-- A result's cells that were made since are written. -/
theorem end_any {wr W : World} {B : Nat} (hE : Ext wr W) (hB : wr.heap.size ≤ B) (hz : RBox W B 0 0 0 ⟨#[]⟩ none 0 0) (k n : Int) (f : Nat) :
    ZFacts W B k n f ∧ Ext wr (set5 W B k n f ⟨#[]⟩ none 0 0) ∧ RBox (set5 W B k n f ⟨#[]⟩ none 0 0) B k n f ⟨#[]⟩ none 0 0 :=
  ⟨zfacts hz k n f, ext_set5 hE hB k n f ⟨#[]⟩ none 0 0, hz.fill k n f ⟨#[]⟩ none 0 0⟩

/-- Cells that were made ahead of a call. -/
theorem end_made {w w' : World} (hE : Ext (w.alloc (.cells #[.int .i64 0, .int .i64 0, .float .f64 0, .string ⟨#[]⟩, .slice none 0 0] 27)) w') : RBox w' w.heap.size 0 0 0 ⟨#[]⟩ none 0 0 :=
  (RBox.new w 0 0 0 ⟨#[]⟩ none 0 0).ext hE

/-- They are made behind the call. -/
theorem end_behind {wr w : World} (hE : Ext wr w) (k n : Int) (f : Nat) :
    ZFacts (w.alloc (.cells #[.int .i64 0, .int .i64 0, .float .f64 0, .string ⟨#[]⟩, .slice none 0 0] 27)) w.heap.size k n f ∧ Ext wr (set5 (w.alloc (.cells #[.int .i64 0, .int .i64 0, .float .f64 0, .string ⟨#[]⟩, .slice none 0 0] 27)) w.heap.size k n f ⟨#[]⟩ none 0 0) ∧ RBox (set5 (w.alloc (.cells #[.int .i64 0, .int .i64 0, .float .f64 0, .string ⟨#[]⟩, .slice none 0 0] 27)) w.heap.size k n f ⟨#[]⟩ none 0 0) w.heap.size k n f ⟨#[]⟩ none 0 0 :=
  end_any (hE.alloc _) hE.size (RBox.new w 0 0 0 ⟨#[]⟩ none 0 0) k n f

/-- What such a statement leaves: a pointer to the cells, the error. -/
def Left (w0 : World) (k n : Int) (f : Nat) (e : Int) (x y : Value) (w : World) : Prop :=
  ∃ B, x = .pointer (some ⟨B, 0, none⟩) ∧ y = .int .i64 e ∧ Ext w0 w ∧ RBox w B k n f ⟨#[]⟩ none 0 0

theorem left_new {w0 w : World} (hE : Ext w0 w) (k n : Int) (f : Nat) (e : Int) : Left w0 k n f e (.pointer (some ⟨w.heap.size, 0, none⟩)) (.int .i64 e) (w.alloc (.cells #[.int .i64 k, .int .i64 n, .float .f64 f, .string ⟨#[]⟩, .slice none 0 0] 27)) :=
  ⟨_, rfl, rfl, hE.alloc _, RBox.new w k n f ⟨#[]⟩ none 0 0⟩

theorem nV_eq {k n : Int} {f : Nat} {e : Int} {k' n' : Int} {f' : Nat} {e' : Int} (h : nV k n f e = nV k' n' f' e') : k = k' ∧ n = n' ∧ f = f' ∧ e = e' := by
  simpa [nV, and_assoc] using h

/-- A number that may be: its shape. -/
theorem numV_shape {k n : Int} {f : Nat} {s : ByteArray} {m : Nat} (h : numV k n f s m = true) : s = ⟨#[]⟩ ∧ m = 0 ∧ ((k = 1 ∧ f = 0 ∧ -576460752303423488 ≤ n ∧ n ≤ 576460752303423487) ∨ (k = 2 ∧ n = 0 ∧ finF f = true)) := by
  unfold numV at h
  by_cases h1 : k = 1
  · rw [if_pos h1] at h
    simp only [Bool.and_eq_true, decide_eq_true_eq] at h
    exact ⟨h.1.1.1.1, h.1.1.1.2, .inl ⟨h1, h.2, h.1.1.2, h.1.2⟩⟩
  · rw [if_neg h1] at h
    by_cases h2 : k = 2
    · rw [if_pos h2] at h
      simp only [Bool.and_eq_true, decide_eq_true_eq] at h
      exact ⟨h.1.1.1, h.1.1.2, .inr ⟨h2, h.1.2, h.2⟩⟩
    · rw [if_neg h2] at h; cases h

theorem numV_1 {n : Int} (h : -576460752303423488 ≤ n ∧ n ≤ 576460752303423487) : numV 1 n 0 ⟨#[]⟩ 0 = true := by
  unfold numV
  rw [if_pos rfl, decide_eq_true rfl, decide_eq_true h.1, decide_eq_true h.2]
  rfl

theorem numV_2 {f : Nat} (h : finF f = true) : numV 2 0 f ⟨#[]⟩ 0 = true := by
  unfold numV
  rw [if_neg (by decide), if_pos rfl, h]
  rfl

theorem finF_fin {f : Nat} : finF f = true ↔ fin f := by
  unfold finF fin
  exact decide_eq_true_iff

theorem mkF_fin {f : Nat} (h : finF f = true) : mkF f = nV 2 0 f 0 := by
  unfold mkF
  rw [if_pos h]

theorem mkI_in' {n : Int} (h : -576460752303423488 ≤ n ∧ n ≤ 576460752303423487) : mkI n = nV 1 n 0 0 := by
  unfold mkI
  rw [if_pos h]

/-- The nearest float of a whole number is finite. -/
theorem near_fin {n : Int} (h : n.natAbs < 18446744073709551616) : fin (nearF n) := by
  have hx := ex_eq
  unfold nearF fput fin
  by_cases h0 : n = 0
  · subst h0
    rw [Int.zero_mul]
    decide
  · have e : (n * (unit : Int)).natAbs = n.natAbs * unit := by rw [Int.natAbs_mul, Int.natAbs_natCast]
    have hp := unit_pos
    have hne : n.natAbs * unit ≠ 0 := Nat.mul_ne_zero (by omega) (by omega)
    have hlog : (n.natAbs * unit).log2 = n.natAbs.log2 + ex := by rw [unit_eq]; exact log2_scale n.natAbs ex (by omega)
    have hlt : n.natAbs.log2 < 64 := (Nat.log2_lt (by omega)).2 h
    have h1 := Nat.log2_self_le hne
    have h2 : n.natAbs * unit < 2 ^ ((n.natAbs * unit).log2 + 1) := Nat.lt_log2_self
    rw [e]
    generalize n.natAbs * unit = x at hne hlog h1 h2 ⊢
    obtain ⟨r1, _⟩ := rungQ_round (x := x) (L := x.log2 - 52) (by rw [show 52 + (x.log2 - 52) = x.log2 by omega]; exact h1) (by rw [show 53 + (x.log2 - 52) = x.log2 + 1 by omega]; exact h2) (by omega)
    rw [(sgn_word _ (r := rungQ x 0) (by omega)).2.1]
    exact r1

theorem xneg_eq {f : Nat} (h : f < 18446744073709551616) : xneg f = fneg f := by
  have e : 2 ^ (FloatKind.f64.format.exponentBits + FloatKind.f64.format.fractionBits) = 9223372036854775808 := rfl
  unfold xneg Op.negFloat
  rw [e]
  obtain ⟨g1, g2, g3⟩ := fneg_sgn f
  obtain ⟨hb, hs⟩ := word_split h
  obtain ⟨hb', hs'⟩ := word_split g3
  rw [g2, g1, word_add] at hb'
  rw [hb']
  rw [word_add] at hb
  have hr := Nat.mod_lt f (show 9223372036854775808 > 0 by decide)
  generalize f % 9223372036854775808 = r at hb hr
  generalize sgn f = s at hb
  rw [hb]
  apply Nat.eq_of_testBit_eq
  intro i
  have e63 : (9223372036854775808 : Nat) = 2 ^ 63 := by decide
  rw [Nat.testBit_xor]
  have key : ∀ (t : Bool) (i : Nat), (t.toNat * 9223372036854775808 + r).testBit i = if i = 63 then t else r.testBit i := by
    intro t i
    cases t
    · rw [show (false.toNat * 9223372036854775808 + r) = r by simp]
      split
      · rename_i hi
        rw [hi]
        exact Nat.testBit_lt_two_pow (by omega)
      · rfl
    · rw [show (true.toNat * 9223372036854775808 + r) = 2 ^ 63 + r by rw [← e63]; simp]
      by_cases hi : i = 63
      · rw [if_pos hi, hi, Nat.testBit_two_pow_add_eq, Nat.testBit_lt_two_pow (by omega)]
        rfl
      · rw [if_neg hi]
        by_cases hi2 : i < 63
        · exact Nat.testBit_two_pow_add_gt hi2 r
        · rw [Nat.testBit_lt_two_pow (x := r) (by have : 2 ^ 63 ≤ 2 ^ i := Nat.pow_le_pow_right (by decide) (by omega); omega)]
          exact Nat.testBit_lt_two_pow (by have : 2 ^ 64 ≤ 2 ^ i := Nat.pow_le_pow_right (by decide) (by omega); omega)
  rw [key, key, e63, Nat.testBit_two_pow]
  by_cases hi : i = 63
  · rw [if_pos hi, if_pos hi, decide_eq_true hi.symm]
    cases s <;> rfl
  · rw [if_neg hi, if_neg hi, decide_eq_false (fun h => hi h.symm)]
    simp

theorem xneg_xneg (f : Nat) : xneg (xneg f) = f := by
  unfold xneg Op.negFloat
  rw [Nat.xor_assoc, Nat.xor_self, Nat.xor_zero]

theorem xneg_fin {f : Nat} (h : f < 18446744073709551616) (hf : finF f = true) : finF (xneg f) = true := by
  rw [xneg_eq h]
  exact finF_fin.2 (fneg_fin (finF_fin.1 hf))

end Go.Proofs.YtlpifchimnnfdaaDoor
