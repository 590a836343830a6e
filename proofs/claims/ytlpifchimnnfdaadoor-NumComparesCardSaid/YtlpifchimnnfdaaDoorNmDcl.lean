/- Numbers: the document's decimals: with the sign. -/
import Derived.Test.YtlpifchimnnfdaaDoorNmDig
namespace Go.Proofs.YtlpifchimnnfdaaDoor
open Go.RowKit
attribute [local irreducible] Ext
attribute [local go_sem] run_store_float

/-- A whole number in its digits. -/
def dclS (n : Int) : ByteArray := if n < 0 then ⟨#[45]⟩ ++ decS n.natAbs (nd n.natAbs) else decS n.natAbs (nd n.natAbs)

theorem nd_le20 {u : Nat} (h : u < 18446744073709551616) : nd u ≤ 20 := nd_le 19 u (by rw [show (10 : Nat) ^ (19 + 1) = 100000000000000000000 from rfl]; omega)

set_option maxRecDepth 100000 in
theorem decimal_any (n : Int) (hn : -9223372036854775808 ≤ n ∧ n ≤ 9223372036854775807) (w : World) :
    Calls Tryd.prog 75 #[.int .i64 n] w fun e w' => e = .returned (.string (dclS n)) ∧ Ext w w' := by
  have HD := Lib.hid (digits_any n.natAbs (by omega))
  by_cases h : n < 0
  · have c1 : decide (n < 0) = true := decide_eq_true h
    obtain ⟨m, hm⟩ : ∃ m, n.natAbs = m := ⟨_, rfl⟩
    have e1 : IntKind.u64.wrap (-n) = (m : Int) := by rw [wrap_u64]; omega
    have e2 : IntKind.u64.wrap (0 - n) = (m : Int) := by rw [wrap_u64]; omega
    have e3 : IntKind.u64.wrap n = n + 18446744073709551616 := by rw [wrap_u64]; omega
    have e4 : IntKind.u64.wrap (0 - (n + 18446744073709551616)) = (m : Int) := by rw [wrap_u64]; omega
    have e5 : IntKind.u64.wrap (-(n + 18446744073709551616)) = (m : Int) := by rw [wrap_u64]; omega
    have hsz := decS_size m (nd m)
    have hnl := nd_le20 (u := m) (by omega)
    have hadd := fun W => run_string_add_sum (P := Tryd.prog) W ⟨#[45]⟩ (decS m (nd m)) (by rw [hsz]; show 1 + nd m ≤ _; omega)
    have HS := Lib.hid (show dclS n = ⟨#[45]⟩ ++ decS m (nd m) by unfold dclS; rw [if_pos h, hm])
    rw [hm] at HD
    generalize (⟨#[45]⟩ : ByteArray) ++ decS m (nd m) = S at hadd HS
    generalize decS m (nd m) = D at hadd HD
    clear hn hm hsz hnl h
    go_enter Tryd.func75, Tryd.ntmps75
    go_wp2_with (first
      | (go_at_call 89; (with_reducible refine (HD.out _).mono ?_); rintro e w8 ⟨rfl, hE8⟩)
      | fail)
    exact bodyPost_ret (v := .string S) (by simp [results, Tryd.f75, go_sem]) rfl ⟨by rw [HS.out], hE8⟩
  · have c1 : decide (n < 0) = false := decide_eq_false h
    obtain ⟨m, hm⟩ : ∃ m, n.natAbs = m := ⟨_, rfl⟩
    have e1 : IntKind.u64.wrap n = (m : Int) := by rw [wrap_u64]; omega
    have HS := Lib.hid (show dclS n = decS m (nd m) by unfold dclS; rw [if_neg h, hm])
    rw [hm] at HD
    generalize decS m (nd m) = D at HS HD
    clear hn hm h
    go_enter Tryd.func75, Tryd.ntmps75
    go_wp2_with (first
      | (go_at_call 89; (with_reducible refine (HD.out _).mono ?_); rintro e w8 ⟨rfl, hE8⟩)
      | fail)
    exact bodyPost_ret (v := .string D) (by simp [results, Tryd.f75, go_sem]) rfl ⟨by rw [HS.out], hE8⟩

end Go.Proofs.YtlpifchimnnfdaaDoor
