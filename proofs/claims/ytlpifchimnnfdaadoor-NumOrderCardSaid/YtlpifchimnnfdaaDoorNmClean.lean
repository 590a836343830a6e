/- Numbers' laws: is a term a right number, all else being zero? -/
import Derived.Test.YtlpifchimnnfdaaDoorNmSlot
namespace Go.Proofs.YtlpifchimnnfdaaDoor
open Go.RowKit
attribute [local irreducible] Ext
attribute [local go_sem] run_store_float

/-- The law's right. -/
def rightB (k n : Int) (f : Nat) : Bool := if k = 1 then decide (-576460752303423488 ≤ n) && decide (n ≤ 576460752303423487) else decide (k = 2) && finF f

theorem right_any (k n : Int) (f : Nat) (s : ByteArray) (so : Option Addr) (m cap : Nat) (w : World) :
    Calls Tryd.prog 29 #[.agg #[.int .i64 k, .int .i64 n, .float .f64 f, .string s, .slice so m cap]] w fun e w' => e = .returned (.bool (rightB k n f)) ∧ Ext w w' := by
  have hE := (Ext.refl w).alloc (.cells #[.int .i64 k, .int .i64 n, .float .f64 f, .string s, .slice so m cap] 27)
  have hB := RBox.new w k n f s so m cap
  obtain ⟨w1, hw⟩ : ∃ w1, w.alloc (.cells #[.int .i64 k, .int .i64 n, .float .f64 f, .string s, .slice so m cap] 27) = w1 := ⟨_, rfl⟩
  rw [hw] at hE hB
  obtain ⟨c0, c1, c2, c3, c4⟩ := hB.cells
  have HW := Lib.hid hw
  have HE := Lib.hid hE
  clear hw hE hB
  unfold rightB
  by_cases h1 : k = 1
  · rw [if_pos h1]
    have b1 : (k == 1) = true := by simpa using h1
    obtain ⟨x, hx⟩ : ∃ x, decide (-576460752303423488 ≤ n) = x := ⟨_, rfl⟩
    obtain ⟨y, hy⟩ : ∃ y, decide (n ≤ 576460752303423487) = y := ⟨_, rfl⟩
    rw [hx, hy]
    clear h1
    cases x <;> cases y
    all_goals
      go_enter Tryd.func29, Tryd.ntmps29
      go_upto_region 1 with (fail)
      rw [HW.out]
      go_wp2_with fail
      go_ret
      exact ⟨rfl, HE.out⟩
  · rw [if_neg h1]
    have b1 : (k == 1) = false := beq_eq_false_iff_ne.2 h1
    by_cases h2 : k = 2
    · rw [decide_eq_true h2]
      have b2 : (k == 2) = true := by simpa using h2
      obtain ⟨r, w2, hrun, hord, hE2⟩ := run_sub_self Tryd.prog 24 f w1
      obtain ⟨y, hy⟩ : ∃ y, finF f = y := ⟨_, rfl⟩
      rw [hy] at hord ⊢
      have HX := Lib.hid (HE.out.trans hE2)
      clear h1 h2 hE2
      cases y
      all_goals
        go_enter Tryd.func29, Tryd.ntmps29
        go_upto_region 1 with (fail)
        rw [HW.out]
        go_wp2_with fail
        go_ret
        exact ⟨rfl, HX.out⟩
    · rw [decide_eq_false h2]
      have b2 : (k == 2) = false := beq_eq_false_iff_ne.2 h2
      clear h1 h2
      go_enter Tryd.func29, Tryd.ntmps29
      go_upto_region 1 with (fail)
      rw [HW.out]
      go_wp2_with fail
      go_ret
      exact ⟨rfl, HE.out⟩

set_option maxRecDepth 100000 in
set_option maxHeartbeats 4000000 in
theorem clean_any (k n : Int) (f : Nat) (s : ByteArray) (so : Option Addr) (m cap : Nat) (w : World) :
    Calls Tryd.prog 33 #[.agg #[.int .i64 k, .int .i64 n, .float .f64 f, .string s, .slice so m cap]] w fun e w' => e = .returned (.bool (numV k n f s m)) ∧ Ext w w' := by
  have hE := (Ext.refl w).alloc (.cells #[.int .i64 k, .int .i64 n, .float .f64 f, .string s, .slice so m cap] 27)
  have hB := RBox.new w k n f s so m cap
  obtain ⟨w1, hw⟩ : ∃ w1, w.alloc (.cells #[.int .i64 k, .int .i64 n, .float .f64 f, .string s, .slice so m cap] 27) = w1 := ⟨_, rfl⟩
  rw [hw] at hE hB
  obtain ⟨c0, c1, c2, c3, c4⟩ := hB.cells
  have HW := Lib.hid hw
  have HE := Lib.hid hE
  have HB := Lib.hid hB
  have HR := Lib.hid (fun w => right_any k n f s so m cap w)
  have hbits := run_bits f
  clear hw hE hB
  by_cases hs : s = ⟨#[]⟩
  · subst hs
    by_cases hm : m = 0
    · subst hm
      cases hr : rightB k n f
      · have hN : numV k n f ⟨#[]⟩ 0 = false := by
          cases h : numV k n f ⟨#[]⟩ 0 with
          | false => rfl
          | true =>
            obtain ⟨_, _, ⟨rfl, _, h1, h2⟩ | ⟨rfl, _, h1⟩⟩ := numV_shape h
            · unfold rightB at hr
              rw [if_pos rfl, decide_eq_true h1, decide_eq_true h2] at hr
              cases hr
            · unfold rightB at hr
              rw [if_neg (by decide), h1] at hr
              cases hr
        rw [hN]
        rw [hr] at HR
        clear hN hr
        go_enter Tryd.func33, Tryd.ntmps33
        go_upto_region 1 with (fail)
        rw [HW.out]
        go_wp2_with (first
          | (go_at_call 29; (with_reducible refine (HR.out _).mono ?_); rintro e w2 ⟨rfl, hE2⟩; have HE2 := Lib.hid (HE.out.trans hE2); clear hE2)
          | fail)
        go_ret
        exact ⟨rfl, HE2.out⟩
      · rw [hr] at HR
        by_cases h1 : k = 1
        · have b1 : (k == 1) = true := by simpa using h1
          have b2 : (k == 2) = false := by subst h1; rfl
          obtain ⟨y, hy⟩ : ∃ y, decide (f = 0) = y := ⟨_, rfl⟩
          have b3 : ((f : Int) == 0) = y := by rw [int_zero, hy]
          have hN : numV k n f ⟨#[]⟩ 0 = y := by
            unfold rightB at hr
            rw [if_pos h1] at hr
            unfold numV
            rw [if_pos h1, decide_eq_true rfl, decide_eq_true rfl, Bool.true_and, Bool.true_and, hr, hy, Bool.true_and]
          rw [hN]
          clear hN hr h1 hy
          cases y
          all_goals
            go_enter Tryd.func33, Tryd.ntmps33
            go_upto_region 1 with (fail)
            rw [HW.out]
            go_wp2_with (first
              | (go_at_call 29; (with_reducible refine (HR.out _).mono ?_); rintro e w2 ⟨rfl, hE2⟩; have HE2 := Lib.hid (HE.out.trans hE2); (obtain ⟨d0, d1, d2, d3, d4⟩ := (HB.out.ext hE2).cells); clear hE2)
              | fail)
            go_ret
            exact ⟨rfl, HE2.out⟩
        · have h2 : k = 2 ∧ finF f = true := by
            unfold rightB at hr
            rw [if_neg h1] at hr
            simpa using hr
          have b1 : (k == 1) = false := beq_eq_false_iff_ne.2 h1
          have b2 : (k == 2) = true := by simpa using h2.1
          obtain ⟨y, hy⟩ : ∃ y, decide (n = 0) = y := ⟨_, rfl⟩
          have b3 : (n == 0) = y := by rw [← hy, Bool.eq_iff_iff]; simp
          have hN : numV k n f ⟨#[]⟩ 0 = y := by
            unfold numV
            rw [if_neg h1, if_pos h2.1, decide_eq_true rfl, decide_eq_true rfl, h2.2, hy, Bool.and_true]
            rfl
          rw [hN]
          clear hN hr h1 h2 hy
          cases y
          all_goals
            go_enter Tryd.func33, Tryd.ntmps33
            go_upto_region 1 with (fail)
            rw [HW.out]
            go_wp2_with (first
              | (go_at_call 29; (with_reducible refine (HR.out _).mono ?_); rintro e w2 ⟨rfl, hE2⟩; have HE2 := Lib.hid (HE.out.trans hE2); (obtain ⟨d0, d1, d2, d3, d4⟩ := (HB.out.ext hE2).cells); clear hE2)
              | fail)
            go_ret
            exact ⟨rfl, HE2.out⟩
    · have e1 : ((m : Int) == 0) = false := by rw [int_zero]; exact decide_eq_false hm
      have e2 : ((m : Int) != 0) = true := by rw [bne, e1]; rfl
      have hN : numV k n f ⟨#[]⟩ m = false := by
        unfold numV
        rw [decide_eq_false hm]
        simp
      rw [hN]
      clear hN hm
      go_enter Tryd.func33, Tryd.ntmps33
      go_upto_region 1 with (fail)
      rw [HW.out]
      go_wp2_with fail
      go_ret
      exact ⟨rfl, HE.out⟩
  · have hs1 : ¬ s.toList = [] := fun h => hs ((str_nil s).1 h)
    have hs2 : s.toList.isEmpty = false := by
      cases hl : s.toList with
      | nil => exact absurd hl hs1
      | cons _ _ => rfl
    have hN : numV k n f s m = false := by
      unfold numV
      rw [decide_eq_false hs]
      simp
    rw [hN]
    clear hN hs
    go_enter Tryd.func33, Tryd.ntmps33
    go_upto_region 1 with (fail)
    rw [HW.out]
    go_wp2_with fail
    go_ret
    exact ⟨rfl, HE.out⟩

end Go.Proofs.YtlpifchimnnfdaaDoor
