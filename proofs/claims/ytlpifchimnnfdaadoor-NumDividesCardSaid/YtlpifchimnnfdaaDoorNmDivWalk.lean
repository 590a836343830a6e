/- NumDivides' walk. -/
import Derived.Test.YtlpifchimnnfdaaDoorNmPair
import Derived.Test.YtlpifchimnnfdaaDoorNmOp
namespace Go.Proofs.YtlpifchimnnfdaaDoor
open Go.RowKit
attribute [local irreducible] Ext
attribute [local go_sem] run_store_float

theorem size_any (b : Int) (hb : -576460752303423488 < b ∧ b < 576460752303423488) (w : World) : Calls Tryd.prog 30 #[.int .i64 b] w fun e w' => e = .returned (.int .i64 (b.natAbs : Int)) ∧ w = w' := by
  by_cases h : b < 0
  · have c1 : decide (b < 0) = true := decide_eq_true h
    have e1 : IntKind.i64.wrap (0 - b) = (b.natAbs : Int) := by rw [IntWalk.i64_in _ (by omega)]; omega
    have e2 : IntKind.i64.wrap (-b) = (b.natAbs : Int) := by rw [IntWalk.i64_in _ (by omega)]; omega
    clear hb h
    go_enter Tryd.func30, Tryd.ntmps30
    go_wp2_with fail
    go_ret
    exact ⟨rfl, rfl⟩
  · have c1 : decide (b < 0) = false := decide_eq_false h
    have e1 : b = (b.natAbs : Int) := by omega
    have E1 := Lib.hid e1
    clear hb h e1
    go_enter Tryd.func30, Tryd.ntmps30
    go_wp2_with fail
    go_ret
    exact ⟨by rw [← E1.out]; rfl, rfl⟩

theorem inN {n : Int} (h : -576460752303423488 < n ∧ n < 576460752303423488) : numV 1 n 0 ⟨#[]⟩ 0 = true := by
  unfold numV
  rw [if_pos rfl, decide_eq_true rfl, decide_eq_true (by omega : -576460752303423488 ≤ n), decide_eq_true (by omega : n ≤ 576460752303423487)]
  rfl

theorem mkI_pos {n : Int} (h : -576460752303423488 ≤ n ∧ n ≤ 576460752303423487) : mkI n = nV 1 n 0 0 := by
  unfold mkI
  rw [if_pos h]

theorem mod_lt (a b : Int) (ha : -576460752303423488 < a ∧ a < 576460752303423488) : -576460752303423488 < a.tmod b ∧ a.tmod b < 576460752303423488 := by
  have h := Int.natAbs_tmod a b
  have h2 := Nat.mod_le a.natAbs b.natAbs
  omega

theorem div_lt (a b : Int) (ha : -576460752303423488 < a ∧ a < 576460752303423488) : -576460752303423488 < a.tdiv b ∧ a.tdiv b < 576460752303423488 := by
  have h := Int.natAbs_tdiv_le_natAbs a b
  omega

theorem op_div (a b : Int) (ha : -576460752303423488 < a ∧ a < 576460752303423488) (hb : -576460752303423488 < b ∧ b < 576460752303423488) (w : World) : Calls Tryd.prog 25 #[.string ⟨#[100, 105, 118]⟩, tV 1 a 0, tV 1 b 0] w fun e w' => e = .returned (if b = 0 then nV 0 0 0 11 else nV 1 (a.tdiv b) 0 0) ∧ Ext w w' := by
  have h := pop_good ⟨#[100, 105, 118]⟩ (by kernel_rfl) 1 a 0 ⟨#[]⟩ none 0 0 1 b 0 ⟨#[]⟩ none 0 0 (by decide) (by decide) w
  rw [inN ha, inN hb] at h
  have e : opV ⟨#[100, 105, 118]⟩ 1 a 0 true 1 b 0 true = dvV ⟨#[100, 105, 118]⟩ a b := by kernel_rfl
  rw [e] at h
  unfold dvV at h
  rw [if_pos (show ((⟨#[100, 105, 118]⟩ : ByteArray).toList == [100, 105, 118]) = true by kernel_rfl)] at h
  have hd := div_lt a b ha
  rw [mkI_pos (by omega)] at h
  exact h

theorem op_rem (a b : Int) (ha : -576460752303423488 < a ∧ a < 576460752303423488) (hb : -576460752303423488 < b ∧ b < 576460752303423488) (w : World) : Calls Tryd.prog 25 #[.string ⟨#[114, 101, 109]⟩, tV 1 a 0, tV 1 b 0] w fun e w' => e = .returned (if b = 0 then nV 0 0 0 11 else nV 1 (a.tmod b) 0 0) ∧ Ext w w' := by
  have h := pop_good ⟨#[114, 101, 109]⟩ (by kernel_rfl) 1 a 0 ⟨#[]⟩ none 0 0 1 b 0 ⟨#[]⟩ none 0 0 (by decide) (by decide) w
  rw [inN ha, inN hb] at h
  have e : opV ⟨#[114, 101, 109]⟩ 1 a 0 true 1 b 0 true = dvV ⟨#[114, 101, 109]⟩ a b := by kernel_rfl
  rw [e] at h
  unfold dvV at h
  rw [if_neg (show ¬ ((⟨#[114, 101, 109]⟩ : ByteArray).toList == [100, 105, 118]) = true by decide +kernel)] at h
  have hd := mod_lt a b ha
  rw [mkI_pos (by omega)] at h
  exact h

set_option maxRecDepth 100000 in
set_option maxHeartbeats 8000000 in
theorem numDiv_any (a0 b0 : Int) (_ : -9223372036854775808 ≤ a0 ∧ a0 ≤ 9223372036854775807) (_ : -9223372036854775808 ≤ b0 ∧ b0 ≤ 9223372036854775807) (w : World) (ht : Tab4 w) :
    Calls Tryd.prog 6 #[.int .i64 a0, .int .i64 b0] w fun e w' => e = .returned (.bool true) ∧ Ext w w' := by
  have hA : -576460752303423488 < a0.tmod 576460752303423488 ∧ a0.tmod 576460752303423488 < 576460752303423488 := by
    have h := Int.natAbs_tmod a0 576460752303423488
    have h2 := Nat.mod_lt a0.natAbs (show 0 < (576460752303423488 : Int).natAbs by decide)
    omega
  have hB : -576460752303423488 < b0.tmod 576460752303423488 ∧ b0.tmod 576460752303423488 < 576460752303423488 := by
    have h := Int.natAbs_tmod b0 576460752303423488
    have h2 := Nat.mod_lt b0.natAbs (show 0 < (576460752303423488 : Int).natAbs by decide)
    omega
  obtain ⟨A, eA⟩ : ∃ A, a0.tmod 576460752303423488 = A := ⟨_, rfl⟩
  obtain ⟨B, eB⟩ : ∃ B, b0.tmod 576460752303423488 = B := ⟨_, rfl⟩
  rw [eA] at hA
  rw [eB] at hB
  have wA : IntKind.i64.wrap A = A := IntWalk.i64_in _ (by omega)
  have wB : IntKind.i64.wrap B = B := IntWalk.i64_in _ (by omega)
  have hi := fun n w => i_any n w
  have hd := fun w => op_div A B hA hB w
  have hm := fun w => op_rem A B hA hB w
  unfold tV at hi hd hm
  have HA := Lib.hid hA
  have HB := Lib.hid hB
  have HI := Lib.hid hi
  have HK := Lib.hid (known_any w ht)
  by_cases hb : B = 0
  · rw [if_pos hb] at hd hm
    unfold nV at hd hm
    have HD := Lib.hid hd
    have HM := Lib.hid hm
    have c1 : decide (B = 0) = true := decide_eq_true hb
    have c1' : (B == 0) = true := by simpa using hb
    clear hA hB hi hd hm ht hb
    go_enter Tryd.func6, Tryd.ntmps6
    go_upto_region 7 with (first
      | (go_at_call 17; (with_reducible refine HK.out.mono ?_); rintro e w1 ⟨rfl, hE1⟩; have HE := Lib.hid hE1; clear hE1)
      | (go_at_call 27; (with_reducible refine (HI.out _ _).mono ?_); rintro e w2 ⟨rfl, hE2⟩; have HE := Lib.hid (HE.out.trans hE2); clear hE2)
      | (go_at_call 25; (with_reducible first | refine (HD.out _).mono ?_ | refine (HM.out _).mono ?_); rintro e w2 ⟨rfl, hE2⟩; have HE := Lib.hid ((HE.out.trans hE2).alloc (.cells #[.int .i64 0, .int .i64 0, .float .f64 0, .string ⟨#[]⟩, .slice none 0 0] 27)); clear hE2)
      | fail)
    go_wp2_with fail
    all_goals go_ret
    all_goals exact ⟨rfl, HE.out⟩
  · rw [if_neg hb] at hd hm
    have hq := div_lt A B hA
    have hr := mod_lt A B hA
    have hs := fun w => size_any B hB w
    have hid : A.tdiv B * B + A.tmod B = A := by
      have := Int.tmod_add_mul_tdiv A B
      rw [Int.mul_comm]
      omega
    have hlt : (A.tmod B).natAbs < B.natAbs := by
      rw [Int.natAbs_tmod]
      exact Nat.mod_lt _ (by omega)
    have hsg : A.tmod B ≠ 0 → (A.tmod B < 0 ↔ A < 0) := by
      intro hne
      constructor
      · intro h
        by_cases h0 : 0 ≤ A
        · have := Int.tmod_nonneg B h0
          omega
        · omega
      · intro h
        have h1 := Int.tmod_nonneg B (show 0 ≤ -A by omega)
        rw [Int.neg_tmod] at h1
        omega
    obtain ⟨q, eq⟩ : ∃ q, A.tdiv B = q := ⟨_, rfl⟩
    obtain ⟨r, er⟩ : ∃ r, A.tmod B = r := ⟨_, rfl⟩
    obtain ⟨P, eP⟩ : ∃ P, q * B = P := ⟨_, rfl⟩
    obtain ⟨Z, eZ⟩ : ∃ Z : Int, (B.natAbs : Int) = Z := ⟨_, rfl⟩
    rw [eq] at hq hid hd
    rw [er] at hr hid hlt hsg hm
    rw [eP] at hid
    rw [eZ] at hs
    have p1 : IntKind.i64.wrap P = P := IntWalk.i64_in _ (by omega)
    have p2 : IntKind.i64.wrap (P + r) = A := by rw [hid]; exact wA
    have p3 : IntKind.i64.wrap (-r) = -r := IntWalk.i64_in _ (by omega)
    have p4 : IntKind.i64.wrap (0 - r) = -r := by rw [Int.zero_sub]; exact p3
    have t1 : decide (r < Z) = true := decide_eq_true (by omega)
    have t2 : decide (-r < Z) = true := decide_eq_true (by omega)
    unfold nV at hd hm
    have HD := Lib.hid hd
    have HM := Lib.hid hm
    have HS := Lib.hid hs
    have HQ := Lib.hid hsg
    have c1 : decide (B = 0) = false := decide_eq_false hb
    have c1' : (B == 0) = false := by simpa using hb
    clear hA hB hi hd hm ht hb hq hr hid hlt hsg hs eq er eZ
    go_enter Tryd.func6, Tryd.ntmps6
    go_upto_region 6 with (first
      | (go_at_call 17; (with_reducible refine HK.out.mono ?_); rintro e w1 ⟨rfl, hE1⟩; have HE := Lib.hid hE1; clear hE1)
      | (go_at_call 27; (with_reducible refine (HI.out _ _).mono ?_); rintro e w2 ⟨rfl, hE2⟩; have HE := Lib.hid (HE.out.trans hE2); clear hE2)
      | (go_at_call 25; (with_reducible refine (HD.out _).mono ?_); rintro e w2 ⟨rfl, hE2⟩; have HE := Lib.hid (HE.out.trans hE2); clear hE2)
      | fail)
    obtain ⟨w3, hw3⟩ : ∃ w3, w2.alloc (.cells #[.int .i64 1, .int .i64 q, .float .f64 0, .string ⟨#[]⟩, .slice none 0 0] 27) = w3 := ⟨_, rfl⟩
    rw [hw3]
    have HW3 := Lib.hid hw3
    have HE3 := Lib.hid (Ext.refl w3)
    clear hw3
    go_upto_region 7 with (first
      | (go_at_call 27; (with_reducible refine (HI.out _ _).mono ?_); rintro e w4 ⟨rfl, hE4⟩; have HE3 := Lib.hid (HE3.out.trans hE4); clear hE4)
      | (go_at_call 25; (with_reducible refine (HM.out _).mono ?_); rintro e w4 ⟨rfl, hE4⟩; have HE3 := Lib.hid (HE3.out.trans hE4); clear hE4)
      | fail)
    obtain ⟨w5, hw5⟩ : ∃ w5, w4.alloc (.cells #[.int .i64 1, .int .i64 r, .float .f64 0, .string ⟨#[]⟩, .slice none 0 0] 27) = w5 := ⟨_, rfl⟩
    have H := Lib.hid (pair_new HE.out (HW3.out ▸ HE3.out) hw5)
    rw [hw5]
    clear hw5
    generalize w2.heap.size = b at H ⊢
    generalize w4.heap.size = c at H ⊢
    go_upto_region 11 with (fail)
    obtain ⟨_, a1, _, _, _⟩ := H.out.fa.cells
    obtain ⟨_, d1, _, _, _⟩ := H.out.fb.cells
    have hs := fun n => (HS.out (w5.drewN n)).mono (R' := fun e w' => e = .returned (.int .i64 Z) ∧ w' = w5.drewN n) (fun _ _ h => ⟨h.1, h.2.symm⟩)
    have HX := Lib.hid (fun n => H.out.ext.drewN n)
    by_cases hr0 : r = 0
    · have u1 : decide (r = 0) = true := decide_eq_true hr0
      have u1' : (r == 0) = true := by simpa using hr0
      clear hr0 eA eB HA HB HI HK HD HM HS HQ H HE HE3 HW3
      go_quiet ((go_at_call 30; exact Calls.quiet_of_same (hs _)))
      go_wp2_with fail
      go_ret
      exact ⟨rfl, HX.out _⟩
    · have u1 : decide (r = 0) = false := decide_eq_false hr0
      have u1' : (r == 0) = false := by simpa using hr0
      obtain ⟨s1, e1⟩ : ∃ s1, decide (r < 0) = s1 := ⟨_, rfl⟩
      have e2 : decide (A < 0) = s1 := by rw [← e1]; exact decide_eq_decide.2 (HQ.out hr0).symm
      clear hr0 eA eB HA HB HI HK HD HM HS HQ H HE HE3 HW3
      go_quiet ((go_at_call 30; exact Calls.quiet_of_same (hs _)))
      go_wp2_with fail
      go_ret
      exact ⟨by simp, HX.out _⟩

end Go.Proofs.YtlpifchimnnfdaaDoor
