/- Numbers: products of whole numbers, as the program has them. -/
import Derived.Test.YtlpifchimnnfdaaDoorNmBase
import Derived.Laws.MathBits
namespace Go.Proofs.YtlpifchimnnfdaaDoor
open Go.RowKit
attribute [local irreducible] Ext
attribute [local go_sem] run_store_float

theorem psize_any (n : Int) (hn : -576460752303423488 ≤ n ∧ n ≤ 576460752303423487) (w : World) : Calls Tryd.prog 77 #[.int .i64 n] w fun e w' => e = .returned (.int .u64 n.natAbs) ∧ w = w' := by
  by_cases h : n < 0
  · have b1 : decide (n < 0) = true := decide_eq_true h
    have HN := Lib.hid (show ((n.natAbs : Nat) : Int) = -n by omega)
    have e1 : IntKind.i64.wrap (-n) = -n := IntWalk.i64_in _ (by omega)
    have e2 : IntKind.u64.wrap (-n) = -n := by unfold IntKind.wrap; simp [IntKind.bits, IntKind.signed]; omega
    clear h
    go_enter Tryd.func77, Tryd.ntmps77
    go_wp2_with fail
    go_ret
    exact ⟨by rw [HN.out]; rfl, rfl⟩
  · have b1 : decide (n < 0) = false := decide_eq_false h
    have HN := Lib.hid (show ((n.natAbs : Nat) : Int) = n by omega)
    have e2 : IntKind.u64.wrap n = n := by unfold IntKind.wrap; simp [IntKind.bits, IntKind.signed]; omega
    clear h
    go_enter Tryd.func77, Tryd.ntmps77
    go_wp2_with fail
    go_ret
    exact ⟨by rw [HN.out]; rfl, rfl⟩

theorem wrap_u64 (z : Int) : IntKind.u64.wrap z = z % 18446744073709551616 := by
  unfold IntKind.wrap
  simp [IntKind.bits, IntKind.signed]

theorem run_shr (P : Program) (t : TypeId) (x c : Nat) (hc : c < 64) (w : World) : (binOp .shr t (.int .u64 x) (.int .u64 c)).run P w = .ok (.int .u64 ((x / 2 ^ c : Nat) : Int)) w := by
  have h : Op.shift .shr .u64 (x : Int) .u64 (c : Int) = pure (.int .u64 ((x / 2 ^ c : Nat) : Int)) := by
    unfold Op.shift
    rw [if_neg (by omega)]
    dsimp only
    rw [Int.toNat_natCast, show min c IntKind.u64.bits = c by simp [IntKind.bits]; omega, Int.fdiv_eq_ediv_of_nonneg _ (Int.le_of_lt (Int.pow_pos (by decide)))]
    rw [Int.natCast_ediv, Int.natCast_pow]
    rfl
  show (Op.shift .shr .u64 (x : Int) .u64 (c : Int)).run P w = _
  rw [h]
  rfl

theorem run_shl (P : Program) (t : TypeId) (x c : Nat) (hc : c < 64) (hx : x * 2 ^ c < 18446744073709551616) (w : World) : (binOp .shl t (.int .u64 x) (.int .u64 c)).run P w = .ok (.int .u64 ((x * 2 ^ c : Nat) : Int)) w := by
  have h : Op.shift .shl .u64 (x : Int) .u64 (c : Int) = pure (.int .u64 ((x * 2 ^ c : Nat) : Int)) := by
    unfold Op.shift
    rw [if_neg (by omega)]
    dsimp only
    rw [Int.toNat_natCast, show min c IntKind.u64.bits = c by simp [IntKind.bits]; omega, wrap_u64]
    have e : (x : Int) * 2 ^ c = ((x * 2 ^ c : Nat) : Int) := by rw [Int.natCast_mul, Int.natCast_pow]; rfl
    rw [e, Int.emod_eq_of_lt (by omega) (by omega)]
  show (Op.shift .shl .u64 (x : Int) .u64 (c : Int)).run P w = _
  rw [h]
  rfl

theorem ret_pair {k : IntKind} {x y x' y' : Int} (h1 : x = x') (h2 : y = y') : Ending.returned (.tuple #[.int k x, .int k y]) = .returned (.tuple #[.int k x', .int k y']) := by rw [h1, h2]

theorem mul64_any (a b : Int) (ha : 0 ≤ a ∧ a < 18446744073709551616) (hb : 0 ≤ b ∧ b < 18446744073709551616) (w : World) :
    Calls Tryd.prog 94 #[.int .u64 a, .int .u64 b] w fun e w' => e = .returned (.tuple #[.int .u64 (a * b / 18446744073709551616), .int .u64 (a * b % 18446744073709551616)]) ∧ w = w' := by
  have m1 := and_low32 a ha.1 ha.2
  have m2 := and_low32 b hb.1 hb.2
  have HW := Lib.hid wrap_u64
  have HM := Lib.hid (fun z => and_low32 (z % 18446744073709551616) (Int.emod_nonneg _ (by decide)) (Int.emod_lt_of_pos _ (by decide)))
  have HA := Lib.hid (mul64_arith a b ha.1 ha.2 hb.1 hb.2)
  clear ha hb
  go_enter Tryd.func94, Tryd.ntmps94
  go_wp2_with fail
  go_ret2
  refine ⟨ret_pair ?_ ?_, rfl⟩
  · simp only [HW.out, HM.out]
    exact HA.out
  · exact HW.out _

/-- A product is a number if it fits. -/
theorem ptimes_any (a b : Int) (ha : -576460752303423488 ≤ a ∧ a ≤ 576460752303423487) (hb : -576460752303423488 ≤ b ∧ b ≤ 576460752303423487) (w : World) :
    Calls Tryd.prog 83 #[.int .i64 a, .int .i64 b] w fun e w' => e = .returned (mkI (a * b)) ∧ Ext w w' := by
  obtain ⟨x, hx⟩ : ∃ x : Nat, a.natAbs = x := ⟨_, rfl⟩
  obtain ⟨y, hy⟩ : ∃ y : Nat, b.natAbs = y := ⟨_, rfl⟩
  have hsa := fun w => psize_any a ha w
  have hsb := fun w => psize_any b hb w
  rw [hx] at hsa
  rw [hy] at hsb
  obtain ⟨hi, hhi⟩ : ∃ z : Int, (x : Int) * y / 18446744073709551616 = z := ⟨_, rfl⟩
  obtain ⟨lo, hlo⟩ : ∃ z : Int, (x : Int) * y % 18446744073709551616 = z := ⟨_, rfl⟩
  have hmul := fun w => mul64_any (x : Int) (y : Int) (by omega) (by omega) w
  rw [hhi, hlo] at hmul
  have hp0 : (0 : Int) ≤ (x : Int) * y := Int.mul_nonneg (by omega) (by omega)
  have hmag : (a * b).natAbs = x * y := by rw [Int.natAbs_mul, hx, hy]
  have hcast : ((x * y : Nat) : Int) = (x : Int) * y := Int.natCast_mul x y
  have hsign : (0 ≤ a * b ∨ a * b = 0) → (decide (a < 0) != decide (b < 0)) = true → a * b = 0 := by
    intro h1 h2
    rcases h1 with h1 | h1
    · by_cases ha0 : a < 0 <;> by_cases hb0 : b < 0 <;> simp [ha0, hb0] at h2
      · by_cases hz : b = 0
        · rw [hz, Int.mul_zero]
        · have := Int.mul_neg_of_neg_of_pos ha0 (show 0 < b by omega)
          omega
      · by_cases hz : a = 0
        · rw [hz, Int.zero_mul]
        · have := Int.mul_neg_of_pos_of_neg (show 0 < a by omega) hb0
          omega
    · exact h1
  have hsame : (decide (a < 0) != decide (b < 0)) = false → 0 ≤ a * b := by
    intro h2
    by_cases ha0 : a < 0 <;> by_cases hb0 : b < 0 <;> simp [ha0, hb0] at h2
    · exact Int.le_of_lt (Int.mul_pos_of_neg_of_neg ha0 hb0)
    · exact Int.mul_nonneg (by omega) (by omega)
  obtain ⟨p, hp⟩ : ∃ p, a * b = p := ⟨_, rfl⟩
  rw [hp] at hmag hsign hsame ⊢
  have hbig : (0 < hi ∨ 4611686018427387904 < lo) → mkI p = nV 0 0 0 12 := by
    intro h
    unfold mkI
    rw [if_neg]
    omega
  have hsmall : ¬ 0 < hi → ¬ 4611686018427387904 < lo → ((p.natAbs : Nat) : Int) = lo := by
    intro h1 h2
    omega
  have hlo0 : 0 ≤ lo ∧ lo < 18446744073709551616 := by omega
  obtain ⟨w1, hw, hE, hz, _⟩ := zbox w
  have HW := Lib.hid hw
  obtain ⟨⟨g0, g1, g2, g3, g4⟩, ⟨a0, a1, a2, a3, a4⟩, s0, s1, s2, s3, s4⟩ := zfacts hz 0 0 0
  have HZ := Lib.hid hz
  unfold set5 at s0 s1 s2 s3 s4
  have HE := Lib.hid hE
  have HY := Lib.hid (ext_set5 hE (Nat.le_refl _) 0 0 0 ⟨#[]⟩ none 0 0)
  clear hw hE hz ha hb hx hy hhi hlo hp0 hmag hcast hp
  cases b1 : decide (0 < hi)
  · cases b2 : decide (4611686018427387904 < lo)
    · have hv := hsmall (of_decide_eq_false b1) (of_decide_eq_false b2)
      have hle : lo ≤ 4611686018427387904 := by have := of_decide_eq_false b2; omega
      have hi64 : IntKind.i64.wrap lo = lo := IntWalk.i64_in _ (by omega)
      have hn64 : IntKind.i64.wrap (-lo) = -lo := IntWalk.i64_in _ (by omega)
      have HC := Lib.hid (fun w => pint_any p w)
      obtain ⟨rk, rn, re, hmk⟩ := mkI_form p
      rw [hmk] at HC ⊢
      have hneg : (decide (a < 0) != decide (b < 0)) = true → -lo = p := by
        intro h
        by_cases h0 : 0 ≤ p
        · have := hsign (.inl h0) h
          omega
        · omega
      have hpos : (decide (a < 0) != decide (b < 0)) = false → lo = p := by
        intro h
        have := hsame h
        omega
      clear hbig hsmall hsign hsame hv hle hlo0 hmk s0 s1 s2 s3 s4 a0 a1 a2 a3 a4 g0 g1 g2 g3 g4 HY
      cases ca : decide (a < 0) <;> cases cb : decide (b < 0)
      all_goals rw [ca, cb] at hneg hpos
      · have HP := Lib.hid (hpos rfl)
        clear hneg hpos
        rw [← HP.out] at HC
        clear HP
        go_enter Tryd.func83, Tryd.ntmps83
        go_upto_region 1 with (fail)
        rw [HW.out]
        go_wp2_with (first
          | (go_at_call 77; (with_reducible refine (hsa _).mono ?_); rintro e wa ⟨rfl, rfl⟩)
          | (go_at_call 77; (with_reducible refine (hsb _).mono ?_); rintro e wa ⟨rfl, rfl⟩)
          | (go_at_call 94; (with_reducible refine (hmul _).mono ?_); rintro e wa ⟨rfl, rfl⟩)
          | fail)
        refine (HC.out w1).mono ?_
        rintro e w2 ⟨rfl, hE2⟩
        have hz2 := HZ.out.ext hE2
        obtain ⟨⟨g0, g1, g2, g3, g4⟩, ⟨a0, a1, a2, a3, a4⟩, s0, s1, s2, s3, s4⟩ := zfacts hz2 rk rn 0
        unfold set5 at s0 s1 s2 s3 s4
        have HX := Lib.hid (ext_set5 (HE.out.trans hE2) (Nat.le_refl _) rk rn 0 ⟨#[]⟩ none 0 0)
        unfold nV
        clear hz2 hE2
        go_wp2_with fail
        exact bodyPost_ret (v := nV rk rn 0 re) (by simp [results, nV, Tryd.f83, go_sem, s0, s1, s2, s3, s4]) rfl ⟨rfl, HX.out⟩
      · have HP := Lib.hid (hneg rfl)
        clear hneg hpos
        rw [← HP.out] at HC
        clear HP
        go_enter Tryd.func83, Tryd.ntmps83
        go_upto_region 1 with (fail)
        rw [HW.out]
        go_wp2_with (first
          | (go_at_call 77; (with_reducible refine (hsa _).mono ?_); rintro e wa ⟨rfl, rfl⟩)
          | (go_at_call 77; (with_reducible refine (hsb _).mono ?_); rintro e wa ⟨rfl, rfl⟩)
          | (go_at_call 94; (with_reducible refine (hmul _).mono ?_); rintro e wa ⟨rfl, rfl⟩)
          | fail)
        refine (HC.out w1).mono ?_
        rintro e w2 ⟨rfl, hE2⟩
        have hz2 := HZ.out.ext hE2
        obtain ⟨⟨g0, g1, g2, g3, g4⟩, ⟨a0, a1, a2, a3, a4⟩, s0, s1, s2, s3, s4⟩ := zfacts hz2 rk rn 0
        unfold set5 at s0 s1 s2 s3 s4
        have HX := Lib.hid (ext_set5 (HE.out.trans hE2) (Nat.le_refl _) rk rn 0 ⟨#[]⟩ none 0 0)
        unfold nV
        clear hz2 hE2
        go_wp2_with fail
        exact bodyPost_ret (v := nV rk rn 0 re) (by simp [results, nV, Tryd.f83, go_sem, s0, s1, s2, s3, s4]) rfl ⟨rfl, HX.out⟩
      · have HP := Lib.hid (hneg rfl)
        clear hneg hpos
        rw [← HP.out] at HC
        clear HP
        go_enter Tryd.func83, Tryd.ntmps83
        go_upto_region 1 with (fail)
        rw [HW.out]
        go_wp2_with (first
          | (go_at_call 77; (with_reducible refine (hsa _).mono ?_); rintro e wa ⟨rfl, rfl⟩)
          | (go_at_call 77; (with_reducible refine (hsb _).mono ?_); rintro e wa ⟨rfl, rfl⟩)
          | (go_at_call 94; (with_reducible refine (hmul _).mono ?_); rintro e wa ⟨rfl, rfl⟩)
          | fail)
        refine (HC.out w1).mono ?_
        rintro e w2 ⟨rfl, hE2⟩
        have hz2 := HZ.out.ext hE2
        obtain ⟨⟨g0, g1, g2, g3, g4⟩, ⟨a0, a1, a2, a3, a4⟩, s0, s1, s2, s3, s4⟩ := zfacts hz2 rk rn 0
        unfold set5 at s0 s1 s2 s3 s4
        have HX := Lib.hid (ext_set5 (HE.out.trans hE2) (Nat.le_refl _) rk rn 0 ⟨#[]⟩ none 0 0)
        unfold nV
        clear hz2 hE2
        go_wp2_with fail
        exact bodyPost_ret (v := nV rk rn 0 re) (by simp [results, nV, Tryd.f83, go_sem, s0, s1, s2, s3, s4]) rfl ⟨rfl, HX.out⟩
      · have HP := Lib.hid (hpos rfl)
        clear hneg hpos
        rw [← HP.out] at HC
        clear HP
        go_enter Tryd.func83, Tryd.ntmps83
        go_upto_region 1 with (fail)
        rw [HW.out]
        go_wp2_with (first
          | (go_at_call 77; (with_reducible refine (hsa _).mono ?_); rintro e wa ⟨rfl, rfl⟩)
          | (go_at_call 77; (with_reducible refine (hsb _).mono ?_); rintro e wa ⟨rfl, rfl⟩)
          | (go_at_call 94; (with_reducible refine (hmul _).mono ?_); rintro e wa ⟨rfl, rfl⟩)
          | fail)
        refine (HC.out w1).mono ?_
        rintro e w2 ⟨rfl, hE2⟩
        have hz2 := HZ.out.ext hE2
        obtain ⟨⟨g0, g1, g2, g3, g4⟩, ⟨a0, a1, a2, a3, a4⟩, s0, s1, s2, s3, s4⟩ := zfacts hz2 rk rn 0
        unfold set5 at s0 s1 s2 s3 s4
        have HX := Lib.hid (ext_set5 (HE.out.trans hE2) (Nat.le_refl _) rk rn 0 ⟨#[]⟩ none 0 0)
        unfold nV
        clear hz2 hE2
        go_wp2_with fail
        exact bodyPost_ret (v := nV rk rn 0 re) (by simp [results, nV, Tryd.f83, go_sem, s0, s1, s2, s3, s4]) rfl ⟨rfl, HX.out⟩
    · have HB := Lib.hid (hbig (.inr (of_decide_eq_true b2)))
      clear hbig hsmall hsign hsame hlo0
      go_enter Tryd.func83, Tryd.ntmps83
      go_upto_region 1 with (fail)
      rw [HW.out]
      go_wp2_with (first
        | (go_at_call 77; (with_reducible refine (hsa _).mono ?_); rintro e wa ⟨rfl, rfl⟩)
        | (go_at_call 77; (with_reducible refine (hsb _).mono ?_); rintro e wa ⟨rfl, rfl⟩)
        | (go_at_call 94; (with_reducible refine (hmul _).mono ?_); rintro e wa ⟨rfl, rfl⟩)
        | fail)
      exact bodyPost_ret (v := nV 0 0 0 12) (by simp [results, nV, Tryd.f83, go_sem, s0, s1, s2, s3, s4]) rfl ⟨by rw [HB.out], HY.out⟩
  · have HB := Lib.hid (hbig (.inl (of_decide_eq_true b1)))
    clear hbig hsmall hsign hsame hlo0
    go_enter Tryd.func83, Tryd.ntmps83
    go_upto_region 1 with (fail)
    rw [HW.out]
    go_wp2_with (first
      | (go_at_call 77; (with_reducible refine (hsa _).mono ?_); rintro e wa ⟨rfl, rfl⟩)
      | (go_at_call 77; (with_reducible refine (hsb _).mono ?_); rintro e wa ⟨rfl, rfl⟩)
      | (go_at_call 94; (with_reducible refine (hmul _).mono ?_); rintro e wa ⟨rfl, rfl⟩)
      | fail)
    exact bodyPost_ret (v := nV 0 0 0 12) (by simp [results, nV, Tryd.f83, go_sem, s0, s1, s2, s3, s4]) rfl ⟨by rw [HB.out], HY.out⟩

end Go.Proofs.YtlpifchimnnfdaaDoor
