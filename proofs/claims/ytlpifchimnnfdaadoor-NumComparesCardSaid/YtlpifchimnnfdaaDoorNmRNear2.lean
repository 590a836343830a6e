/- Numbers: the document's nearest float, the walk. -/
import Derived.Test.YtlpifchimnnfdaaDoorNmRNear
namespace Go.Proofs.YtlpifchimnnfdaaDoor
open Go.RowKit
attribute [local irreducible] Ext
attribute [local go_sem] run_store_float

theorem kind_small {c : Nat} (h : c < 64) : IntKind.u64.wrap (c : Int) = (c : Int) := by
  rw [wrap_u64]
  omega

set_option maxRecDepth 100000 in
set_option maxHeartbeats 4000000 in
theorem rnear_great (n : Int) (h : n ≤ -9007199254740992 ∨ 9007199254740992 ≤ n) (h64 : -9223372036854775808 ≤ n ∧ n ≤ 9223372036854775807) (w : World) : Calls Tryd.prog 39 #[.int .i64 n] w fun e w' => e = .returned (.float .f64 (nearF n)) ∧ w = w' := by
  obtain ⟨u, hu⟩ : ∃ u : Nat, n.natAbs = u := ⟨_, rfl⟩
  have hu1 : 9007199254740992 ≤ u := by omega
  have hu2 : u ≤ 9223372036854775808 := by omega
  obtain ⟨s, hs1, hs2, hp1, hp2⟩ := great_shift hu1 hu2
  have HEND := Lib.hid (near_end hu (by omega) hp1 hp2 (by omega) hs2)
  have HTEST := Lib.hid (fun j (hj : j ≤ s) => shift_test hp1 hp2 hj)
  have HU := Lib.hid (And.intro hu1 (And.intro hu2 (And.intro hp1 hp2)))
  have hn53 : (decide (-9007199254740992 < n) && decide (n < 9007199254740992)) = false := by
    rcases h with h | h
    · rw [decide_eq_false (by omega)]; rfl
    · rw [decide_eq_false (show ¬ n < 9007199254740992 by omega), Bool.and_false]
  have hwu : IntKind.u64.wrap n = if n < 0 then ((18446744073709551616 - u : Nat) : Int) else (u : Int) := by
    rw [wrap_u64]
    split <;> omega
  have hwn : IntKind.u64.wrap (-((18446744073709551616 - u : Nat) : Int)) = (u : Int) := by
    rw [wrap_u64]
    omega
  obtain ⟨v, hv⟩ : ∃ v : Nat, 18446744073709551616 - u = v := ⟨_, rfl⟩
  rw [hv] at hwu hwn
  have hsplit : (n < 0 ∧ decide (-9007199254740992 < n) = false) ∨ (0 ≤ n ∧ decide (-9007199254740992 < n) = true ∧ decide (n < 9007199254740992) = false) := by
    rcases h with h | h
    · exact .inl ⟨by omega, decide_eq_false (by omega)⟩
    · exact .inr ⟨by omega, decide_eq_true (by omega), decide_eq_false (by omega)⟩
  have HS := Lib.hid (And.intro hs1 hs2)
  clear h h64 hu hu1 hu2 hp1 hp2 hv hn53 hs1 hs2
  rcases hsplit with ⟨h0, c1⟩ | ⟨h0, c1, c2⟩
  · have b0 : decide (n < 0) = true := decide_eq_true h0
    rw [if_pos h0] at hwu
    have HE := Lib.hid (HEND.out.2 h0)
    clear HEND h0
    go_enter Tryd.func39, Tryd.ntmps39
    go_upto_region 8 with (fail)
    go_loopg [5] s (fun g x wr => ∃ j : Nat, j + g = s ∧ x = .int .i64 j ∧ w = wr)
    case atStart => exact ⟨0, by omega, rfl, rfl⟩
    case round =>
      obtain ⟨j, hj, rfl, rfl⟩ := hrel
      have hj64 : j < 64 := by have := HS.out; omega
      have hk := kind_small hj64
      have ht := HTEST.out j (by omega)
      obtain ⟨q, hq⟩ : ∃ q, u / 2 ^ j = q := ⟨_, rfl⟩
      have hq2 : (u : Int) / 2 ^ j = (q : Int) := by rw [← hq]; rfl
      rw [hq] at ht
      by_cases hlt : j < s
      · have c3 : (9007199254740992 : Int) ≤ (q : Int) := by have := ht.2 hlt; omega
        have e3 : IntKind.i64.wrap ((j : Int) + 1) = ((j + 1 : Nat) : Int) := by rw [IntWalk.i64_in _ (by omega)]; rfl
        have HJ := Lib.hid hlt
        clear ht hq hlt
        go_wp2_with fail
        go_roundg (s - j - 1)
        case measure => have := HJ.out; omega
        case rel => exact ⟨j + 1, by have := HJ.out; omega, rfl, rfl⟩
      · have c3 : (q : Int) < 9007199254740992 := by
          by_cases h : (9007199254740992 : Int) ≤ (q : Int)
          · exact absurd (ht.1 (by omega)) hlt
          · omega
        obtain rfl : j = s := by omega
        have hqr := Nat.div_add_mod u (2 ^ j)
        rw [hq] at hqr
        obtain ⟨P, hP⟩ : ∃ P, 2 ^ j = P := ⟨_, rfl⟩
        obtain ⟨r, hr⟩ : ∃ r, u % P = r := ⟨_, rfl⟩
        have hP2 : (2 : Int) ^ j = (P : Int) := by rw [← hP, Int.natCast_pow]; rfl
        rw [hP, hr] at hqr
        have hPb : P ≤ 2048 := by rw [← hP]; have := HS.out; exact Nat.le_trans (Nat.pow_le_pow_right (by decide) (show j ≤ 11 by omega)) (by decide)
        rw [hP2] at hq2
        have HQR := Lib.hid (And.intro hqr (And.intro hPb (And.intro hP (And.intro hq hr))))
        have HC := Lib.hid (show decide ((9007199254740992 : Int) ≤ (q : Int)) = false from decide_eq_false (by omega))
        have HC3 := Lib.hid (show q < 9007199254740992 by omega)
        clear ht hlt hqr hP hr hq hPb c3
        go_upto_if 30 with (fail)
        rw [HC.out]
        obtain ⟨M, hM⟩ : ∃ M, q * P = M := ⟨_, rfl⟩
        obtain ⟨h, hh⟩ : ∃ h, P / 2 = h := ⟨_, rfl⟩
        have hM2 : (q : Int) * (P : Int) = (M : Int) := by rw [← hM, Int.natCast_mul]
        have hMr : M + r = u := by rw [← hM, Nat.mul_comm]; exact HQR.out.1
        have e5 : IntKind.u64.wrap (M : Int) = (M : Int) := by rw [wrap_u64]; have := HU.out; omega
        have e6 : IntKind.u64.wrap ((u : Int) - (M : Int)) = (r : Int) := by rw [wrap_u64]; have := HU.out; omega
        have e7 : IntKind.u64.wrap (P : Int) = (P : Int) := by rw [wrap_u64]; have := HQR.out.2.1; omega
        have e8 : (P : Int) / 2 = (h : Int) := by rw [← hh]; omega
        have HM := Lib.hid (And.intro hM (And.intro hh hMr))
        clear hM hh hMr
        go_upto_region 13 with (fail)
        clear e5 e6 e7 e8 hM2 hq2 hP2
        have HQR2 := Lib.hid (show u / P = q by have := HQR.out; rw [← this.2.2.1]; exact this.2.2.2.1)
        have htop : top u j = q + (if h < r ∨ r = h ∧ 0 < j ∧ q % 2 = 1 then 1 else 0) := by
          unfold top
          rw [HQR.out.2.2.1, HQR.out.2.2.2.2, HM.out.2.1, HQR2.out]
        have hj0 : 0 < j := by have := HS.out; omega
        obtain ⟨tt, htt⟩ : ∃ tt, top u j = tt := ⟨_, rfl⟩
        rw [htt] at htop
        have HT := Lib.hid htt
        have HB := Lib.hid (show 4503599627370496 ≤ tt ∧ tt ≤ 9007199254740992 by have h := near_top HU.out.2.2.1 HU.out.2.2.2 hj0 (by have := HS.out; omega) false; rw [htt] at h; exact ⟨h.2.2, h.2.1⟩)
        have c5 : decide ((0 : Int) < (j : Int)) = true := decide_eq_true (by omega)
        have c5' : decide (0 < j) = true := decide_eq_true hj0
        clear htt
        by_cases t1 : h < r
        · have c1 : decide ((h : Int) < (r : Int)) = true := decide_eq_true (by omega)
          have c1' : decide (h < r) = true := decide_eq_true t1
          rw [if_pos (.inl t1)] at htop
          have e9 : IntKind.u64.wrap ((q : Int) + 1) = (tt : Int) := by rw [wrap_u64]; have := HC3.out; omega
          clear htop t1 hj0
          go_upto_region 15 with (fail)
          clear c5 c5'
          obtain ⟨hb1, hb2⟩ := HB.out
          have hcv : floatOfInt .f64 (tt : Int) = dblF tt 0 := (nearF_eq _).trans (dblF_zero (by omega))
          clear hb1 hb2
          go_wp2_with fail
          go_loopg [9, 10] j (fun g x y wr => ∃ k : Nat, k + g = j ∧ x = .float .f64 (dblF tt k) ∧ y = .int .i64 k ∧ w = wr)
          case atStart => exact ⟨0, by omega, rfl, rfl, rfl⟩
          case round =>
            obtain ⟨k, hk, rfl, rfl, rfl⟩ := hrel
            by_cases hlt : k < j
            · have d1 : decide ((k : Int) < (j : Int)) = true := decide_eq_true (by omega)
              have d1' : decide (k < j) = true := decide_eq_true hlt
              have hrun := fun w => run_float_arith (P := Tryd.prog) w .mul 24 .f64 (dblF tt k) 4611686018427387904 (dblF tt (k + 1)) (double_step HB.out.2 (by have := HS.out; omega) HB.out.1).2
              have e3 : IntKind.i64.wrap ((k : Int) + 1) = ((k + 1 : Nat) : Int) := by rw [IntWalk.i64_in _ (by have := HS.out; omega)]; rfl
              have HK := Lib.hid hlt
              clear hlt
              go_wp2_with fail
              go_roundg (j - k - 1)
              case measure => have := HK.out; omega
              case rel => exact ⟨k + 1, by have := HK.out; omega, rfl, rfl, rfl⟩
            · have d1 : decide ((k : Int) < (j : Int)) = false := decide_eq_false (by omega)
              have d1' : decide (k < j) = false := decide_eq_false hlt
              obtain rfl : k = j := by omega
              have hrun := fun w => run_float_arith (P := Tryd.prog) w .sub 24 .f64 0 (dblF tt k) (nearF n) (by have h := HE.out; rw [HT.out] at h; exact h)
              clear hlt
              go_wp2_with fail
              go_ret
              exact ⟨rfl, rfl⟩
        · have c1 : decide ((h : Int) < (r : Int)) = false := decide_eq_false (by omega)
          have c1' : decide (h < r) = false := decide_eq_false t1
          by_cases t2 : r = h
          · have c2 : ((r : Int) == (h : Int)) = true := beq_iff_eq.2 (by omega)
            have c2' : decide (r = h) = true := decide_eq_true t2
            by_cases t3 : q % 2 = 1
            · have c4 : ((q : Int) % 2 == 1) = true := beq_iff_eq.2 (by omega)
              rw [if_pos (.inr ⟨t2, hj0, t3⟩)] at htop
              have e9 : IntKind.u64.wrap ((q : Int) + 1) = (tt : Int) := by rw [wrap_u64]; have := HC3.out; omega
              clear htop t1 t2 t3 hj0
              go_upto_region 15 with (fail)
              clear c5 c5'
              obtain ⟨hb1, hb2⟩ := HB.out
              have hcv : floatOfInt .f64 (tt : Int) = dblF tt 0 := (nearF_eq _).trans (dblF_zero (by omega))
              clear hb1 hb2
              go_wp2_with fail
              go_loopg [9, 10] j (fun g x y wr => ∃ k : Nat, k + g = j ∧ x = .float .f64 (dblF tt k) ∧ y = .int .i64 k ∧ w = wr)
              case atStart => exact ⟨0, by omega, rfl, rfl, rfl⟩
              case round =>
                obtain ⟨k, hk, rfl, rfl, rfl⟩ := hrel
                by_cases hlt : k < j
                · have d1 : decide ((k : Int) < (j : Int)) = true := decide_eq_true (by omega)
                  have d1' : decide (k < j) = true := decide_eq_true hlt
                  have hrun := fun w => run_float_arith (P := Tryd.prog) w .mul 24 .f64 (dblF tt k) 4611686018427387904 (dblF tt (k + 1)) (double_step HB.out.2 (by have := HS.out; omega) HB.out.1).2
                  have e3 : IntKind.i64.wrap ((k : Int) + 1) = ((k + 1 : Nat) : Int) := by rw [IntWalk.i64_in _ (by have := HS.out; omega)]; rfl
                  have HK := Lib.hid hlt
                  clear hlt
                  go_wp2_with fail
                  go_roundg (j - k - 1)
                  case measure => have := HK.out; omega
                  case rel => exact ⟨k + 1, by have := HK.out; omega, rfl, rfl, rfl⟩
                · have d1 : decide ((k : Int) < (j : Int)) = false := decide_eq_false (by omega)
                  have d1' : decide (k < j) = false := decide_eq_false hlt
                  obtain rfl : k = j := by omega
                  have hrun := fun w => run_float_arith (P := Tryd.prog) w .sub 24 .f64 0 (dblF tt k) (nearF n) (by have h := HE.out; rw [HT.out] at h; exact h)
                  clear hlt
                  go_wp2_with fail
                  go_ret
                  exact ⟨rfl, rfl⟩
            · have c4 : ((q : Int) % 2 == 1) = false := beq_eq_false_iff_ne.2 (by omega)
              rw [if_neg (by rintro (a | a) <;> omega), Nat.add_zero] at htop
              subst htop
              clear t1 t2 t3 hj0
              go_upto_region 15 with (fail)
              clear c5 c5'
              obtain ⟨hb1, hb2⟩ := HB.out
              have hcv : floatOfInt .f64 (tt : Int) = dblF tt 0 := (nearF_eq _).trans (dblF_zero (by omega))
              clear hb1 hb2
              go_wp2_with fail
              go_loopg [9, 10] j (fun g x y wr => ∃ k : Nat, k + g = j ∧ x = .float .f64 (dblF tt k) ∧ y = .int .i64 k ∧ w = wr)
              case atStart => exact ⟨0, by omega, rfl, rfl, rfl⟩
              case round =>
                obtain ⟨k, hk, rfl, rfl, rfl⟩ := hrel
                by_cases hlt : k < j
                · have d1 : decide ((k : Int) < (j : Int)) = true := decide_eq_true (by omega)
                  have d1' : decide (k < j) = true := decide_eq_true hlt
                  have hrun := fun w => run_float_arith (P := Tryd.prog) w .mul 24 .f64 (dblF tt k) 4611686018427387904 (dblF tt (k + 1)) (double_step HB.out.2 (by have := HS.out; omega) HB.out.1).2
                  have e3 : IntKind.i64.wrap ((k : Int) + 1) = ((k + 1 : Nat) : Int) := by rw [IntWalk.i64_in _ (by have := HS.out; omega)]; rfl
                  have HK := Lib.hid hlt
                  clear hlt
                  go_wp2_with fail
                  go_roundg (j - k - 1)
                  case measure => have := HK.out; omega
                  case rel => exact ⟨k + 1, by have := HK.out; omega, rfl, rfl, rfl⟩
                · have d1 : decide ((k : Int) < (j : Int)) = false := decide_eq_false (by omega)
                  have d1' : decide (k < j) = false := decide_eq_false hlt
                  obtain rfl : k = j := by omega
                  have hrun := fun w => run_float_arith (P := Tryd.prog) w .sub 24 .f64 0 (dblF tt k) (nearF n) (by have h := HE.out; rw [HT.out] at h; exact h)
                  clear hlt
                  go_wp2_with fail
                  go_ret
                  exact ⟨rfl, rfl⟩
          · have c2 : ((r : Int) == (h : Int)) = false := beq_eq_false_iff_ne.2 (by omega)
            have c2' : decide (r = h) = false := decide_eq_false t2
            rw [if_neg (by rintro (a | a) <;> omega), Nat.add_zero] at htop
            subst htop
            clear t1 t2 hj0
            go_upto_region 15 with (fail)
            clear c5 c5'
            obtain ⟨hb1, hb2⟩ := HB.out
            have hcv : floatOfInt .f64 (tt : Int) = dblF tt 0 := (nearF_eq _).trans (dblF_zero (by omega))
            clear hb1 hb2
            go_wp2_with fail
            go_loopg [9, 10] j (fun g x y wr => ∃ k : Nat, k + g = j ∧ x = .float .f64 (dblF tt k) ∧ y = .int .i64 k ∧ w = wr)
            case atStart => exact ⟨0, by omega, rfl, rfl, rfl⟩
            case round =>
              obtain ⟨k, hk, rfl, rfl, rfl⟩ := hrel
              by_cases hlt : k < j
              · have d1 : decide ((k : Int) < (j : Int)) = true := decide_eq_true (by omega)
                have d1' : decide (k < j) = true := decide_eq_true hlt
                have hrun := fun w => run_float_arith (P := Tryd.prog) w .mul 24 .f64 (dblF tt k) 4611686018427387904 (dblF tt (k + 1)) (double_step HB.out.2 (by have := HS.out; omega) HB.out.1).2
                have e3 : IntKind.i64.wrap ((k : Int) + 1) = ((k + 1 : Nat) : Int) := by rw [IntWalk.i64_in _ (by have := HS.out; omega)]; rfl
                have HK := Lib.hid hlt
                clear hlt
                go_wp2_with fail
                go_roundg (j - k - 1)
                case measure => have := HK.out; omega
                case rel => exact ⟨k + 1, by have := HK.out; omega, rfl, rfl, rfl⟩
              · have d1 : decide ((k : Int) < (j : Int)) = false := decide_eq_false (by omega)
                have d1' : decide (k < j) = false := decide_eq_false hlt
                obtain rfl : k = j := by omega
                have hrun := fun w => run_float_arith (P := Tryd.prog) w .sub 24 .f64 0 (dblF tt k) (nearF n) (by have h := HE.out; rw [HT.out] at h; exact h)
                clear hlt
                go_wp2_with fail
                go_ret
                exact ⟨rfl, rfl⟩
  · have b0 : decide (n < 0) = false := decide_eq_false (by omega)
    rw [if_neg (by omega)] at hwu
    have HE := Lib.hid (HEND.out.1 h0)
    clear HEND h0
    go_enter Tryd.func39, Tryd.ntmps39
    go_upto_region 8 with (fail)
    go_loopg [5] s (fun g x wr => ∃ j : Nat, j + g = s ∧ x = .int .i64 j ∧ w = wr)
    case atStart => exact ⟨0, by omega, rfl, rfl⟩
    case round =>
      obtain ⟨j, hj, rfl, rfl⟩ := hrel
      have hj64 : j < 64 := by have := HS.out; omega
      have hk := kind_small hj64
      have ht := HTEST.out j (by omega)
      obtain ⟨q, hq⟩ : ∃ q, u / 2 ^ j = q := ⟨_, rfl⟩
      have hq2 : (u : Int) / 2 ^ j = (q : Int) := by rw [← hq]; rfl
      rw [hq] at ht
      by_cases hlt : j < s
      · have c3 : (9007199254740992 : Int) ≤ (q : Int) := by have := ht.2 hlt; omega
        have e3 : IntKind.i64.wrap ((j : Int) + 1) = ((j + 1 : Nat) : Int) := by rw [IntWalk.i64_in _ (by omega)]; rfl
        have HJ := Lib.hid hlt
        clear ht hq hlt
        go_wp2_with fail
        go_roundg (s - j - 1)
        case measure => have := HJ.out; omega
        case rel => exact ⟨j + 1, by have := HJ.out; omega, rfl, rfl⟩
      · have c3 : (q : Int) < 9007199254740992 := by
          by_cases h : (9007199254740992 : Int) ≤ (q : Int)
          · exact absurd (ht.1 (by omega)) hlt
          · omega
        obtain rfl : j = s := by omega
        have hqr := Nat.div_add_mod u (2 ^ j)
        rw [hq] at hqr
        obtain ⟨P, hP⟩ : ∃ P, 2 ^ j = P := ⟨_, rfl⟩
        obtain ⟨r, hr⟩ : ∃ r, u % P = r := ⟨_, rfl⟩
        have hP2 : (2 : Int) ^ j = (P : Int) := by rw [← hP, Int.natCast_pow]; rfl
        rw [hP, hr] at hqr
        have hPb : P ≤ 2048 := by rw [← hP]; have := HS.out; exact Nat.le_trans (Nat.pow_le_pow_right (by decide) (show j ≤ 11 by omega)) (by decide)
        rw [hP2] at hq2
        have HQR := Lib.hid (And.intro hqr (And.intro hPb (And.intro hP (And.intro hq hr))))
        have HC := Lib.hid (show decide ((9007199254740992 : Int) ≤ (q : Int)) = false from decide_eq_false (by omega))
        have HC3 := Lib.hid (show q < 9007199254740992 by omega)
        clear ht hlt hqr hP hr hq hPb c3
        go_upto_if 30 with (fail)
        rw [HC.out]
        obtain ⟨M, hM⟩ : ∃ M, q * P = M := ⟨_, rfl⟩
        obtain ⟨h, hh⟩ : ∃ h, P / 2 = h := ⟨_, rfl⟩
        have hM2 : (q : Int) * (P : Int) = (M : Int) := by rw [← hM, Int.natCast_mul]
        have hMr : M + r = u := by rw [← hM, Nat.mul_comm]; exact HQR.out.1
        have e5 : IntKind.u64.wrap (M : Int) = (M : Int) := by rw [wrap_u64]; have := HU.out; omega
        have e6 : IntKind.u64.wrap ((u : Int) - (M : Int)) = (r : Int) := by rw [wrap_u64]; have := HU.out; omega
        have e7 : IntKind.u64.wrap (P : Int) = (P : Int) := by rw [wrap_u64]; have := HQR.out.2.1; omega
        have e8 : (P : Int) / 2 = (h : Int) := by rw [← hh]; omega
        have HM := Lib.hid (And.intro hM (And.intro hh hMr))
        clear hM hh hMr
        go_upto_region 13 with (fail)
        clear e5 e6 e7 e8 hM2 hq2 hP2
        have HQR2 := Lib.hid (show u / P = q by have := HQR.out; rw [← this.2.2.1]; exact this.2.2.2.1)
        have htop : top u j = q + (if h < r ∨ r = h ∧ 0 < j ∧ q % 2 = 1 then 1 else 0) := by
          unfold top
          rw [HQR.out.2.2.1, HQR.out.2.2.2.2, HM.out.2.1, HQR2.out]
        have hj0 : 0 < j := by have := HS.out; omega
        obtain ⟨tt, htt⟩ : ∃ tt, top u j = tt := ⟨_, rfl⟩
        rw [htt] at htop
        have HT := Lib.hid htt
        have HB := Lib.hid (show 4503599627370496 ≤ tt ∧ tt ≤ 9007199254740992 by have h := near_top HU.out.2.2.1 HU.out.2.2.2 hj0 (by have := HS.out; omega) false; rw [htt] at h; exact ⟨h.2.2, h.2.1⟩)
        have c5 : decide ((0 : Int) < (j : Int)) = true := decide_eq_true (by omega)
        have c5' : decide (0 < j) = true := decide_eq_true hj0
        clear htt
        by_cases t1 : h < r
        · have c1 : decide ((h : Int) < (r : Int)) = true := decide_eq_true (by omega)
          have c1' : decide (h < r) = true := decide_eq_true t1
          rw [if_pos (.inl t1)] at htop
          have e9 : IntKind.u64.wrap ((q : Int) + 1) = (tt : Int) := by rw [wrap_u64]; have := HC3.out; omega
          clear htop t1 hj0
          go_upto_region 15 with (fail)
          clear c5 c5'
          obtain ⟨hb1, hb2⟩ := HB.out
          have hcv : floatOfInt .f64 (tt : Int) = dblF tt 0 := (nearF_eq _).trans (dblF_zero (by omega))
          clear hb1 hb2
          go_wp2_with fail
          go_loopg [9, 10] j (fun g x y wr => ∃ k : Nat, k + g = j ∧ x = .float .f64 (dblF tt k) ∧ y = .int .i64 k ∧ w = wr)
          case atStart => exact ⟨0, by omega, rfl, rfl, rfl⟩
          case round =>
            obtain ⟨k, hk, rfl, rfl, rfl⟩ := hrel
            by_cases hlt : k < j
            · have d1 : decide ((k : Int) < (j : Int)) = true := decide_eq_true (by omega)
              have d1' : decide (k < j) = true := decide_eq_true hlt
              have hrun := fun w => run_float_arith (P := Tryd.prog) w .mul 24 .f64 (dblF tt k) 4611686018427387904 (dblF tt (k + 1)) (double_step HB.out.2 (by have := HS.out; omega) HB.out.1).2
              have e3 : IntKind.i64.wrap ((k : Int) + 1) = ((k + 1 : Nat) : Int) := by rw [IntWalk.i64_in _ (by have := HS.out; omega)]; rfl
              have HK := Lib.hid hlt
              clear hlt
              go_wp2_with fail
              go_roundg (j - k - 1)
              case measure => have := HK.out; omega
              case rel => exact ⟨k + 1, by have := HK.out; omega, rfl, rfl, rfl⟩
            · have d1 : decide ((k : Int) < (j : Int)) = false := decide_eq_false (by omega)
              have d1' : decide (k < j) = false := decide_eq_false hlt
              obtain rfl : k = j := by omega
              have HV := Lib.hid (show dblF tt k = nearF n by have h := HE.out; rw [HT.out] at h; exact h)
              clear hlt
              go_wp2_with fail
              go_ret
              exact ⟨by rw [← HV.out]; rfl, rfl⟩
        · have c1 : decide ((h : Int) < (r : Int)) = false := decide_eq_false (by omega)
          have c1' : decide (h < r) = false := decide_eq_false t1
          by_cases t2 : r = h
          · have c2 : ((r : Int) == (h : Int)) = true := beq_iff_eq.2 (by omega)
            have c2' : decide (r = h) = true := decide_eq_true t2
            by_cases t3 : q % 2 = 1
            · have c4 : ((q : Int) % 2 == 1) = true := beq_iff_eq.2 (by omega)
              rw [if_pos (.inr ⟨t2, hj0, t3⟩)] at htop
              have e9 : IntKind.u64.wrap ((q : Int) + 1) = (tt : Int) := by rw [wrap_u64]; have := HC3.out; omega
              clear htop t1 t2 t3 hj0
              go_upto_region 15 with (fail)
              clear c5 c5'
              obtain ⟨hb1, hb2⟩ := HB.out
              have hcv : floatOfInt .f64 (tt : Int) = dblF tt 0 := (nearF_eq _).trans (dblF_zero (by omega))
              clear hb1 hb2
              go_wp2_with fail
              go_loopg [9, 10] j (fun g x y wr => ∃ k : Nat, k + g = j ∧ x = .float .f64 (dblF tt k) ∧ y = .int .i64 k ∧ w = wr)
              case atStart => exact ⟨0, by omega, rfl, rfl, rfl⟩
              case round =>
                obtain ⟨k, hk, rfl, rfl, rfl⟩ := hrel
                by_cases hlt : k < j
                · have d1 : decide ((k : Int) < (j : Int)) = true := decide_eq_true (by omega)
                  have d1' : decide (k < j) = true := decide_eq_true hlt
                  have hrun := fun w => run_float_arith (P := Tryd.prog) w .mul 24 .f64 (dblF tt k) 4611686018427387904 (dblF tt (k + 1)) (double_step HB.out.2 (by have := HS.out; omega) HB.out.1).2
                  have e3 : IntKind.i64.wrap ((k : Int) + 1) = ((k + 1 : Nat) : Int) := by rw [IntWalk.i64_in _ (by have := HS.out; omega)]; rfl
                  have HK := Lib.hid hlt
                  clear hlt
                  go_wp2_with fail
                  go_roundg (j - k - 1)
                  case measure => have := HK.out; omega
                  case rel => exact ⟨k + 1, by have := HK.out; omega, rfl, rfl, rfl⟩
                · have d1 : decide ((k : Int) < (j : Int)) = false := decide_eq_false (by omega)
                  have d1' : decide (k < j) = false := decide_eq_false hlt
                  obtain rfl : k = j := by omega
                  have HV := Lib.hid (show dblF tt k = nearF n by have h := HE.out; rw [HT.out] at h; exact h)
                  clear hlt
                  go_wp2_with fail
                  go_ret
                  exact ⟨by rw [← HV.out]; rfl, rfl⟩
            · have c4 : ((q : Int) % 2 == 1) = false := beq_eq_false_iff_ne.2 (by omega)
              rw [if_neg (by rintro (a | a) <;> omega), Nat.add_zero] at htop
              subst htop
              clear t1 t2 t3 hj0
              go_upto_region 15 with (fail)
              clear c5 c5'
              obtain ⟨hb1, hb2⟩ := HB.out
              have hcv : floatOfInt .f64 (tt : Int) = dblF tt 0 := (nearF_eq _).trans (dblF_zero (by omega))
              clear hb1 hb2
              go_wp2_with fail
              go_loopg [9, 10] j (fun g x y wr => ∃ k : Nat, k + g = j ∧ x = .float .f64 (dblF tt k) ∧ y = .int .i64 k ∧ w = wr)
              case atStart => exact ⟨0, by omega, rfl, rfl, rfl⟩
              case round =>
                obtain ⟨k, hk, rfl, rfl, rfl⟩ := hrel
                by_cases hlt : k < j
                · have d1 : decide ((k : Int) < (j : Int)) = true := decide_eq_true (by omega)
                  have d1' : decide (k < j) = true := decide_eq_true hlt
                  have hrun := fun w => run_float_arith (P := Tryd.prog) w .mul 24 .f64 (dblF tt k) 4611686018427387904 (dblF tt (k + 1)) (double_step HB.out.2 (by have := HS.out; omega) HB.out.1).2
                  have e3 : IntKind.i64.wrap ((k : Int) + 1) = ((k + 1 : Nat) : Int) := by rw [IntWalk.i64_in _ (by have := HS.out; omega)]; rfl
                  have HK := Lib.hid hlt
                  clear hlt
                  go_wp2_with fail
                  go_roundg (j - k - 1)
                  case measure => have := HK.out; omega
                  case rel => exact ⟨k + 1, by have := HK.out; omega, rfl, rfl, rfl⟩
                · have d1 : decide ((k : Int) < (j : Int)) = false := decide_eq_false (by omega)
                  have d1' : decide (k < j) = false := decide_eq_false hlt
                  obtain rfl : k = j := by omega
                  have HV := Lib.hid (show dblF tt k = nearF n by have h := HE.out; rw [HT.out] at h; exact h)
                  clear hlt
                  go_wp2_with fail
                  go_ret
                  exact ⟨by rw [← HV.out]; rfl, rfl⟩
          · have c2 : ((r : Int) == (h : Int)) = false := beq_eq_false_iff_ne.2 (by omega)
            have c2' : decide (r = h) = false := decide_eq_false t2
            rw [if_neg (by rintro (a | a) <;> omega), Nat.add_zero] at htop
            subst htop
            clear t1 t2 hj0
            go_upto_region 15 with (fail)
            clear c5 c5'
            obtain ⟨hb1, hb2⟩ := HB.out
            have hcv : floatOfInt .f64 (tt : Int) = dblF tt 0 := (nearF_eq _).trans (dblF_zero (by omega))
            clear hb1 hb2
            go_wp2_with fail
            go_loopg [9, 10] j (fun g x y wr => ∃ k : Nat, k + g = j ∧ x = .float .f64 (dblF tt k) ∧ y = .int .i64 k ∧ w = wr)
            case atStart => exact ⟨0, by omega, rfl, rfl, rfl⟩
            case round =>
              obtain ⟨k, hk, rfl, rfl, rfl⟩ := hrel
              by_cases hlt : k < j
              · have d1 : decide ((k : Int) < (j : Int)) = true := decide_eq_true (by omega)
                have d1' : decide (k < j) = true := decide_eq_true hlt
                have hrun := fun w => run_float_arith (P := Tryd.prog) w .mul 24 .f64 (dblF tt k) 4611686018427387904 (dblF tt (k + 1)) (double_step HB.out.2 (by have := HS.out; omega) HB.out.1).2
                have e3 : IntKind.i64.wrap ((k : Int) + 1) = ((k + 1 : Nat) : Int) := by rw [IntWalk.i64_in _ (by have := HS.out; omega)]; rfl
                have HK := Lib.hid hlt
                clear hlt
                go_wp2_with fail
                go_roundg (j - k - 1)
                case measure => have := HK.out; omega
                case rel => exact ⟨k + 1, by have := HK.out; omega, rfl, rfl, rfl⟩
              · have d1 : decide ((k : Int) < (j : Int)) = false := decide_eq_false (by omega)
                have d1' : decide (k < j) = false := decide_eq_false hlt
                obtain rfl : k = j := by omega
                have HV := Lib.hid (show dblF tt k = nearF n by have h := HE.out; rw [HT.out] at h; exact h)
                clear hlt
                go_wp2_with fail
                go_ret
                exact ⟨by rw [← HV.out]; rfl, rfl⟩

end Go.Proofs.YtlpifchimnnfdaaDoor
