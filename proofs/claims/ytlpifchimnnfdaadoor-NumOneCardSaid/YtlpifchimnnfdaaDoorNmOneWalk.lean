/- NumOne: times one, by one, less nothing a number stays as it is; a negative's negative is the number. -/
import Derived.Test.YtlpifchimnnfdaaDoorNmClean
import Derived.Test.YtlpifchimnnfdaaDoorNmOp
namespace Go.Proofs.YtlpifchimnnfdaaDoor
open Go.RowKit
attribute [local irreducible] Ext
attribute [local go_sem] run_store_float

theorem one_fin : finF 4607182418800017408 = true := by kernel_rfl
theorem one_zero : zeroF 4607182418800017408 = false := by kernel_rfl
theorem near0 : nearF 0 = 0 := by
  rw [← nearF_eq]
  kernel_rfl

/-- The three operations, as values. -/
theorem one_mul {k n : Int} {f : Nat} (h : numV k n f ⟨#[]⟩ 0 = true) (hf : f < 18446744073709551616) : opV ⟨#[42]⟩ k n f true 1 1 0 true = nV k n f 0 := by
  obtain ⟨_, _, ⟨rfl, rfl, h1, h2⟩ | ⟨rfl, rfl, h1⟩⟩ := numV_shape h
  · have e : opV ⟨#[42]⟩ 1 n 0 true 1 1 0 true = mkI (n * 1) := by kernel_rfl
    rw [e, Int.mul_one, mkI_in' ⟨h1, h2⟩]
  · have e : opV ⟨#[42]⟩ 2 0 f true 1 1 0 true = mkO (Ieee.double.mul f (nearF 1)) := by kernel_rfl
    rw [e, near1, mul_one (finF_fin.1 h1) hf]
    exact mkF_fin h1

theorem real_fin {k n : Int} {f : Nat} (h : numV k n f ⟨#[]⟩ 0 = true) (hf : f < 18446744073709551616) : finF (realF k n f) = true ∧ realF k n f < 18446744073709551616 := by
  unfold realF
  obtain ⟨_, _, ⟨rfl, rfl, h1, h2⟩ | ⟨rfl, rfl, h1⟩⟩ := numV_shape h
  · rw [if_pos (by decide)]
    exact ⟨finF_fin.2 (near_fin (by omega)), nearF_lt n⟩
  · rw [if_neg (by decide)]
    exact ⟨h1, hf⟩

theorem one_div {k n : Int} {f : Nat} (h : numV k n f ⟨#[]⟩ 0 = true) (hf : f < 18446744073709551616) : opV ⟨#[47]⟩ k n f true 1 1 0 true = nV 2 0 (realF k n f) 0 := by
  obtain ⟨g1, g2⟩ := real_fin h hf
  have e : opV ⟨#[47]⟩ k n f true 1 1 0 true = flV ⟨#[47]⟩ (realF k n f) (nearF 1) := by
    obtain ⟨_, _, ⟨rfl, rfl, h1, h2⟩ | ⟨rfl, rfl, h1⟩⟩ := numV_shape h <;> kernel_rfl
  rw [e, near1]
  unfold flV
  rw [if_neg (by rw [one_zero]; simp)]
  have e2 : floatBits (flOp ⟨#[47]⟩) .f64 (realF k n f) 4607182418800017408 = Ieee.double.div (realF k n f) 4607182418800017408 := by kernel_rfl
  rw [e2, div_one (finF_fin.1 g1) g2]
  exact mkF_fin g1

theorem one_sub {k n : Int} {f : Nat} (h : numV k n f ⟨#[]⟩ 0 = true) (hf : f < 18446744073709551616) : opV ⟨#[45]⟩ k n f true 1 0 0 true = nV k n f 0 := by
  obtain ⟨_, _, ⟨rfl, rfl, h1, h2⟩ | ⟨rfl, rfl, h1⟩⟩ := numV_shape h
  · have e : opV ⟨#[45]⟩ 1 n 0 true 1 0 0 true = mkI (n - 0) := by kernel_rfl
    rw [e, Int.sub_zero, mkI_in' ⟨h1, h2⟩]
  · have e : opV ⟨#[45]⟩ 2 0 f true 1 0 0 true = mkO (Ieee.double.sub f (nearF 0)) := by kernel_rfl
    rw [e, near0, sub_zero (finF_fin.1 h1) hf]
    exact mkF_fin h1

/-- The negative, and its negative. -/
theorem one_neg {k n : Int} {f : Nat} (h : numV k n f ⟨#[]⟩ 0 = true) (hf : f < 18446744073709551616) :
    (∃ n' f', negV k n f true = nV k n' f' 0 ∧ numV k n' f' ⟨#[]⟩ 0 = true ∧ f' < 18446744073709551616 ∧ negV k n' f' true = nV k n f 0) ∨ (k = 1 ∧ n = -576460752303423488 ∧ negV k n f true = nV 0 0 0 12) := by
  obtain ⟨_, _, ⟨rfl, rfl, h1, h2⟩ | ⟨rfl, rfl, h1⟩⟩ := numV_shape h
  · have e : ∀ m, negV 1 m 0 true = mkI (-m) := fun m => by
      unfold negV
      rw [if_neg (by decide), if_pos (by decide)]
    by_cases hn : n = -576460752303423488
    · refine .inr ⟨rfl, hn, ?_⟩
      rw [e]
      subst hn
      kernel_rfl
    · refine .inl ⟨-n, 0, by rw [e, mkI_in' ⟨by omega, by omega⟩], numV_1 ⟨by omega, by omega⟩, by decide, by rw [e, Int.neg_neg, mkI_in' ⟨h1, h2⟩]⟩
  · have e : ∀ m, negV 2 0 m true = mkF (xneg m) := fun m => by
      unfold negV
      rw [if_neg (by decide), if_neg (by decide)]
    have hx := xneg_fin hf h1
    exact .inl ⟨0, xneg f, by rw [e, mkF_fin hx], numV_2 hx, xneg_lt hf, by rw [e, xneg_xneg, mkF_fin h1]⟩

theorem op_any {sg : ByteArray} (hs : sgnB sg = true) {k n : Int} {f : Nat} {so : Option Addr} {cap : Nat} (h : numV k n f ⟨#[]⟩ 0 = true) (hf : f < 18446744073709551616) (c : Int) (hc : -576460752303423488 ≤ c ∧ c ≤ 576460752303423487) {v : Value} (hv : opV sg k n f true 1 c 0 true = v) (w : World) :
    Calls Tryd.prog 25 #[.string sg, .agg #[.int .i64 k, .int .i64 n, .float .f64 f, .string ⟨#[]⟩, .slice so 0 cap], tV 1 c 0] w fun e w' => e = .returned v ∧ Ext w w' := by
  have h1 := pop_good sg hs k n f ⟨#[]⟩ so 0 cap 1 c 0 ⟨#[]⟩ none 0 0 hf (by decide) w
  rw [h, numV_1 hc, hv] at h1
  exact h1

theorem same_as (k n : Int) (f : Nat) (so : Option Addr) (cap : Nat) (w : World) : Calls Tryd.prog 20 #[tV k n f, .agg #[.int .i64 k, .int .i64 n, .float .f64 f, .string ⟨#[]⟩, .slice so 0 cap]] w fun e w' => e = .returned (.bool true) ∧ Ext w w' := by
  have h := same_any k n f ⟨#[]⟩ none 0 0 k n f ⟨#[]⟩ so 0 cap w
  have e : sameB k n f ⟨#[]⟩ 0 k n f ⟨#[]⟩ 0 = true := by simp [sameB]
  rw [e] at h
  exact h

set_option maxRecDepth 100000 in
set_option maxHeartbeats 8000000 in
theorem numOne_any (k n : Int) (f : Nat) (s : ByteArray) (so : Option Addr) (m cap : Nat) (hf : f < 18446744073709551616) (_ : -9223372036854775808 ≤ k ∧ k ≤ 9223372036854775807) (_ : -9223372036854775808 ≤ n ∧ n ≤ 9223372036854775807) (w : World) (ht : Tab4 w) :
    Calls Tryd.prog 8 #[.agg #[.int .i64 k, .int .i64 n, .float .f64 f, .string s, .slice so m cap]] w fun e w' => e = .returned (.bool true) ∧ Ext w w' := by
  have hE := (Ext.refl w).alloc (.cells #[.int .i64 k, .int .i64 n, .float .f64 f, .string s, .slice so m cap] 27)
  have hB := RBox.new w k n f s so m cap
  obtain ⟨w1, hw⟩ : ∃ w1, w.alloc (.cells #[.int .i64 k, .int .i64 n, .float .f64 f, .string s, .slice so m cap] 27) = w1 := ⟨_, rfl⟩
  rw [hw] at hE hB
  have HW := Lib.hid hw
  have HE := Lib.hid hE
  have HB := Lib.hid hB
  have HK := Lib.hid (known_any w1 (ht.ext hE))
  have HC := Lib.hid (fun w => clean_any k n f s so m cap w)
  have HF := Lib.hid hf
  clear hw hE hB ht hf
  cases hN : numV k n f s m
  · rw [hN] at HC
    clear hN
    go_enter Tryd.func8, Tryd.ntmps8
    go_upto_region 1 with (fail)
    rw [HW.out]
    go_wp2_with (first
      | (go_at_call 17; (with_reducible refine HK.out.mono ?_); rintro e w2 ⟨rfl, hE2⟩; have HE2 := Lib.hid (HE.out.trans hE2); (obtain ⟨d0, d1, d2, d3, d4⟩ := (HB.out.ext hE2).cells); clear hE2)
      | (go_at_call 33; (with_reducible refine (HC.out _).mono ?_); rintro e w3 ⟨rfl, hE3⟩; have HE3 := Lib.hid (HE2.out.trans hE3); clear hE3)
      | fail)
    go_ret
    exact ⟨rfl, HE3.out⟩
  · obtain ⟨rfl, rfl, _⟩ := numV_shape hN
    obtain ⟨x, hx⟩ : ∃ x, realF k n f = x := ⟨_, rfl⟩
    have hmul := fun w => op_any (sg := ⟨#[42]⟩) (so := so) (cap := cap) (by kernel_rfl) hN HF.out 1 (by decide) (one_mul hN HF.out) w
    have hdiv := fun w => op_any (sg := ⟨#[47]⟩) (so := so) (cap := cap) (by kernel_rfl) hN HF.out 1 (by decide) (one_div hN HF.out) w
    have hsub := fun w => op_any (sg := ⟨#[45]⟩) (so := so) (cap := cap) (by kernel_rfl) hN HF.out 0 (by decide) (one_sub hN HF.out) w
    have hre := fun w => preal1_any k n f ⟨#[]⟩ so 0 cap HF.out w
    have hneg := fun w => pneg_any k n f ⟨#[]⟩ so 0 cap HF.out w
    rw [show reV k n f (numV k n f ⟨#[]⟩ 0) = nV 2 0 x 0 by rw [hN, ← hx]; exact mkF_fin (real_fin hN HF.out).1] at hre
    rw [hx] at hdiv
    rw [hN] at hneg
    have hi := fun n w => i_any n w
    have hs1 := fun w => same_as k n f so cap w
    have hs2 := fun w => same_self 2 0 x w
    unfold tV nV at hmul hdiv hsub
    unfold nV at hre
    unfold tV at hi hs1 hs2
    have HMUL := Lib.hid hmul
    have HDIV := Lib.hid hdiv
    have HSUB := Lib.hid hsub
    have HRE := Lib.hid hre
    have HNEG := Lib.hid hneg
    have HI := Lib.hid hi
    have HS1 := Lib.hid hs1
    have HS2 := Lib.hid hs2
    have HNUM := Lib.hid (one_neg hN HF.out)
    rw [hN] at HC
    clear hN hmul hdiv hsub hre hneg hi hs1 hs2 hx
    go_enter Tryd.func8, Tryd.ntmps8
    go_upto_region 1 with (fail)
    rw [HW.out]
    generalize w.heap.size = bA at HB ⊢
    go_upto_region 5 with (first
      | (go_at_call 17; (with_reducible refine HK.out.mono ?_); rintro e w2 ⟨rfl, hE2⟩; have HE2 := Lib.hid (HE.out.trans hE2); have HB2 := Lib.hid (HB.out.ext hE2); (obtain ⟨d0, d1, d2, d3, d4⟩ := HB2.out.cells); clear hE2)
      | (go_at_call 33; (with_reducible refine (HC.out _).mono ?_); rintro e w3 ⟨rfl, hE3⟩; have HE3 := Lib.hid (HE2.out.trans hE3); have HA := Lib.hid (HB2.out.ext hE3); clear hE3)
      | fail)
    clear d0 d1 d2 d3 d4 HB HB2 HE HE2 HK HC HW
    go_upto_region 5 with (fail)
    go_cut [3, 4] from 18 to 23 (fun xx yy wx => Left w3 k n f 0 xx yy wx)
    case first =>
      have hE0 := Ext.refl w3
      obtain ⟨x0, x1, x2, x3, x4⟩ := HA.out.exts
      go_region_held3 (fun w' => Ext w3 w') (repeat (first | assumption | apply Ext.drew | apply Ext.alloc))
        (first
          | (go_at_call 27
             (with_reducible refine (HI.out _ _).mono ?_)
             rintro e v0 ⟨rfl, hEv0⟩
             first
               | have hWv0 : Ext w3 v0 := (Ext.refl w3).drew.trans hEv0
               | have hWv0 : Ext w3 v0 := ((Ext.refl w3).alloc _).drew.trans hEv0
             try have HZv0 := Lib.hid (end_made ((Ext.refl _).drew.trans hEv0)))
          | (go_at_call 25
             (with_reducible refine (HMUL.out _).mono ?_)
             rintro e v1 ⟨rfl, hEv1⟩
             first
               | have hWv1 : Ext w3 v1 := hWv0.trans hEv1
               | have hWv1 : Ext w3 v1 := (hWv0.alloc _).trans hEv1
             first
               | have HS := Lib.hid (end_any hWv1 (by have := hWv0.size; omega) (HZv0.out.ext hEv1) k n f)
               | have HS := Lib.hid (end_any hWv1 (by have := hWv0.size; omega) (end_made hEv1) k n f)
               | have HS := Lib.hid (end_behind hWv1 k n f)
             obtain ⟨⟨g0, g1, g2, g3, g4⟩, ⟨a0, a1, a2, a3, a4⟩, _⟩ := HS.out.1
             have hWs := HS.out.2.1
             have HEND := Lib.hid HS.out.2
             unfold set5 at hWs HEND)
          | fail)
      all_goals go_wp2
      all_goals go_meet
      all_goals first
        | exact ⟨_, rfl, rfl, HEND.out⟩
        | exact left_new hWv1 _ _ _ _
    case rest =>
      obtain ⟨B3, rfl, rfl, hE4, hB4⟩ := hcut
      rename World => w4
      have HE4 := Lib.hid (HE3.out.trans hE4)
      have HA := Lib.hid (HA.out.ext hE4)
      have HB := Lib.hid hB4
      clear hE4 hB4
      go_upto_region 6 with (fail)
      go_cut [5, 6] from 24 to 29 (fun xx yy wx => Left w4 2 0 x 0 xx yy wx)
      case first =>
        have hE0 := Ext.refl w4
        obtain ⟨x0, x1, x2, x3, x4⟩ := HA.out.exts
        go_region_held3 (fun w' => Ext w4 w') (repeat (first | assumption | apply Ext.drew | apply Ext.alloc))
          (first
            | (go_at_call 27
               (with_reducible refine (HI.out _ _).mono ?_)
               rintro e v0 ⟨rfl, hEv0⟩
               first
                 | have hWv0 : Ext w4 v0 := (Ext.refl w4).drew.trans hEv0
                 | have hWv0 : Ext w4 v0 := ((Ext.refl w4).alloc _).drew.trans hEv0
               try have HZv0 := Lib.hid (end_made ((Ext.refl _).drew.trans hEv0)))
            | (go_at_call 25
               (with_reducible refine (HDIV.out _).mono ?_)
               rintro e v1 ⟨rfl, hEv1⟩
               first
                 | have hWv1 : Ext w4 v1 := hWv0.trans hEv1
                 | have hWv1 : Ext w4 v1 := (hWv0.alloc _).trans hEv1
               first
                 | have HS := Lib.hid (end_any hWv1 (by have := hWv0.size; omega) (HZv0.out.ext hEv1) 2 0 x)
                 | have HS := Lib.hid (end_any hWv1 (by have := hWv0.size; omega) (end_made hEv1) 2 0 x)
                 | have HS := Lib.hid (end_behind hWv1 2 0 x)
               obtain ⟨⟨g0, g1, g2, g3, g4⟩, ⟨a0, a1, a2, a3, a4⟩, _⟩ := HS.out.1
               have hWs := HS.out.2.1
               have HEND := Lib.hid HS.out.2
               unfold set5 at hWs HEND)
            | fail)
        all_goals go_wp2
        all_goals go_meet
        all_goals first
          | exact ⟨_, rfl, rfl, HEND.out⟩
          | exact left_new hWv1 _ _ _ _
      case rest =>
        obtain ⟨B5, rfl, rfl, hE5, hB5⟩ := hcut
        rename World => w5
        have HE5 := Lib.hid (HE4.out.trans hE5)
        have HA := Lib.hid (HA.out.ext hE5)
        have HB := Lib.hid (HB.out.ext hE5)
        have HC := Lib.hid hB5
        clear hE5 hB5
        go_upto_region 7 with (fail)
        go_cut [7, 8] from 30 to 35 (fun xx yy wx => Left w5 k n f 0 xx yy wx)
        case first =>
          have hE0 := Ext.refl w5
          obtain ⟨x0, x1, x2, x3, x4⟩ := HA.out.exts
          go_region_held3 (fun w' => Ext w5 w') (repeat (first | assumption | apply Ext.drew | apply Ext.alloc))
            (first
              | (go_at_call 27
                 (with_reducible refine (HI.out _ _).mono ?_)
                 rintro e v0 ⟨rfl, hEv0⟩
                 first
                   | have hWv0 : Ext w5 v0 := (Ext.refl w5).drew.trans hEv0
                   | have hWv0 : Ext w5 v0 := ((Ext.refl w5).alloc _).drew.trans hEv0
                 try have HZv0 := Lib.hid (end_made ((Ext.refl _).drew.trans hEv0)))
              | (go_at_call 25
                 (with_reducible refine (HSUB.out _).mono ?_)
                 rintro e v1 ⟨rfl, hEv1⟩
                 first
                   | have hWv1 : Ext w5 v1 := hWv0.trans hEv1
                   | have hWv1 : Ext w5 v1 := (hWv0.alloc _).trans hEv1
                 first
                   | have HS := Lib.hid (end_any hWv1 (by have := hWv0.size; omega) (HZv0.out.ext hEv1) k n f)
                   | have HS := Lib.hid (end_any hWv1 (by have := hWv0.size; omega) (end_made hEv1) k n f)
                   | have HS := Lib.hid (end_behind hWv1 k n f)
                 obtain ⟨⟨g0, g1, g2, g3, g4⟩, ⟨a0, a1, a2, a3, a4⟩, _⟩ := HS.out.1
                 have hWs := HS.out.2.1
                 have HEND := Lib.hid HS.out.2
                 unfold set5 at hWs HEND)
              | fail)
          all_goals go_wp2
          all_goals go_meet
          all_goals first
            | exact ⟨_, rfl, rfl, HEND.out⟩
            | exact left_new hWv1 _ _ _ _
        case rest =>
          obtain ⟨B7, rfl, rfl, hE6, hB6⟩ := hcut
          rename World => w6
          have HE6 := Lib.hid (HE5.out.trans hE6)
          have HA := Lib.hid (HA.out.ext hE6)
          have HB := Lib.hid (HB.out.ext hE6)
          have HC := Lib.hid (HC.out.ext hE6)
          have HD := Lib.hid hB6
          clear hE6 hB6
          obtain ⟨d0, d1, d2, d3, d4⟩ := HA.out.cells
          go_upto_region 9 with (first
            | (go_at_call 34; (with_reducible refine (HRE.out _).mono ?_); rintro e w7 ⟨rfl, hE7⟩; have HE7 := Lib.hid hE7; clear hE7)
            | fail)
          obtain ⟨w8, B8, hw8, hB8, hE8', hE8, hR8⟩ := kbox (HE6.out.trans HE7.out) 2 0 x
          rw [hw8, hB8]
          have hE68 := HE7.out.trans hE8'
          have HE8 := Lib.hid hE8
          have HA := Lib.hid (HA.out.ext hE68)
          obtain ⟨a0, a1, a2, a3, a4⟩ := HA.out.exts
          obtain ⟨b0, b1, b2, b3, b4⟩ := (HB.out.ext hE68).exts
          obtain ⟨c0, c1, c2, c3, c4⟩ := (HC.out.ext hE68).exts
          obtain ⟨g0, g1, g2, g3, g4⟩ := (HD.out.ext hE68).exts
          obtain ⟨r0, r1, r2, r3, r4⟩ := hR8.exts
          have hX0 := Ext.refl w8
          clear d0 d1 d2 d3 d4 hw8 hB8 hE8' hE8 hR8 hE68 HB HC HD HE3 HE4 HE5 HE6 HE7
          go_upto_region 11 with (first
            | (go_at_call 20; (with_reducible first | refine (HS1.out _).mono ?_ | refine (HS2.out _).mono ?_); rintro e w9 ⟨rfl, hE9⟩; have hX0 : Ext w8 w9 := Ext.trans (by assumption) hE9; clear hE9)
            | fail)
          clear b0 b1 b2 b3 b4 c0 c1 c2 c3 c4 g0 g1 g2 g3 g4 r0 r1 r2 r3 r4
          rcases HNUM.out with ⟨n', f', hn1, hn2, hn3, hn4⟩ | ⟨rfl, rfl, hn1⟩
          · have hng := HNEG.out
            rw [hn1] at hng
            have hng2 := fun w => pneg_any k n' f' ⟨#[]⟩ none 0 0 hn3 w
            rw [hn2, hn4] at hng2
            unfold nV at hng hng2
            have HN1 := Lib.hid hng
            have HN2 := Lib.hid hng2
            clear hng hng2 hn1 hn2 hn3 hn4 HNUM HNEG
            go_upto_region 12 with (first
              | (go_at_call 35; (with_reducible refine (HN1.out _).mono ?_); rintro e w10 ⟨rfl, hE10⟩; have HX10 := Lib.hid (Ext.trans (by assumption : Ext w8 _) hE10); clear hE10)
              | fail)
            obtain ⟨w11, B11, hw11, hB11, hE11', hE11, hR11⟩ := kbox HX10.out k n' f'
            rw [hw11, hB11]
            have hX11 := hE11
            have HX11 := Lib.hid hE11
            have HR11 := Lib.hid hR11
            obtain ⟨p0, p1, p2, p3, p4⟩ := hR11.cells
            clear hw11 hB11 hE11' hR11
            go_upto_region 15 with (first
              | (go_at_call 35; (with_reducible refine (HN2.out _).mono ?_); rintro e w12 ⟨rfl, hE12⟩; have HX12 := Lib.hid (HX11.out.trans hE12); clear hE12)
              | fail)
            obtain ⟨w13, B13, hw13, hB13, hE13', hE13, hR13⟩ := kbox HX12.out k n f
            rw [hw13, hB13]
            have HX13 := Lib.hid hE13
            have hX13 := hE13
            obtain ⟨q0, q1, q2, q3, q4⟩ := hR13.exts
            have hX14 := Ext.refl w13
            clear hw13 hB13 hE13' hE13 hR13 p0 p1 p2 p3 p4
            go_wp2_with (first
              | (go_at_call 20; (with_reducible refine (HS1.out _).mono ?_); rintro e w14 ⟨rfl, hE14⟩; have HX14 := Lib.hid (HX13.out.trans hE14))
              | fail)
            go_ret
            exact ⟨rfl, HE8.out.trans HX14.out⟩
          · have hng := HNEG.out
            rw [hn1] at hng
            unfold nV at hng
            have HN1 := Lib.hid hng
            clear hng hn1 HNUM HNEG
            go_upto_region 12 with (first
              | (go_at_call 35; (with_reducible refine (HN1.out _).mono ?_); rintro e w10 ⟨rfl, hE10⟩; have HX10 := Lib.hid (Ext.trans (by assumption : Ext w8 _) hE10); clear hE10)
              | fail)
            obtain ⟨w11, B11, hw11, hB11, hE11', hE11, hR11⟩ := kbox HX10.out 0 0 0
            rw [hw11, hB11]
            have hX11 := hE11
            have HX11 := Lib.hid hE11
            clear hw11 hB11 hE11' hR11
            go_wp2_with fail
            go_ret
            exact ⟨rfl, HE8.out.trans HX11.out⟩

end Go.Proofs.YtlpifchimnnfdaaDoor
