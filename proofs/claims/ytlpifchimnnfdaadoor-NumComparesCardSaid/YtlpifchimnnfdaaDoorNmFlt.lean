/- Numbers: floats made; the four operators on floats. -/
import Derived.Test.YtlpifchimnnfdaaDoorNmBase
namespace Go.Proofs.YtlpifchimnnfdaaDoor
open Go.RowKit
attribute [local irreducible] Ext
attribute [local go_sem] run_store_float

theorem pfloat_any (f : Nat) (hf : f < 18446744073709551616) (w : World) : Calls Tryd.prog 22 #[.float .f64 f] w fun e w' => e = .returned (mkF f) ∧ Ext w w' := by
  obtain ⟨w1, hw, hE, hz, _⟩ := zbox w
  have HW := Lib.hid hw
  obtain ⟨⟨g0, g1, g2, g3, g4⟩, ⟨a0, a1, a2, a3, a4⟩, r0, r1, r2, r3, r4⟩ := zfacts hz 2 0 f
  obtain ⟨_, _, s0, s1, s2, s3, s4⟩ := zfacts hz 0 0 0
  unfold set5 at r0 r1 r2 r3 r4 s0 s1 s2 s3 s4
  have HX := Lib.hid (ext_set5 hE (Nat.le_refl _) 2 0 f ⟨#[]⟩ none 0 0)
  have HY := Lib.hid (ext_set5 hE (Nat.le_refl _) 0 0 0 ⟨#[]⟩ none 0 0)
  have hc1 := fun w => isNaN_any f w
  have hc2 := fun w => isInf_any f hf w
  have hres : mkF f = if (!nanF f && !infF f) = true then nV 2 0 f 0 else nV 0 0 0 11 := by
    rw [finF_not]
    rfl
  clear hw hE hz hf
  cases b1 : nanF f <;> cases b2 : infF f
  all_goals rw [b1, b2] at hres
  all_goals rw [b1] at hc1
  all_goals rw [b2] at hc2
  all_goals have HR := Lib.hid hres
  all_goals clear hres b1 b2
  all_goals
    go_enter Tryd.func22, Tryd.ntmps22
    go_upto_region 1 with (fail)
    rw [HW.out]
    go_wp2_with (first
      | (go_at_call 56; (with_reducible refine (hc1 _).mono ?_); rintro e wa ⟨rfl, rfl⟩)
      | (go_at_call 57; (with_reducible refine (hc2 _).mono ?_); rintro e wa ⟨rfl, rfl⟩)
      | fail)
  · exact bodyPost_ret (v := nV 2 0 f 0) (by simp [results, nV, Tryd.f22, go_sem, r0, r1, r2, r3, r4]) rfl ⟨by rw [HR.out]; rfl, HX.out⟩
  all_goals exact bodyPost_ret (v := nV 0 0 0 11) (by simp [results, nV, Tryd.f22, go_sem, s0, s1, s2, s3, s4]) rfl ⟨by rw [HR.out]; rfl, HY.out⟩

theorem rF_any (f : Nat) (w : World) : Calls Tryd.prog 59 #[.float .f64 f] w fun e w' => e = .returned (tV 2 0 f) ∧ Ext w w' := by
  obtain ⟨w1, hw, hE, hz, _⟩ := zbox w
  have HW := Lib.hid hw
  obtain ⟨⟨g0, g1, g2, g3, g4⟩, ⟨a0, a1, a2, a3, a4⟩, r0, r1, r2, r3, r4⟩ := zfacts hz 2 0 f
  unfold set5 at r0 r1 r2 r3 r4
  have HX := Lib.hid (ext_set5 hE (Nat.le_refl _) 2 0 f ⟨#[]⟩ none 0 0)
  clear hw hE hz
  go_enter Tryd.func59, Tryd.ntmps59
  go_upto_region 1 with (fail)
  rw [HW.out]
  go_wp2_with fail
  exact bodyPost_ret (v := tV 2 0 f) (by simp [results, tV, Tryd.f59, go_sem, r0, r1, r2, r3, r4]) rfl ⟨rfl, HX.out⟩

theorem rI_any (n : Int) (w : World) : Calls Tryd.prog 55 #[.int .i64 n] w fun e w' => e = .returned (tV 1 n 0) ∧ Ext w w' := by
  obtain ⟨w1, hw, hE, hz, _⟩ := zbox w
  have HW := Lib.hid hw
  obtain ⟨⟨g0, g1, g2, g3, g4⟩, ⟨a0, a1, a2, a3, a4⟩, r0, r1, r2, r3, r4⟩ := zfacts hz 1 n 0
  unfold set5 at r0 r1 r2 r3 r4
  have HX := Lib.hid (ext_set5 hE (Nat.le_refl _) 1 n 0 ⟨#[]⟩ none 0 0)
  clear hw hE hz
  go_enter Tryd.func55, Tryd.ntmps55
  go_upto_region 1 with (fail)
  rw [HW.out]
  go_wp2_with fail
  exact bodyPost_ret (v := tV 1 n 0) (by simp [results, tV, Tryd.f55, go_sem, r0, r1, r2, r3, r4]) rfl ⟨rfl, HX.out⟩

theorem rfloat_any (f : Nat) (w : World) : Calls Tryd.prog 23 #[.float .f64 f] w fun e w' => e = .returned (mkF f) ∧ Ext w w' := by
  obtain ⟨w1, hw, hE, hz, _⟩ := zbox w
  have HW := Lib.hid hw
  have HZ := Lib.hid hz
  have HE := Lib.hid hE
  have hcf := fun w => finite_any f w
  have HF := Lib.hid (fun w => rF_any f w)
  have hres : ∀ b, finF f = b → mkF f = if b = true then nV 2 0 f 0 else nV 0 0 0 11 := by
    intro b hb
    rw [← hb]
    rfl
  clear hw hE hz
  cases b1 : finF f
  · have HR := Lib.hid (hres _ b1)
    rw [b1] at hcf
    clear hres b1
    go_enter Tryd.func23, Tryd.ntmps23
    go_upto_region 1 with (fail)
    rw [HW.out]
    go_wp2_with (first
      | (go_at_call 58
         (with_reducible refine (hcf _).mono ?_)
         rintro e w2 ⟨rfl, hE2⟩
         obtain ⟨⟨g0, g1, g2, g3, g4⟩, ⟨a0, a1, a2, a3, a4⟩, s0, s1, s2, s3, s4⟩ := zfacts (HZ.out.ext hE2) 0 0 0
         unfold set5 at s0 s1 s2 s3 s4
         have HY := Lib.hid (ext_set5 (HE.out.trans hE2) (Nat.le_refl _) 0 0 0 ⟨#[]⟩ none 0 0)
         clear hE2)
      | fail)
    exact bodyPost_ret (v := nV 0 0 0 11) (by simp [results, nV, Tryd.f23, go_sem, s0, s1, s2, s3, s4]) rfl ⟨by rw [HR.out]; rfl, HY.out⟩
  · have HR := Lib.hid (hres _ b1)
    rw [b1] at hcf
    clear hres b1
    go_enter Tryd.func23, Tryd.ntmps23
    go_upto_region 1 with (fail)
    rw [HW.out]
    go_wp2_with (first
      | (go_at_call 58; (with_reducible refine (hcf _).mono ?_); rintro e w2 ⟨rfl, hE2⟩; have HE2 := Lib.hid hE2; clear hE2)
      | (go_at_call 59
         (with_reducible refine (HF.out _).mono ?_)
         rintro e w3 ⟨rfl, hE3⟩
         obtain ⟨⟨g0, g1, g2, g3, g4⟩, ⟨a0, a1, a2, a3, a4⟩, s0, s1, s2, s3, s4⟩ := zfacts ((HZ.out.ext HE2.out).ext hE3) 2 0 f
         unfold set5 at s0 s1 s2 s3 s4
         have HY := Lib.hid (ext_set5 ((HE.out.trans HE2.out).trans hE3) (Nat.le_refl _) 2 0 f ⟨#[]⟩ none 0 0)
         unfold tV
         clear hE3)
      | fail)
    exact bodyPost_ret (v := nV 2 0 f 0) (by simp [results, nV, Tryd.f23, go_sem, s0, s1, s2, s3, s4]) rfl ⟨by rw [HR.out]; rfl, HY.out⟩

theorem rint_any (n : Int) (w : World) : Calls Tryd.prog 19 #[.int .i64 n] w fun e w' => e = .returned (mkI n) ∧ Ext w w' := by
  obtain ⟨w1, hw, hE, hz, _⟩ := zbox w
  have HW := Lib.hid hw
  obtain ⟨⟨g0, g1, g2, g3, g4⟩, ⟨a0, a1, a2, a3, a4⟩, s0, s1, s2, s3, s4⟩ := zfacts hz 0 0 0
  unfold set5 at s0 s1 s2 s3 s4
  have HY := Lib.hid (ext_set5 hE (Nat.le_refl _) 0 0 0 ⟨#[]⟩ none 0 0)
  have HZ := Lib.hid hz
  have HE := Lib.hid hE
  have HF := Lib.hid (fun w => rI_any n w)
  have hres : ∀ b : Bool, (decide (n < -576460752303423488) || decide (576460752303423487 < n)) = b → mkI n = if b then nV 0 0 0 12 else nV 1 n 0 0 := by
    intro b hb
    unfold mkI
    subst hb
    by_cases h1 : n < -576460752303423488
    · rw [if_neg (by omega), decide_eq_true h1]; rfl
    · by_cases h2 : 576460752303423487 < n
      · rw [if_neg (by omega), decide_eq_true h2, Bool.or_true]; rfl
      · rw [if_pos (by omega), decide_eq_false h1, decide_eq_false h2]; rfl
  clear hw hE hz
  cases b1 : decide (n < -576460752303423488) <;> cases b2 : decide (576460752303423487 < n)
  all_goals rw [b1, b2] at hres
  all_goals have HR := Lib.hid (hres _ rfl)
  all_goals clear hres
  · clear s0 s1 s2 s3 s4 a0 a1 a2 a3 a4 g0 g1 g2 g3 g4 HY
    go_enter Tryd.func19, Tryd.ntmps19
    go_upto_region 1 with (fail)
    rw [HW.out]
    go_wp2_with (first
      | (go_at_call 55
         (with_reducible refine (HF.out _).mono ?_)
         rintro e w3 ⟨rfl, hE3⟩
         obtain ⟨⟨g0, g1, g2, g3, g4⟩, ⟨a0, a1, a2, a3, a4⟩, s0, s1, s2, s3, s4⟩ := zfacts (HZ.out.ext hE3) 1 n 0
         unfold set5 at s0 s1 s2 s3 s4
         have HY := Lib.hid (ext_set5 (HE.out.trans hE3) (Nat.le_refl _) 1 n 0 ⟨#[]⟩ none 0 0)
         unfold tV
         clear hE3)
      | fail)
    exact bodyPost_ret (v := nV 1 n 0 0) (by simp [results, nV, Tryd.f19, go_sem, s0, s1, s2, s3, s4]) rfl ⟨by rw [HR.out]; rfl, HY.out⟩
  all_goals
    go_enter Tryd.func19, Tryd.ntmps19
    go_upto_region 1 with (fail)
    rw [HW.out]
    go_wp2_with fail
  all_goals exact bodyPost_ret (v := nV 0 0 0 12) (by simp [results, nV, Tryd.f19, go_sem, s0, s1, s2, s3, s4]) rfl ⟨by rw [HR.out]; rfl, HY.out⟩

theorem pbits_any (u : Nat) (hu : u < 18446744073709551616) (w : World) : Calls Tryd.prog 24 #[.int .u64 u] w fun e w' => e = .returned (mkF u) ∧ Ext w w' := by
  obtain ⟨w1, hw, hE, hz, _⟩ := zbox w
  have HW := Lib.hid hw
  have HZ := Lib.hid hz
  have HE := Lib.hid hE
  have hfb := run_frombits u
  have HF := Lib.hid (fun w => pfloat_any u hu w)
  obtain ⟨rk, rg, re, hmk⟩ := mkF_form u
  rw [hmk] at HF ⊢
  clear hw hE hz hu hmk
  go_enter Tryd.func24, Tryd.ntmps24
  go_upto_region 1 with (fail)
  rw [HW.out]
  go_wp2_with (first
    | (go_at_call 22
       (with_reducible refine (HF.out _).mono ?_)
       rintro e w3 ⟨rfl, hE3⟩
       obtain ⟨⟨g0, g1, g2, g3, g4⟩, ⟨a0, a1, a2, a3, a4⟩, s0, s1, s2, s3, s4⟩ := zfacts (HZ.out.ext hE3) rk 0 rg
       unfold set5 at s0 s1 s2 s3 s4
       have HY := Lib.hid (ext_set5 (HE.out.trans hE3) (Nat.le_refl _) rk 0 rg ⟨#[]⟩ none 0 0)
       unfold nV
       clear hE3)
    | fail)
  exact bodyPost_ret (v := nV rk 0 rg re) (by simp [results, nV, Tryd.f24, go_sem, s0, s1, s2, s3, s4]) rfl ⟨rfl, HY.out⟩

end Go.Proofs.YtlpifchimnnfdaaDoor
