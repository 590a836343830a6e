/- Numbers: the document's reckon, real. -/
import Derived.Test.YtlpifchimnnfdaaDoorNmRProd
namespace Go.Proofs.YtlpifchimnnfdaaDoor
open Go.RowKit
attribute [local irreducible] Ext
attribute [local go_sem] run_store_float

theorem mkI_in {p : Int} (h : inI p = false) : mkI p = nV 0 0 0 12 := by
  unfold inI at h
  unfold mkI
  rw [if_neg]
  rintro ⟨h1, h2⟩
  rw [decide_eq_true h1, decide_eq_true h2] at h
  cases h

set_option maxHeartbeats 1000000 in
theorem reckon_any (sg : ByteArray) (a b : Int) (ha : -576460752303423488 ≤ a ∧ a ≤ 576460752303423487) (hb : -576460752303423488 ≤ b ∧ b ≤ 576460752303423487) (w : World) :
    Calls Tryd.prog 66 #[.string sg, .int .i64 a, .int .i64 b] w fun e w' => e = .returned (mkI (exI sg a b)) ∧ Ext w w' := by
  obtain ⟨w1, hw, hE, hz, _⟩ := zbox w
  have HW := Lib.hid hw
  have HZ := Lib.hid hz
  have HE := Lib.hid hE
  have hx := fun w => product_any a b ha hb w
  have hi := fun n w => rint_any n w
  obtain ⟨ha1, ha2⟩ := ha
  obtain ⟨hb1, hb2⟩ := hb
  unfold exI
  cases b1 : (sg.toList == [43])
  · cases b2 : (sg.toList == [45])
    · rw [if_neg (by decide), if_neg (by decide)]
      obtain ⟨p, hp⟩ : ∃ p, a * b = p := ⟨_, rfl⟩
      rw [hp] at hx ⊢
      clear hp
      cases hin : inI p
      · have HV := Lib.hid (mkI_in hin)
        obtain ⟨⟨g0, g1, g2, g3, g4⟩, ⟨a0, a1, a2, a3, a4⟩, s0, s1, s2, s3, s4⟩ := zfacts hz 0 0 0
        unfold set5 at s0 s1 s2 s3 s4
        have HY := Lib.hid (ext_set5 hE (Nat.le_refl _) 0 0 0 ⟨#[]⟩ none 0 0)
        unfold ProdPost at hx
        rw [hin] at hx
        have HX := Lib.hid hx
        clear hw hE hz hi hx hin
        go_enter Tryd.func66, Tryd.ntmps66
        go_upto_region 1 with (fail)
        rw [HW.out]
        go_wp2_with (first
          | (go_at_call 84; (with_reducible refine (HX.out _).mono ?_); rintro e wa ⟨⟨q, rfl, _⟩, rfl⟩)
          | fail)
        exact bodyPost_ret (v := nV 0 0 0 12) (by simp [results, nV, Tryd.f66, go_sem, s0, s1, s2, s3, s4]) rfl ⟨by rw [HV.out], HY.out⟩
      · obtain ⟨rk, rn, rf, re, hmk⟩ := nV_form (.inl (mkI_form p))
        have hi := hi p
        rw [hmk] at hi ⊢
        unfold ProdPost at hx
        rw [hin] at hx
        have HX := Lib.hid hx
        have HI := Lib.hid hi
        clear hw hE hz hi hx hin hmk
        go_enter Tryd.func66, Tryd.ntmps66
        go_upto_region 1 with (fail)
        rw [HW.out]
        go_wp2_with (first
          | (go_at_call 84; (with_reducible refine (HX.out _).mono ?_); rintro e wa ⟨⟨q, rfl, hq⟩, rfl⟩; obtain rfl := hq rfl; clear hq)
          | (go_at_call 19
             (with_reducible refine (HI.out _).mono ?_)
             rintro e w3 ⟨rfl, hE3⟩
             obtain ⟨⟨g0, g1, g2, g3, g4⟩, ⟨a0, a1, a2, a3, a4⟩, s0, s1, s2, s3, s4⟩ := zfacts (HZ.out.ext hE3) rk rn rf
             unfold set5 at s0 s1 s2 s3 s4
             have HY := Lib.hid (ext_set5 (HE.out.trans hE3) (Nat.le_refl _) rk rn rf ⟨#[]⟩ none 0 0)
             unfold nV
             clear hE3)
          | fail)
        exact bodyPost_ret (v := nV rk rn rf re) (by simp [results, nV, Tryd.f66, go_sem, s0, s1, s2, s3, s4]) rfl ⟨rfl, HY.out⟩
    · rw [if_neg (by decide), if_pos rfl]
      obtain ⟨rk, rn, rf, re, hmk⟩ := nV_form (.inl (mkI_form (a - b)))
      have hi := hi (a - b)
      rw [hmk] at hi ⊢
      have HX := Lib.hid hi
      clear hx hi hmk hw hE hz
      go_enter Tryd.func66, Tryd.ntmps66
      go_upto_region 1 with (fail)
      rw [HW.out]
      go_wp2_with (first
        | (go_at_call 19
           (with_reducible refine (HX.out _).mono ?_)
           rintro e w3 ⟨rfl, hE3⟩
           obtain ⟨⟨g0, g1, g2, g3, g4⟩, ⟨a0, a1, a2, a3, a4⟩, s0, s1, s2, s3, s4⟩ := zfacts (HZ.out.ext hE3) rk rn rf
           unfold set5 at s0 s1 s2 s3 s4
           have HY := Lib.hid (ext_set5 (HE.out.trans hE3) (Nat.le_refl _) rk rn rf ⟨#[]⟩ none 0 0)
           unfold nV
           clear hE3)
        | fail)
      exact bodyPost_ret (v := nV rk rn rf re) (by simp [results, nV, Tryd.f66, go_sem, s0, s1, s2, s3, s4]) rfl ⟨rfl, HY.out⟩
  · rw [if_pos rfl]
    obtain ⟨rk, rn, rf, re, hmk⟩ := nV_form (.inl (mkI_form (a + b)))
    have hi := hi (a + b)
    rw [hmk] at hi ⊢
    have HX := Lib.hid hi
    clear hx hi hmk hw hE hz
    go_enter Tryd.func66, Tryd.ntmps66
    go_upto_region 1 with (fail)
    rw [HW.out]
    go_wp2_with (first
      | (go_at_call 19
         (with_reducible refine (HX.out _).mono ?_)
         rintro e w3 ⟨rfl, hE3⟩
         obtain ⟨⟨g0, g1, g2, g3, g4⟩, ⟨a0, a1, a2, a3, a4⟩, s0, s1, s2, s3, s4⟩ := zfacts (HZ.out.ext hE3) rk rn rf
         unfold set5 at s0 s1 s2 s3 s4
         have HY := Lib.hid (ext_set5 (HE.out.trans hE3) (Nat.le_refl _) rk rn rf ⟨#[]⟩ none 0 0)
         unfold nV
         clear hE3)
      | fail)
    exact bodyPost_ret (v := nV rk rn rf re) (by simp [results, nV, Tryd.f66, go_sem, s0, s1, s2, s3, s4]) rfl ⟨rfl, HY.out⟩

theorem rnear_any (n : Int) (h64 : -9223372036854775808 ≤ n ∧ n ≤ 9223372036854775807) (w : World) : Calls Tryd.prog 39 #[.int .i64 n] w fun e w' => e = .returned (.float .f64 (nearF n)) ∧ w = w' := by
  by_cases h : -9007199254740992 < n ∧ n < 9007199254740992
  · exact rnear_small n h w
  · exact rnear_great n (by omega) h64 w

/-- A right number as a float, as the document has it. -/
theorem rreal_any (k n : Int) (f : Nat) (s : ByteArray) (so : Option Addr) (m cap : Nat) (hk : k = 1 ∨ k = 2) (h64 : -9223372036854775808 ≤ n ∧ n ≤ 9223372036854775807) (w : World) :
    Calls Tryd.prog 67 #[.agg #[.int .i64 k, .int .i64 n, .float .f64 f, .string s, .slice so m cap]] w fun e w' => e = .returned (.float .f64 (realF k n f)) ∧ Ext w w' := by
  have hE := (Ext.refl w).alloc (.cells #[.int .i64 k, .int .i64 n, .float .f64 f, .string s, .slice so m cap] 27)
  have HE := Lib.hid hE
  have HN := Lib.hid (fun w => rnear_any n h64 w)
  unfold realF
  clear hE h64
  rcases hk with rfl | rfl
  · rw [if_pos (by decide)]
    go_enter Tryd.func67, Tryd.ntmps67
    go_wp2_with (first
      | (go_at_call 39; (with_reducible refine (HN.out _).mono ?_); rintro e wa ⟨rfl, rfl⟩)
      | fail)
    go_ret
    exact ⟨rfl, HE.out⟩
  · rw [if_neg (by decide)]
    go_enter Tryd.func67, Tryd.ntmps67
    go_wp2_with fail
    go_ret
    exact ⟨rfl, HE.out⟩

end Go.Proofs.YtlpifchimnnfdaaDoor
