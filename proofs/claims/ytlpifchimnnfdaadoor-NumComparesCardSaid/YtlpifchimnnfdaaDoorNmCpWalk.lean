/- NumCompares' walk. -/
import Derived.Test.YtlpifchimnnfdaaDoorNmCmp
import Derived.Test.YtlpifchimnnfdaaDoorNmFmtI
import Derived.Test.YtlpifchimnnfdaaDoorNmRText
namespace Go.Proofs.YtlpifchimnnfdaaDoor
open Go.RowKit
attribute [local irreducible] Ext
attribute [local go_sem] run_store_float

set_option maxRecDepth 100000 in
set_option maxHeartbeats 8000000 in
theorem numCp_any (k n : Int) (f : Nat) (s : ByteArray) (so : Option Addr) (m cap : Nat) (k' n' : Int) (f' : Nat) (s' : ByteArray) (so' : Option Addr) (m' cap' : Nat)
    (hf : f < 18446744073709551616) (_ : -9223372036854775808 ≤ k ∧ k ≤ 9223372036854775807) (hn : -9223372036854775808 ≤ n ∧ n ≤ 9223372036854775807)
    (hf' : f' < 18446744073709551616) (_ : -9223372036854775808 ≤ k' ∧ k' ≤ 9223372036854775807) (_ : -9223372036854775808 ≤ n' ∧ n' ≤ 9223372036854775807) (w : World) (ht : Tab4 w) (hL : laidMetH Tryd.prog laid3 w) :
    Calls Tryd.prog 11 #[.agg #[.int .i64 k, .int .i64 n, .float .f64 f, .string s, .slice so m cap], .agg #[.int .i64 k', .int .i64 n', .float .f64 f', .string s', .slice so' m' cap']] w fun e w' => e = .returned (.bool true) ∧ Ext w w' := by
  obtain ⟨w1, w2, hw1, hw2, hE, hA, hB⟩ := two_boxes w k n f s so m cap k' n' f' s' so' m' cap'
  have HW1 := Lib.hid hw1
  have HW2 := Lib.hid hw2
  have HK := Lib.hid (known_any w2 (ht.ext hE))
  have HE := Lib.hid hE
  have HT := Lib.hid (And.intro (ht.ext hE) (tab_ext (tab_ten hL) hE))
  have HC1 := Lib.hid (fun w => rright_any k n f s so m cap w)
  have HC2 := Lib.hid (fun w => rright_any k' n' f' s' so' m' cap' w)
  have HP := Lib.hid (fun w h1 h2 => pcmp_any k n f s so m cap k' n' f' s' so' m' cap' h1 h2 w)
  have HR := Lib.hid (fun w h1 h2 => rcmp_any k n f s so m cap k' n' f' s' so' m' cap' h1 h2 w)
  have HPS := Lib.hid (fun w h1 h2 => psame_any k n f s so m cap k' n' f' s' so' m' cap' hf hf' h1 h2 w)
  have HRS := Lib.hid (fun w => rsame_any k n f s so m cap k' n' f' s' so' m' cap' w)
  have HPT := Lib.hid (fun w ht hL => text_any k n hn f hf s so m cap w ht hL)
  have HRT := Lib.hid (fun w => rtext_any k n hn f hf s so m cap w)
  obtain ⟨a0, a1, a2, a3, a4⟩ := hA.exts
  obtain ⟨b0, b1, b2, b3, b4⟩ := hB.exts
  have hX := Ext.refl w2
  clear hw1 hw2 hE hA hB ht hL hf hf' hn
  obtain ⟨r1, hr1⟩ : ∃ r, numV k n f s m = r := ⟨_, rfl⟩
  obtain ⟨r2, hr2⟩ : ∃ r, numV k' n' f' s' m' = r := ⟨_, rfl⟩
  obtain ⟨V, hV⟩ : ∃ V, cmpI (numVal k n f) (numVal k' n' f') = V := ⟨_, rfl⟩
  obtain ⟨B, hB⟩ : ∃ B, sameN k n f k' n' f' = B := ⟨_, rfl⟩
  obtain ⟨T, hT⟩ : ∃ T, (if k = 1 then dclS n else textF f) = T := ⟨_, rfl⟩
  rw [hr1] at HC1 HP HR HPS
  rw [hr2] at HC2 HP HR HPS
  rw [hV] at HP HR
  rw [hB] at HPS HRS
  rw [hT] at HPT HRT
  clear hr1 hr2 hV hB hT
  go_enter Tryd.func11, Tryd.ntmps11
  go_upto_region 1 with (fail)
  rw [HW1.out, HW2.out]
  go_upto_region 3 with (first
    | (go_at_call 17; (with_reducible refine HK.out.mono ?_); rintro e w4 ⟨rfl, hX4⟩)
    | fail)
  cases r1
  · go_wp2_with (first
      | (go_at_call 42; (with_reducible refine (HC1.out _).mono ?_); rintro e w5 ⟨rfl, hE5⟩; have HX5 := Lib.hid (hX4.trans hE5); clear hE5)
      | fail)
    go_ret
    exact ⟨rfl, HE.out.trans HX5.out⟩
  · cases r2
    · go_wp2_with (first
        | (go_at_call 42; (with_reducible refine (HC1.out _).mono ?_); rintro e w5 ⟨rfl, hE5⟩; have hX5 := hX4.trans hE5; clear hE5)
        | (go_at_call 42; (with_reducible refine (HC2.out _).mono ?_); rintro e w6 ⟨rfl, hE6⟩; have HX6 := Lib.hid (hX5.trans hE6); clear hE6)
        | fail)
      go_ret
      exact ⟨rfl, HE.out.trans HX6.out⟩
    · go_upto_region 5 with (first
        | (go_at_call 42; (with_reducible refine (HC1.out _).mono ?_); rintro e w5 ⟨rfl, hE5⟩; have hX5 := hX4.trans hE5; clear hE5)
        | (go_at_call 42; (with_reducible refine (HC2.out _).mono ?_); rintro e w6 ⟨rfl, hE6⟩; have hX6 := hX5.trans hE6; clear hE6)
        | fail)
      have hp := fun w => HP.out w (by simp) (by simp)
      have hr := fun w => HR.out w (by simp) (by simp)
      have hps := fun w => HPS.out w (by simp) (by simp)
      have hrs := HRS.out
      have hpt := fun w' (h : Ext w2 w') => HPT.out w' (HT.out.1.ext h) (tab_ext HT.out.2 h)
      have hrt := HRT.out
      clear hX hX4 hX5 HP HR HPS HRS HPT HRT HK HC1 HC2
      go_region_held3 (fun w' => Ext w2 w') (first | assumption | (repeat (first | assumption | apply Ext.drew | apply Ext.drewN)))
        (first
          | (go_at_call 43; (with_reducible refine (hp _).mono ?_); rintro e w7 ⟨rfl, hE7⟩; have hW7 : Ext w2 w7 := Ext.trans (by assumption) hE7)
          | (go_at_call 44; (with_reducible refine (hr _).mono ?_); rintro e w7 ⟨rfl, hE7⟩; have hW7 : Ext w2 w7 := Ext.trans (by assumption) hE7)
          | (go_at_call 45; (with_reducible refine (hps _).mono ?_); rintro e w7 ⟨rfl, hE7⟩; have hW7 : Ext w2 w7 := Ext.trans (by assumption) hE7)
          | (go_at_call 46; (with_reducible refine (hrs _).mono ?_); rintro e w7 ⟨rfl, hE7⟩; have hW7 : Ext w2 w7 := Ext.trans (by assumption) hE7)
          | (go_at_call 48; (with_reducible refine (hrt _).mono ?_); rintro e w7 ⟨rfl, hE7⟩; have hW7 : Ext w2 w7 := Ext.trans (by assumption) hE7)
          | (go_at_call 47; (with_reducible refine (hpt _ ?_).mono ?_); assumption; rintro e w7 ⟨rfl, hE7⟩; have hW7 : Ext w2 w7 := Ext.trans (by assumption) hE7)
          | fail)
      go_wp2_with fail
      go_ret
      exact ⟨rfl, HE.out.trans (by assumption)⟩

end Go.Proofs.YtlpifchimnnfdaaDoor
