/- ExitsKills: the whole walk. -/
import Derived.Test.YtdimmomjildpcaaExKills1
import Derived.Test.YtdimmomjildpcaaExKills2
import Derived.Test.YtdimmomjildpcaaExKills3
namespace Go.Proofs.Ytdimmomjildpcaa
open Go.RowKit
attribute [local irreducible] Ext
attribute [local go_sem] run_store_float

set_option maxRecDepth 100000 in
set_option maxHeartbeats 4000000 in
theorem kills_out (fr tt : Int) (ln : Bool) {k n : Int} {f : Nat} {s : ByteArray} {L : List Tm} (so : Option Addr) (cap : Nat) (w : World)
    (hrow : RowIn w false (fun k => k < w.heap.size) L so 0) (hok : okT (.mk k n f s L)) (h : ¬ (0 ≤ fewT (.mk k n f s L) 100000 1000 ∧ echk fr tt 5 0 0 ln ⟨#[]⟩ k n f s L.length (checkT (.mk k n f s L)) = 0)) :
    Calls Try.prog 5 #[.int .i64 fr, .int .i64 tt, .agg #[.int .i64 k, .int .i64 n, .float .f64 f, .string s, .slice so L.length cap], .bool ln] w fun e w' => e = .returned (.bool true) ∧ Ext w w' := by
  have hB := RBox.new w k n f s so L.length cap
  have hE := (Ext.refl w).alloc (.cells #[.int .i64 k, .int .i64 n, .float .f64 f, .string s, .slice so L.length cap] 25)
  obtain ⟨w1, hw1⟩ : ∃ w1, w.alloc (.cells #[.int .i64 k, .int .i64 n, .float .f64 f, .string s, .slice so L.length cap] 25) = w1 := ⟨_, rfl⟩
  rw [hw1] at hB hE
  obtain ⟨b, hb⟩ : ∃ b, decide (0 ≤ fewT (.mk k n f s L) 100000 1000) = b := ⟨_, rfl⟩
  obtain ⟨C, hC⟩ : ∃ C, echk fr tt 5 0 0 ln ⟨#[]⟩ k n f s L.length (checkT (.mk k n f s L)) = C := ⟨_, rfl⟩
  have HFW : Hid (∀ (w : World), RowIn w false (fun k => k < w1.heap.size) L so 0 → Calls Try.prog 7 #[.agg #[.int .i64 k, .int .i64 n, .float .f64 f, .string s, .slice so L.length cap]] w fun e w' => e = .returned (.bool b) ∧ Ext w w') := Lib.hid (fun w hr => by rw [← hb]; exact few16_any w (TmV.of_parts (cap := cap) hr))
  have HCH : Hid (b = true → ∀ (w : World), RowIn w false (fun k => k < w1.heap.size) L so 0 → Calls Try.prog 8 #[.agg #[.int .i64 fr, .int .i64 tt, .int .i64 5, .int .i64 0, .int .i64 0, .bool ln, .string ⟨#[]⟩, .int .i64 k, .int .i64 n, .float .f64 f, .string s, .slice so L.length cap]] w fun e w' => e = .returned (.int .i64 C) ∧ Ext w w') := Lib.hid (fun hbt w hr => by
    have hfew : 0 ≤ fewT (.mk k n f s L) 100000 1000 := of_decide_eq_true (hb.trans hbt)
    have hcnt := (few_bound.1 (.mk k n f s L) 100000 1000 hfew).2
    simp only [cntT] at hcnt
    have h := echeck_any fr tt 5 0 0 ln ⟨#[]⟩ cap w hr (by omega) hok
    rw [hC] at h
    exact h)
  have HNO := Lib.hid (show b = true → C ≠ 0 from fun hbt hc => h ⟨of_decide_eq_true (hb.trans hbt), hC.trans hc⟩)
  have HW := Lib.hid hw1
  have HE := Lib.hid hE
  have HB := Lib.hid hB
  have HR := Lib.hid ((hrow.ext hE).mono (G' := fun k => k < w1.heap.size) (fun k hk => by have := hE.size; omega))
  have HK := Lib.hid (known_any w1)
  clear hw1 hE hB hrow hok hb hC h
  cases b
  · go_enter Try.func5, Try.ntmps5
    go_upto_region 1 with (fail)
    rw [HW.out]
    go_upto_region 3 with (first
      | (go_at_call 6; (with_reducible refine HK.out.mono ?_); rintro e w2 ⟨rfl, hE2⟩; have HX := Lib.hid hE2; clear hE2)
      | fail)
    obtain ⟨p0, p1, p2, p3, p4⟩ := (HB.out.ext HX.out).cells
    go_upto_region 4 with (fail)
    have hX3 := HX.out.alloc (.cells #[.int .i64 fr, .int .i64 tt, .int .i64 5, .int .i64 0, .int .i64 0, .bool ln, .string ⟨#[]⟩, .int .i64 k, .int .i64 n, .float .f64 f, .string s, .slice so L.length cap] 27)
    obtain ⟨w3, hw3⟩ : ∃ w3, w2.alloc (.cells #[.int .i64 fr, .int .i64 tt, .int .i64 5, .int .i64 0, .int .i64 0, .bool ln, .string ⟨#[]⟩, .int .i64 k, .int .i64 n, .float .f64 f, .string s, .slice so L.length cap] 27) = w3 := ⟨_, rfl⟩
    rw [hw3] at hX3 ⊢
    clear hw3 p0 p1 p2 p3 p4
    obtain ⟨p0, p1, p2, p3, p4⟩ := (HB.out.ext hX3).cells
    have HX3 := Lib.hid hX3
    clear hX3
    go_wp2_with (first
      | (go_at_call 7; (with_reducible refine (HFW.out _ (HR.out.ext HX3.out)).mono ?_); rintro e w4 ⟨rfl, hE4⟩; have HE4 := Lib.hid hE4; clear hE4 p0 p1 p2 p3 p4)
      | fail)
    go_ret
    exact ⟨rfl, HE.out.trans (HX3.out.trans HE4.out)⟩
  · have b2 : (C != 0) = true := by have := HNO.out rfl; simpa using this
    have HCH2 := Lib.hid (HCH.out rfl)
    clear HCH
    go_enter Try.func5, Try.ntmps5
    go_upto_region 1 with (fail)
    rw [HW.out]
    go_upto_region 3 with (first
      | (go_at_call 6; (with_reducible refine HK.out.mono ?_); rintro e w2 ⟨rfl, hE2⟩; have HX := Lib.hid hE2; clear hE2)
      | fail)
    obtain ⟨p0, p1, p2, p3, p4⟩ := (HB.out.ext HX.out).cells
    go_upto_region 4 with (fail)
    have hS := SBox.new w2 fr tt 5 0 0 ln ⟨#[]⟩ k n f s so L.length cap
    have hX3 := HX.out.alloc (.cells #[.int .i64 fr, .int .i64 tt, .int .i64 5, .int .i64 0, .int .i64 0, .bool ln, .string ⟨#[]⟩, .int .i64 k, .int .i64 n, .float .f64 f, .string s, .slice so L.length cap] 27)
    obtain ⟨w3, hw3⟩ : ∃ w3, w2.alloc (.cells #[.int .i64 fr, .int .i64 tt, .int .i64 5, .int .i64 0, .int .i64 0, .bool ln, .string ⟨#[]⟩, .int .i64 k, .int .i64 n, .float .f64 f, .string s, .slice so L.length cap] 27) = w3 := ⟨_, rfl⟩
    obtain ⟨b9, hb9⟩ : ∃ b9, w2.heap.size = b9 := ⟨_, rfl⟩
    rw [hw3] at hS hX3 ⊢
    rw [hb9] at hS ⊢
    clear hw3 hb9 p0 p1 p2 p3 p4
    obtain ⟨p0, p1, p2, p3, p4⟩ := (HB.out.ext hX3).cells
    have HS := Lib.hid hS
    have HX3 := Lib.hid hX3
    clear hS hX3
    go_wp2_with (first
      | (go_at_call 7; (with_reducible refine (HFW.out _ (HR.out.ext HX3.out)).mono ?_); rintro e w4 ⟨rfl, hE4⟩; have HE4 := Lib.hid hE4; obtain ⟨d0, d1, d2, d3, d4, d5, d6, d7, d8, d9, d10, d11⟩ := (HS.out.ext hE4).cells; clear hE4 p0 p1 p2 p3 p4)
      | (go_at_call 8; (with_reducible refine (HCH2.out _ (HR.out.ext (HX3.out.trans HE4.out))).mono ?_); rintro e w5 ⟨rfl, hE5⟩; have HX5 := Lib.hid (HE4.out.trans hE5); clear hE5 d0 d1 d2 d3 d4 d5 d6 d7 d8 d9 d10 d11)
      | fail)
    go_ret
    exact ⟨rfl, HE.out.trans (HX3.out.trans HX5.out)⟩

theorem exKills_any (fr tt : Int) (ln : Bool) {k n : Int} {f : Nat} {s : ByteArray} {L : List Tm} (so : Option Addr) (cap : Nat) (w : World)
    (hrow : RowIn w false (fun k => k < w.heap.size) L so 0) (hok : okT (.mk k n f s L)) :
    Calls Try.prog 5 #[.int .i64 fr, .int .i64 tt, .agg #[.int .i64 k, .int .i64 n, .float .f64 f, .string s, .slice so L.length cap], .bool ln] w fun e w' => e = .returned (.bool true) ∧ Ext w w' := by
  by_cases h : 0 ≤ fewT (.mk k n f s L) 100000 1000 ∧ echk fr tt 5 0 0 ln ⟨#[]⟩ k n f s L.length (checkT (.mk k n f s L)) = 0
  · obtain ⟨hf, hz⟩ := h
    cases hkl : (!ln && atomB k s killS)
    · cases hd : (atomB k s normalS && (ln || fr != tt))
      · exact kills_ends fr tt ln so cap w hrow hok hf hz rfl rfl hkl hd
      · exact kills_nothing fr tt ln so cap w hrow hok hf hz rfl rfl hkl hd
    · unfold atomB at hkl
      simp only [Bool.and_eq_true, decide_eq_true_eq, Bool.not_eq_true'] at hkl
      obtain ⟨rfl, rfl, rfl⟩ := hkl
      exact kills_kill fr tt so cap w hrow hok hf hz
  · exact kills_out fr tt ln so cap w hrow hok h

end Go.Proofs.Ytdimmomjildpcaa
