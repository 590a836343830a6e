/- ExitsOnce: the walk. -/
import Derived.Test.YtdimmomjildpcaaExKnown
namespace Go.Proofs.Ytdimmomjildpcaa
open Go.RowKit
attribute [local irreducible] Ext
attribute [local go_sem] run_store_float

theorem echk_zero {fr tt kd id rf : Int} {ln : Bool} {nm : ByteArray} {k n : Int} {f : Nat} {s : ByteArray} {m : Nat} {c : Int} (h : echk fr tt kd id rf ln nm k n f s m c = 0) :
    0 ≤ fr ∧ fr ≤ 1099511627776 ∧ 1 ≤ tt ∧ tt ≤ 1099511627776 ∧ numB id (hasI kd) = true ∧ numB rf (hasR kd) = true ∧ rf ≤ 1099511627776 ∧ (hasT kd = true → c = 0) := by
  unfold echk echkB at h
  generalize numB id (hasI kd) = x1 at h ⊢
  generalize numB rf (hasR kd) = x2 at h ⊢
  generalize hasT kd = x3 at h ⊢
  generalize nothB k n f s m = n0 at h
  have a0 : ¬ (fr < 0) := fun hh => by rw [if_pos hh] at h; exact absurd h (by decide)
  rw [if_neg a0] at h
  have a1 : ¬ (1099511627776 < fr) := fun hh => by rw [if_pos hh] at h; exact absurd h (by decide)
  rw [if_neg a1] at h
  have a2 : ¬ (tt < 1) := fun hh => by rw [if_pos hh] at h; exact absurd h (by decide)
  rw [if_neg a2] at h
  have a3 : ¬ (1099511627776 < tt) := fun hh => by rw [if_pos hh] at h; exact absurd h (by decide)
  rw [if_neg a3] at h
  have a4 : ¬ (kd < 1) := fun hh => by rw [if_pos hh] at h; exact absurd h (by decide)
  rw [if_neg a4] at h
  have a5 : ¬ (8 < kd) := fun hh => by rw [if_pos hh] at h; exact absurd h (by decide)
  rw [if_neg a5] at h
  have a6 : ¬ (x3 = true ∧ c ≠ 0) := fun hh => by rw [if_pos hh] at h; exact absurd h (by decide)
  rw [if_neg a6] at h
  have a7 : ¬ (x3 = false ∧ n0 = false) := fun hh => by rw [if_pos hh] at h; exact absurd h (by decide)
  rw [if_neg a7] at h
  have a8 : ¬ (x1 = false) := fun hh => by rw [if_pos hh] at h; exact absurd h (by decide)
  rw [if_neg a8] at h
  have a9 : ¬ (x2 = false) := fun hh => by rw [if_pos hh] at h; exact absurd h (by decide)
  rw [if_neg a9] at h
  have a10 : ¬ (1099511627776 < rf) := fun hh => by rw [if_pos hh] at h; exact absurd h (by decide)
  rw [if_neg a10] at h
  refine ⟨by omega, by omega, by omega, by omega, by simpa using a8, by simpa using a9, by omega, fun ht => ?_⟩
  by_cases hc : c = 0
  · exact hc
  · exact absurd ⟨ht, hc⟩ a6

/-- What the dead answer may be put. -/
theorem answer_good {fr tt kd id rf a b c d e : Int} {l : Bool} {q : Int} {z : ByteArray} {ln : Bool} {nm : ByteArray} {k n : Int} {f : Nat} {s : ByteArray} {m : Nat} {c0 : Int} (h : echk fr tt kd id rf ln nm k n f s m c0 = 0) (hd : DeadIs fr tt kd id rf a b c d e l q z true) :
    echk a b c d e l ⟨#[]⟩ q 0 0 z ([] : List Tm).length (checkT (.mk q 0 0 z [])) = 0 ∧ a = tt ∧ b = fr ∧ okT (.mk q 0 0 z []) ∧ (c ≠ 2 ∧ c ≠ 3 ∧ c ≠ 6) := by
  obtain ⟨g1, g2, g3, g4, g5, g6, g7, _⟩ := echk_zero h
  rcases hd with ⟨h0, rfl, rfl, rfl, rfl, rfl, rfl, rfl, rfl, rfl, _⟩ | ⟨h0, rfl, rfl, rfl, rfl, rfl, rfl, rfl, rfl, rfl, _⟩ | ⟨h0, rfl, rfl, rfl, rfl, rfl, rfl, rfl, rfl, rfl, _⟩ | ⟨_, _, _, _, _, _, _, _, _, hx⟩
  · refine ⟨?_, rfl, rfl, ok_leaf _ _ _, by decide⟩
    rw [check_atom _ (by decide)]
    simp [echk, echkB, hasT, hasI, hasR, hasL, hasN, numB]
    omega
  · refine ⟨?_, rfl, rfl, ok_leaf _ _ _, by decide⟩
    have g5' : 0 < d := by simpa [numB, hasI] using g5
    have e1 : nothB 0 0 0 ⟨#[]⟩ 0 = true := by decide +kernel
    simp [echk, echkB, hasT, hasI, hasR, hasL, hasN, numB, e1, g5']
    omega
  · refine ⟨?_, rfl, rfl, ok_leaf _ _ _, by decide⟩
    have g6' : 0 < e := by simpa [numB, hasR] using g6
    rw [check_atom _ (by decide)]
    simp [echk, echkB, hasT, hasI, hasR, hasL, hasN, numB, g6']
    omega
  · cases hx

set_option maxRecDepth 100000 in
set_option maxHeartbeats 8000000 in
theorem exOnce_any (fr tt kd id rf : Int) (ln : Bool) (nm : ByteArray) {k n : Int} {f : Nat} {s : ByteArray} {L : List Tm} (so : Option Addr) (cap : Nat) (w : World)
    (hrow : RowIn w false (fun k => k < w.heap.size) L so 0) (hok : okT (.mk k n f s L)) :
    Calls Try.prog 4 #[.agg #[.int .i64 fr, .int .i64 tt, .int .i64 kd, .int .i64 id, .int .i64 rf, .bool ln, .string nm, .int .i64 k, .int .i64 n, .float .f64 f, .string s, .slice so L.length cap]] w fun e w' => e = .returned (.bool true) ∧ Ext w w' := by
  have hB := SBox.new w fr tt kd id rf ln nm k n f s so L.length cap
  have hE := (Ext.refl w).alloc (.cells #[.int .i64 fr, .int .i64 tt, .int .i64 kd, .int .i64 id, .int .i64 rf, .bool ln, .string nm, .int .i64 k, .int .i64 n, .float .f64 f, .string s, .slice so L.length cap] 27)
  obtain ⟨w1, hw1⟩ : ∃ w1, w.alloc (.cells #[.int .i64 fr, .int .i64 tt, .int .i64 kd, .int .i64 id, .int .i64 rf, .bool ln, .string nm, .int .i64 k, .int .i64 n, .float .f64 f, .string s, .slice so L.length cap] 27) = w1 := ⟨_, rfl⟩
  rw [hw1] at hB hE
  have hr1 := hrow.ext hE
  obtain ⟨F, hF⟩ : ∃ F, fewT (.mk k n f s L) 100000 1000 = F := ⟨_, rfl⟩
  have HFW : Hid (∀ (w : World), RowIn w false (fun k => k < w1.heap.size) L so 0 → Calls Try.prog 7 #[.agg #[.int .i64 k, .int .i64 n, .float .f64 f, .string s, .slice so L.length cap]] w fun e w' => e = .returned (.bool (decide (0 ≤ F))) ∧ Ext w w') := Lib.hid (fun w hr => by rw [← hF]; exact few16_any w (TmV.of_parts (cap := cap) hr))
  have HFB : Hid (0 ≤ F → 0 ≤ (100000 : Int) ∧ F ≤ 100000 - ((cntT (.mk k n f s L) : Nat) : Int)) := Lib.hid (fun (h : 0 ≤ F) => by have h2 := few_bound.1 (.mk k n f s L) 100000 1000 (by rw [hF]; exact h); rw [hF] at h2; exact h2)
  obtain ⟨C, hC⟩ : ∃ C, echk fr tt kd id rf ln nm k n f s L.length (checkT (.mk k n f s L)) = C := ⟨_, rfl⟩
  have HW := Lib.hid hw1
  have HE := Lib.hid hE
  have HB := Lib.hid hB
  have HR := Lib.hid (hr1.mono (G' := fun k => k < w1.heap.size) (fun k hk => by have := hE.size; omega))
  have HCV := Lib.hid hC
  have HOK := Lib.hid hok
  have HK := Lib.hid (known_any w1)
  clear hw1 hE hB hr1 hF hC hrow hok
  go_enter Try.func4, Try.ntmps4
  go_upto_region 1 with (fail)
  rw [HW.out]
  by_cases hf : 0 ≤ F
  rotate_left
  · have b1 : decide (0 ≤ F) = false := decide_eq_false hf
    clear hf
    go_wp2_with (first
      | (go_at_call 6; (with_reducible refine HK.out.mono ?_); rintro e w2 ⟨rfl, hE2⟩; obtain ⟨d0, d1, d2, d3, d4, d5, d6, d7, d8, d9, d10, d11⟩ := (HB.out.ext hE2).cells; have HX := Lib.hid hE2; clear hE2)
      | (go_at_call 7; (with_reducible refine (HFW.out _ (HR.out.ext HX.out)).mono ?_); rintro e w3 ⟨rfl, hE3⟩; have HX := Lib.hid (HX.out.trans hE3); clear hE3)
      | fail)
    go_ret
    exact ⟨rfl, HE.out.trans HX.out⟩
  have b1 : decide (0 ≤ F) = true := decide_eq_true hf
  have hcnt : cntL L + 1 ≤ 100000000 := by
    have h := HFB.out hf
    simp only [cntT] at h
    omega
  have HCNT := Lib.hid hcnt
  have HCH := Lib.hid (fun w (hr : RowIn w false (fun k => k < w1.heap.size) L so 0) => echeck_any fr tt kd id rf ln nm cap w hr HCNT.out HOK.out)
  rw [HCV.out] at HCH
  clear hcnt hf
  by_cases hc0 : C = 0
  rotate_left
  · have b2 : (C != 0) = true := by simpa using hc0
    clear hc0
    go_wp2_with (first
      | (go_at_call 6; (with_reducible refine HK.out.mono ?_); rintro e w2 ⟨rfl, hE2⟩; obtain ⟨d0, d1, d2, d3, d4, d5, d6, d7, d8, d9, d10, d11⟩ := (HB.out.ext hE2).cells; have HX := Lib.hid hE2; clear hE2)
      | (go_at_call 7; (with_reducible refine (HFW.out _ (HR.out.ext HX.out)).mono ?_); rintro e w3 ⟨rfl, hE3⟩; have hX3 := HX.out.trans hE3; have HX := Lib.hid hX3; clear hE3 d0 d1 d2 d3 d4 d5 d6 d7 d8 d9 d10 d11; obtain ⟨d0, d1, d2, d3, d4, d5, d6, d7, d8, d9, d10, d11⟩ := (HB.out.ext hX3).cells; clear hX3)
      | (go_at_call 8; (with_reducible refine (HCH.out _ (HR.out.ext HX.out)).mono ?_); rintro e w4 ⟨rfl, hE4⟩; have HX := Lib.hid (HX.out.trans hE4); clear hE4)
      | fail)
    go_ret
    exact ⟨rfl, HE.out.trans HX.out⟩
  subst hc0
  obtain ⟨a, b, c, d, e, l, q, z, is, hd⟩ := dead_is fr tt kd id rf
  have HD := Lib.hid hd
  have HPD := Lib.hid (fun w => pdead_any fr tt id rf ln nm k n f s so L.length cap hd w)
  have HGD := Lib.hid (fun (h : is = true) => answer_good HCV.out (by rw [← h]; exact HD.out))
  have HNO := Lib.hid (fun (h : is = false) => (by rcases HD.out with ⟨_, _, _, _, _, _, _, _, _, _, hx⟩ | ⟨_, _, _, _, _, _, _, _, _, _, hx⟩ | ⟨_, _, _, _, _, _, _, _, _, _, hx⟩ | ⟨_, h1, h2, h3, _⟩ <;> first | (rw [h] at hx; cases hx; done) | exact ⟨h1, h2, h3⟩ : a = 0 ∧ b = 0 ∧ c = 0))
  clear hd
  go_upto_region 5 with (first
    | (go_at_call 6; (with_reducible refine HK.out.mono ?_); rintro e w2 ⟨rfl, hE2⟩; obtain ⟨d0, d1, d2, d3, d4, d5, d6, d7, d8, d9, d10, d11⟩ := (HB.out.ext hE2).cells; have HX := Lib.hid hE2; clear hE2)
    | (go_at_call 7; (with_reducible refine (HFW.out _ (HR.out.ext HX.out)).mono ?_); rintro e w3 ⟨rfl, hE3⟩; have hX3 := HX.out.trans hE3; have HX := Lib.hid hX3; clear hE3 d0 d1 d2 d3 d4 d5 d6 d7 d8 d9 d10 d11; obtain ⟨d0, d1, d2, d3, d4, d5, d6, d7, d8, d9, d10, d11⟩ := (HB.out.ext hX3).cells; clear hX3)
    | (go_at_call 8; (with_reducible refine (HCH.out _ (HR.out.ext HX.out)).mono ?_); rintro e w4 ⟨rfl, hE4⟩; have hX4 := HX.out.trans hE4; have HX := Lib.hid hX4; clear hE4 d0 d1 d2 d3 d4 d5 d6 d7 d8 d9 d10 d11; obtain ⟨d0, d1, d2, d3, d4, d5, d6, d7, d8, d9, d10, d11⟩ := (HB.out.ext hX4).cells; clear hX4)
    | fail)
  clear HK HFW HCH HFB
  go_upto_region 6 with (first
    | (go_at_call 9; (with_reducible refine (HPD.out _).mono ?_); rintro e w5 ⟨rfl, hE5⟩; have HX := Lib.hid (HX.out.trans hE5); clear hE5 d0 d1 d2 d3 d4 d5 d6 d7 d8 d9 d10 d11)
    | fail)
  have hS := SBox.new w5 a b c d e l ⟨#[]⟩ q 0 0 z none 0 0
  have hX6 := HX.out.alloc (.cells #[.int .i64 a, .int .i64 b, .int .i64 c, .int .i64 d, .int .i64 e, .bool l, .string ⟨#[]⟩, .int .i64 q, .int .i64 0, .float .f64 0, .string z, .slice none 0 0] 27)
  obtain ⟨w6, hw6⟩ : ∃ w6, w5.alloc (.cells #[.int .i64 a, .int .i64 b, .int .i64 c, .int .i64 d, .int .i64 e, .bool l, .string ⟨#[]⟩, .int .i64 q, .int .i64 0, .float .f64 0, .string z, .slice none 0 0] 27) = w6 := ⟨_, rfl⟩
  obtain ⟨b5, hb5⟩ : ∃ b5, w5.heap.size = b5 := ⟨_, rfl⟩
  rw [hw6] at hS hX6 ⊢
  rw [hb5] at hS ⊢
  have HX := Lib.hid hX6
  have HS := Lib.hid hS
  clear hw6 hb5 hX6
  obtain ⟨d0, d1, d2, d3, d4, d5, d6, d7, d8, d9, d10, d11⟩ := (HB.out.ext HX.out).cells
  obtain ⟨u0, u1, u2, u3, u4, u5, u6, u7, u8, u9, u10, u11⟩ := hS.cells
  clear hS
  cases is
  · obtain ⟨rfl, rfl, rfl⟩ := HNO.out rfl
    go_wp2_with fail
    go_ret
    exact ⟨rfl, HE.out.trans HX.out⟩
  · obtain ⟨hg, rfl, rfl, hok2, hc3⟩ := HGD.out rfl
    have HPD2 := Lib.hid (fun w => pdead0 a b c d e l ⟨#[]⟩ q 0 0 z none 0 0 hc3 w)
    have HCK : Hid (∀ w : World, Calls Try.prog 8 #[.agg #[.int .i64 a, .int .i64 b, .int .i64 c, .int .i64 d, .int .i64 e, .bool l, .string ⟨#[]⟩, .int .i64 q, .int .i64 0, .float .f64 0, .string z, .slice none 0 0]] w fun e w' => e = .returned (.int .i64 0) ∧ Ext w w') := Lib.hid (fun w => by
      have hh := echeck_any (L := []) (own := false) (G := fun _ => True) (so := none) a b c d e l ⟨#[]⟩ (k := q) (n := 0) (f := 0) (s := z) 0 w (row_nil _ _ _ _) (by decide) hok2
      rw [hg] at hh
      exact hh)
    have HY := Lib.hid (Ext.refl w6)
    clear hg hok2 hc3
    go_upto_region 9 with (first
      | (go_at_call 9; (with_reducible refine (HPD2.out _).mono ?_); rintro e w7 ⟨rfl, hE7⟩; have HY := Lib.hid (HY.out.trans hE7); clear hE7)
      | fail)
    clear d0 d1 d2 d3 d4 d5 d6 d7 d8 d9 d10 d11 u0 u1 u2 u3 u4 u5 u6 u7 u8 u9 u10 u11
    have hY8 := HY.out.alloc (.cells #[.int .i64 0, .int .i64 0, .int .i64 0, .int .i64 0, .int .i64 0, .bool false, .string ⟨#[]⟩, .int .i64 0, .int .i64 0, .float .f64 0, .string ⟨#[]⟩, .slice none 0 0] 27)
    obtain ⟨w8, hw8⟩ : ∃ w6, w7.alloc (.cells #[.int .i64 0, .int .i64 0, .int .i64 0, .int .i64 0, .int .i64 0, .bool false, .string ⟨#[]⟩, .int .i64 0, .int .i64 0, .float .f64 0, .string ⟨#[]⟩, .slice none 0 0] 27) = w6 := ⟨_, rfl⟩
    rw [hw8] at hY8 ⊢
    obtain ⟨u0, u1, u2, u3, u4, u5, u6, u7, u8, u9, u10, u11⟩ := (HS.out.ext hY8).cells
    have HY := Lib.hid hY8
    clear hw8 hY8
    go_wp2_with (first
      | (go_at_call 8; (with_reducible refine (HCK.out _).mono ?_); rintro e w9 ⟨rfl, hE9⟩; have hY9 := HY.out.trans hE9; have HY := Lib.hid hY9; clear hE9 u0 u1 u2 u3 u4 u5 u6 u7 u8 u9 u10 u11; obtain ⟨u0, u1, u2, u3, u4, u5, u6, u7, u8, u9, u10, u11⟩ := (HS.out.ext hY9).cells; obtain ⟨d0, d1, d2, d3, d4, d5, d6, d7, d8, d9, d10, d11⟩ := (HB.out.ext (HX.out.trans hY9)).cells; clear hY9)
      | fail)
    go_ret
    exact ⟨rfl, HE.out.trans (HX.out.trans HY.out)⟩

end Go.Proofs.Ytdimmomjildpcaa
