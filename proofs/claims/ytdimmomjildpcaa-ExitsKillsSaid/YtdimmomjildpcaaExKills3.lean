/- ExitsKills: ends. -/
import Derived.Test.YtdimmomjildpcaaExOnceW
import Derived.Test.YtdimmomjildpcaaExToldA
import Derived.Test.YtdimmomjildpcaaExToldB
namespace Go.Proofs.Ytdimmomjildpcaa
open Go.RowKit
attribute [local irreducible] Ext
attribute [local go_sem] run_store_float

set_option maxRecDepth 100000 in
set_option maxHeartbeats 8000000 in
theorem kills_ends (fr tt : Int) (ln : Bool) {k : Int} {n : Int} {f : Nat} {s : ByteArray} {L : List Tm} (so : Option Addr) (cap : Nat) (w : World)
    (hrow : RowIn w false (fun k => k < w.heap.size) L so 0) (hok : okT (.mk k n f s L)) (hfew : 0 ≤ fewT (.mk k n f s L) 100000 1000) (hz : echk fr tt 5 0 0 ln ⟨#[]⟩ k n f s L.length (checkT (.mk k n f s L)) = 0) {xn xk : Bool} (hxn : atomB k s normalS = xn) (hxk : atomB k s killS = xk) (hq : (!ln && xk) = false) (hd : (xn && (ln || fr != tt)) = false) :
    Calls Try.prog 5 #[.int .i64 fr, .int .i64 tt, .agg #[.int .i64 k, .int .i64 n, .float .f64 f, .string s, .slice so L.length cap], .bool ln] w fun e w' => e = .returned (.bool true) ∧ Ext w w' := by
  have hB := RBox.new w k n f s so L.length cap
  have hE := (Ext.refl w).alloc (.cells #[.int .i64 k, .int .i64 n, .float .f64 f, .string s, .slice so L.length cap] 25)
  obtain ⟨w1, hw1⟩ : ∃ w1, w.alloc (.cells #[.int .i64 k, .int .i64 n, .float .f64 f, .string s, .slice so L.length cap] 25) = w1 := ⟨_, rfl⟩
  rw [hw1] at hB hE
  have hcnt : cntL L + 20 ≤ 100000000 := by
    have h := (few_bound.1 (.mk k n f s L) 100000 1000 hfew).2
    simp only [cntT] at h
    omega
  have hzero := echk_zero hz
  have hckr : checkT (.mk k n f s L) = 0 := hzero.2.2.2.2.2.2.2 rfl
  have b1 : decide (0 ≤ fewT (.mk k n f s L) 100000 1000) = true := decide_eq_true hfew
  have HFW : Hid (∀ (w : World), RowIn w false (fun k => k < w1.heap.size) L so 0 → Calls Try.prog 7 #[.agg #[.int .i64 k, .int .i64 n, .float .f64 f, .string s, .slice so L.length cap]] w fun e w' => e = .returned (.bool true) ∧ Ext w w') := Lib.hid (fun w hr => by rw [← b1]; exact few16_any w (TmV.of_parts (cap := cap) hr))
  have HCH : Hid (∀ (w : World), RowIn w false (fun k => k < w1.heap.size) L so 0 → Calls Try.prog 8 #[.agg #[.int .i64 fr, .int .i64 tt, .int .i64 5, .int .i64 0, .int .i64 0, .bool ln, .string ⟨#[]⟩, .int .i64 k, .int .i64 n, .float .f64 f, .string s, .slice so L.length cap]] w fun e w' => e = .returned (.int .i64 0) ∧ Ext w w') := Lib.hid (fun w hr => by
    have h := echeck_any fr tt 5 0 0 ln ⟨#[]⟩ cap w hr (by omega) hok
    rw [hz] at h
    exact h)
  have HAX : Hid (∀ (w : World), RowIn w false (fun k => k < w1.heap.size) L so 0 → Calls Try.prog 12 #[.agg #[.int .i64 fr, .int .i64 tt, .int .i64 5, .int .i64 0, .int .i64 0, .bool ln, .string ⟨#[]⟩, .int .i64 k, .int .i64 n, .float .f64 f, .string s, .slice so L.length cap], .bool true] w fun e w' => ToldPost w fr e w') := Lib.hid (fun w hr => by
    cases ln
    · have hxk0 : xk = false := by simpa using hq
      subst hxk0
      exact told_plain fr tt 0 0 ⟨#[]⟩ cap w hr (by omega) hok hz hxn hxk ⟨hzero.1, hzero.2.1⟩ hckr hcnt
    · exact told_link fr tt 0 0 ⟨#[]⟩ cap w hr (by omega) hok hz hxn hxk ⟨hzero.1, hzero.2.1⟩ hckr hcnt)
  have HAY : Hid (∀ (w : World), RowIn w false (fun k => k < w1.heap.size) L so 0 → Calls Try.prog 12 #[.agg #[.int .i64 fr, .int .i64 tt, .int .i64 5, .int .i64 0, .int .i64 0, .bool ln, .string ⟨#[]⟩, .int .i64 k, .int .i64 n, .float .f64 f, .string s, .slice so L.length cap], .bool false] w fun e w' => ∃ so2 cap2, e = .returned (.tuple #[.agg #[.int .i64 2, .int .i64 k, .int .i64 n, .float .f64 f, .string s, .slice so2 L.length cap2], .int .i64 0]) ∧ RowIn w' true (fun j => w.heap.size ≤ j) L so2 0 ∧ Ext w w') := Lib.hid (fun w hr => act_ends fr tt 0 0 ln ⟨#[]⟩ cap w hr (by omega) hok hz hxn hxk ⟨hq, hd⟩)
  have HST := Lib.hid (And.intro hxn (And.intro hxk (And.intro hq hd)))
  have HOK := Lib.hid hok
  clear hxn hxk hq hd
  have HW := Lib.hid hw1
  have HE := Lib.hid hE
  have HB := Lib.hid hB
  have HR := Lib.hid ((hrow.ext hE).mono (G' := fun k => k < w1.heap.size) (fun k hk => by have := hE.size; omega))
  have HK := Lib.hid (known_any w1)
  have HCN := Lib.hid hcnt
  clear hw1 hE hB hrow hok hfew hz hcnt hzero hckr b1
  go_enter Try.func5, Try.ntmps5
  go_upto_region 1 with (fail)
  rw [HW.out]
  go_upto_region 3 with (first
    | (go_at_call 6; (with_reducible refine HK.out.mono ?_); rintro e w2 ⟨rfl, hE2⟩; have HX := Lib.hid hE2; clear hE2)
    | fail)
  obtain ⟨p0, p1, p2, p3, p4⟩ := (HB.out.ext HX.out).cells
  go_upto_region 4 with (fail)
  have hS := SBox.new w2 fr tt 5 0 0 ln ⟨#[]⟩ k n f s so L.length cap
  have hX3 := HX.out.alloc (.cells #[.int .i64 fr, .int .i64 tt, .int .i64 5, .int .i64 0, .int .i64 0, .bool ln, .string ⟨#[]⟩, .int .i64 k, .int .i64 n, .float .f64 f, .string s, .slice so L.length cap] 27)
  obtain ⟨w3, hw3⟩ : ∃ w3, w2.alloc (.cells #[.int .i64 fr, .int .i64 tt, .int .i64 5, .int .i64 0, .int .i64 0, .bool ln, .string ⟨#[]⟩, .int .i64 k, .int .i64 n, .float .f64 f, .string s, .slice so L.length cap] 27) = w3 := ⟨_, rfl⟩
  obtain ⟨b9, hb9⟩ : ∃ b9, w2.heap.size = b9 := ⟨_, rfl⟩
  rw [hw3] at hS hX3 ⊢
  rw [hb9] at hS ⊢
  clear hw3 hb9 p0 p1 p2 p3 p4
  obtain ⟨p0, p1, p2, p3, p4⟩ := (HB.out.ext hX3).cells
  have HS := Lib.hid hS
  have HX3 := Lib.hid hX3
  clear hS hX3
  go_upto_region 6 with (first
    | (go_at_call 7; (with_reducible refine (HFW.out _ (HR.out.ext HX3.out)).mono ?_); rintro e w4 ⟨rfl, hE4⟩; have HE4 := Lib.hid hE4; obtain ⟨d0, d1, d2, d3, d4, d5, d6, d7, d8, d9, d10, d11⟩ := (HS.out.ext hE4).cells; clear hE4 p0 p1 p2 p3 p4)
    | (go_at_call 8; (with_reducible refine (HCH.out _ (HR.out.ext (HX3.out.trans HE4.out))).mono ?_); rintro e w5 ⟨rfl, hE5⟩; have HX5 := Lib.hid (HE4.out.trans hE5); clear hE5 d0 d1 d2 d3 d4 d5 d6 d7 d8 d9 d10 d11)
    | fail)
  clear HFW HCH HK
  obtain ⟨d0, d1, d2, d3, d4, d5, d6, d7, d8, d9, d10, d11⟩ := (HS.out.ext HX5.out).cells
  go_upto_region 7 with (first
    | (go_at_call 12; (with_reducible refine (HAX.out _ (HR.out.ext (HX3.out.trans HX5.out))).mono ?_); rintro e w6 ⟨y, so3, cap3, rfl, hrX, hchk, hcy, hoky, hE6⟩; have HRX := Lib.hid hrX; have HCX := Lib.hid (And.intro hchk (And.intro hcy hoky)); clear hrX hchk hcy hoky; have HX6 := Lib.hid (HX5.out.trans hE6); clear hE6 d0 d1 d2 d3 d4 d5 d6 d7 d8 d9 d10 d11)
    | fail)
  have hO := OBox.new w6 1 7 0 0 ⟨#[]⟩ so3 3 cap3
  have hX7 := HX6.out.alloc (.cells #[.int .i64 1, .int .i64 7, .int .i64 0, .float .f64 0, .string ⟨#[]⟩, .slice so3 3 cap3] 37)
  obtain ⟨w7, hw7⟩ : ∃ w7, w6.alloc (.cells #[.int .i64 1, .int .i64 7, .int .i64 0, .float .f64 0, .string ⟨#[]⟩, .slice so3 3 cap3] 37) = w7 := ⟨_, rfl⟩
  obtain ⟨b10, hb10⟩ : ∃ b10, w6.heap.size = b10 := ⟨_, rfl⟩
  have hE67 : Ext w6 w7 := hw7 ▸ (Ext.refl w6).alloc _
  rw [hw7] at hO hX7 ⊢
  rw [hb10] at hO ⊢
  clear hw7 hb10
  obtain ⟨d0, d1, d2, d3, d4, d5, d6, d7, d8, d9, d10, d11⟩ := (HS.out.ext hX7).cells
  have HX7 := Lib.hid hX7
  have HO := Lib.hid hO
  have HE67 := Lib.hid hE67
  clear hO hX7 hE67
  go_upto_region 8 with (first
    | (go_at_call 12; (with_reducible refine (HAY.out _ (HR.out.ext (HX3.out.trans HX7.out))).mono ?_); rintro e w8 ⟨so2, cap2, rfl, hrY, hE8⟩; have HRY := Lib.hid hrY; clear hrY; have HX8 := Lib.hid hE8; clear hE8 d0 d1 d2 d3 d4 d5 d6 d7 d8 d9 d10 d11)
    | fail)
  have hQ := OBox.new w8 2 k n f s so2 L.length cap2
  have hX9 := HX8.out.alloc (.cells #[.int .i64 2, .int .i64 k, .int .i64 n, .float .f64 f, .string s, .slice so2 L.length cap2] 37)
  obtain ⟨w9, hw9⟩ : ∃ w9, w8.alloc (.cells #[.int .i64 2, .int .i64 k, .int .i64 n, .float .f64 f, .string s, .slice so2 L.length cap2] 37) = w9 := ⟨_, rfl⟩
  obtain ⟨b12, hb12⟩ : ∃ b12, w8.heap.size = b12 := ⟨_, rfl⟩
  have hE89 : Ext w8 w9 := hw9 ▸ (Ext.refl w8).alloc _
  rw [hw9] at hQ hX9 ⊢
  rw [hb12] at hQ ⊢
  clear hw9 hb12
  obtain ⟨x0, x1, x2, x3, x4, x5⟩ := (HO.out.ext hX9).cells
  obtain ⟨y0, y1, y2, y3, y4, y5⟩ := hQ.cells
  obtain ⟨p0, p1, p2, p3, p4⟩ := (HB.out.ext (HX3.out.trans (HX7.out.trans hX9))).cells
  have HX9 := Lib.hid hX9
  have HE89 := Lib.hid hE89
  have HEND := Lib.hid (HE.out.trans (HX3.out.trans (HX7.out.trans hX9)))
  have hQQ := Lib.hid hQ
  clear hQ hX9 hE89
  obtain ⟨hxn, hxk, hq, hd⟩ := HST.out
  have hrow9 := HRX.out.ext (HE67.out.trans HX9.out)
  obtain ⟨bb, oo, hso, _, _, e0⟩ := hrow9.get (j := 0) (x := .mk 3 0 0 exitS []) rfl
  subst hso
  obtain ⟨bb1, oo1, hso1, _, _, e1⟩ := hrow9.get (j := 1) (x := .mk 6 fr 0 ⟨#[]⟩ []) rfl
  have hbo : bb = bb1 ∧ oo = oo1 := ⟨congrArg Addr.block (Option.some.inj hso1), congrArg Addr.off (Option.some.inj hso1)⟩
  obtain ⟨rfl, rfl⟩ := hbo
  obtain ⟨_, _, _, m3, _⟩ := e0.cells
  obtain ⟨_, n1, _, _, _⟩ := e1.cells
  simp only [Tm.s, Tm.n, Nat.zero_add, Nat.zero_mul, Nat.add_zero, Nat.one_mul] at m3 n1
  unfold exitS at m3
  have HRG : Hid (∀ w' : World, Ext w9 w' → Calls Try.prog 13 #[.agg #[.int .i64 7, .int .i64 0, .float .f64 0, .string ⟨#[]⟩, .slice (some ⟨bb, oo, none⟩) 3 cap3]] w' fun e w'' => e = .returned (.bool true) ∧ Ext w' w'') := Lib.hid (fun w' h => by
    have hh := right_any (t := .mk 7 0 0 ⟨#[]⟩ [.mk 3 0 0 exitS [], .mk 6 fr 0 ⟨#[]⟩ [], y]) w' (TmV.of_parts (cap := cap3) (hrow9.ext h)) (by have := HCX.out.2.1; simp only [cntT, cntL]; omega)
    have hr : rightT (.mk 7 0 0 ⟨#[]⟩ [.mk 3 0 0 exitS [], .mk 6 fr 0 ⟨#[]⟩ [], y]) = true := decide_eq_true HCX.out.1
    rw [hr] at hh
    exact hh)
  have HQB := Lib.hid (show OBox w9 b12 2 k n f s so2 L.length cap2 from hQQ.out)
  have HPB := Lib.hid (HB.out.ext (HX3.out.trans (HX7.out.trans HX9.out)))
  have hrow2 := HRY.out.ext HE89.out
  have hrow1 := HR.out.ext (HX3.out.trans (HX7.out.trans HX9.out))
  have HTW : Hid (∀ w' : World, Ext w9 w' → Calls Try.prog 14 #[.agg #[.int .i64 k, .int .i64 n, .float .f64 f, .string s, .slice so2 L.length cap2], .agg #[.int .i64 k, .int .i64 n, .float .f64 f, .string s, .slice so L.length cap]] w' fun e w'' => e = .returned (.bool true) ∧ Ext w' w'') := Lib.hid (fun w' h => twin_any (.mk k n f s L) true false _ _ _ _ w' (TmV.of_parts (cap := cap2) (hrow2.ext h)) (TmV.of_parts (cap := cap) (hrow1.ext h)) (by have := HCN.out; simp only [cntT]; omega))
  clear hrow1 hrow2
  have hk1 := str_eq s killS
  have hn1 := str_eq s normalS
  unfold killS at hk1
  unfold normalS at hn1
  have hk2 : (s.toList == [107, 105, 108, 108]) = decide (s = ⟨#[107, 105, 108, 108]⟩) := by rw [← hk1, ByteArray.toList_eq (⟨#[107, 105, 108, 108]⟩)]
  have hn2 : (s.toList == [110, 111, 114, 109, 97, 108]) = decide (s = ⟨#[110, 111, 114, 109, 97, 108]⟩) := by rw [← hn1, ByteArray.toList_eq (⟨#[110, 111, 114, 109, 97, 108]⟩)]
  unfold atomB killS at hxk
  unfold atomB normalS at hxn
  obtain ⟨sk, hsk⟩ : ∃ c, decide (s = ⟨#[107, 105, 108, 108]⟩) = c := ⟨_, rfl⟩
  obtain ⟨sn, hsn⟩ : ∃ c, decide (s = ⟨#[110, 111, 114, 109, 97, 108]⟩) = c := ⟨_, rfl⟩
  rw [hsk] at hk1 hk2 hxk
  rw [hsn] at hn1 hn2 hxn
  obtain ⟨kb, hkb⟩ : ∃ c, decide (k = 3) = c := ⟨_, rfl⟩
  rw [hkb] at hxk hxn
  have hk3 : (k == 3) = kb := by rw [← hkb]; rfl
  obtain ⟨fd, hfd⟩ : ∃ fd, (fr != tt) = fd := ⟨_, rfl⟩
  rw [hfd] at hd
  have HBL := Lib.hid (And.intro hxn (And.intro hxk (And.intro hq hd)))
  clear hrow9 e0 e1 hso1 hxn hxk hq hd hsk hsn hkb hk1 hn1
  obtain ⟨q1, q2, q3, q4⟩ := HBL.out
  clear HBL
  cases kb
  all_goals cases ln
  all_goals (cases sk)
  all_goals cases sn
  all_goals first
    | (exfalso; subst q1; cases q4; done)
    | (exfalso; subst q2; cases q3; done)
    | (subst q1; subst q2; clear q3; cases fd)
  all_goals first
    | (exfalso; cases q4; done)
    | clear q4
  all_goals
    go_wp2_with (first
      | (go_at_call 13; (with_reducible refine (HRG.out _ (Ext.refl _)).mono ?_); rintro e wR ⟨rfl, hER⟩; obtain ⟨y0, y1, y2, y3, y4, y5⟩ := (HQB.out.ext hER).cells; obtain ⟨p0, p1, p2, p3, p4⟩ := (HPB.out.ext hER).cells; have HER := Lib.hid hER; clear hER)
      | (go_at_call 14; (with_reducible refine (HTW.out _ HER.out).mono ?_); rintro e wT ⟨rfl, hET⟩; have HET := Lib.hid (HER.out.trans hET); clear hET)
      | fail)
    go_ret
    exact ⟨rfl, HEND.out.trans HET.out⟩

end Go.Proofs.Ytdimmomjildpcaa
