/- ExitsKills: kill. -/
import Derived.Test.YtdimmomjildpcaaExOnceW
import Derived.Test.YtdimmomjildpcaaExToldA
import Derived.Test.YtdimmomjildpcaaExToldB
namespace Go.Proofs.Ytdimmomjildpcaa
open Go.RowKit
attribute [local irreducible] Ext
attribute [local go_sem] run_store_float

set_option maxRecDepth 100000 in
set_option maxHeartbeats 8000000 in
theorem kills_kill (fr tt : Int) {n : Int} {f : Nat} {L : List Tm} (so : Option Addr) (cap : Nat) (w : World)
    (hrow : RowIn w false (fun k => k < w.heap.size) L so 0) (hok : okT (.mk 3 n f ⟨#[107, 105, 108, 108]⟩ L)) (hfew : 0 ≤ fewT (.mk 3 n f ⟨#[107, 105, 108, 108]⟩ L) 100000 1000) (hz : echk fr tt 5 0 0 false ⟨#[]⟩ 3 n f ⟨#[107, 105, 108, 108]⟩ L.length (checkT (.mk 3 n f ⟨#[107, 105, 108, 108]⟩ L)) = 0) :
    Calls Try.prog 5 #[.int .i64 fr, .int .i64 tt, .agg #[.int .i64 3, .int .i64 n, .float .f64 f, .string ⟨#[107, 105, 108, 108]⟩, .slice so L.length cap], .bool false] w fun e w' => e = .returned (.bool true) ∧ Ext w w' := by
  have hB := RBox.new w 3 n f ⟨#[107, 105, 108, 108]⟩ so L.length cap
  have hE := (Ext.refl w).alloc (.cells #[.int .i64 3, .int .i64 n, .float .f64 f, .string ⟨#[107, 105, 108, 108]⟩, .slice so L.length cap] 25)
  obtain ⟨w1, hw1⟩ : ∃ w1, w.alloc (.cells #[.int .i64 3, .int .i64 n, .float .f64 f, .string ⟨#[107, 105, 108, 108]⟩, .slice so L.length cap] 25) = w1 := ⟨_, rfl⟩
  rw [hw1] at hB hE
  have hcnt : cntL L + 20 ≤ 100000000 := by
    have h := (few_bound.1 (.mk 3 n f ⟨#[107, 105, 108, 108]⟩ L) 100000 1000 hfew).2
    simp only [cntT] at h
    omega
  have hzero := echk_zero hz
  have hckr : checkT (.mk 3 n f ⟨#[107, 105, 108, 108]⟩ L) = 0 := hzero.2.2.2.2.2.2.2 rfl
  have b1 : decide (0 ≤ fewT (.mk 3 n f ⟨#[107, 105, 108, 108]⟩ L) 100000 1000) = true := decide_eq_true hfew
  have HFW : Hid (∀ (w : World), RowIn w false (fun k => k < w1.heap.size) L so 0 → Calls Try.prog 7 #[.agg #[.int .i64 3, .int .i64 n, .float .f64 f, .string ⟨#[107, 105, 108, 108]⟩, .slice so L.length cap]] w fun e w' => e = .returned (.bool true) ∧ Ext w w') := Lib.hid (fun w hr => by rw [← b1]; exact few16_any w (TmV.of_parts (cap := cap) hr))
  have HCH : Hid (∀ (w : World), RowIn w false (fun k => k < w1.heap.size) L so 0 → Calls Try.prog 8 #[.agg #[.int .i64 fr, .int .i64 tt, .int .i64 5, .int .i64 0, .int .i64 0, .bool false, .string ⟨#[]⟩, .int .i64 3, .int .i64 n, .float .f64 f, .string ⟨#[107, 105, 108, 108]⟩, .slice so L.length cap]] w fun e w' => e = .returned (.int .i64 0) ∧ Ext w w') := Lib.hid (fun w hr => by
    have h := echeck_any fr tt 5 0 0 false ⟨#[]⟩ cap w hr (by omega) hok
    rw [hz] at h
    exact h)
  have HAX : Hid (∀ (w : World), RowIn w false (fun k => k < w1.heap.size) L so 0 → Calls Try.prog 12 #[.agg #[.int .i64 fr, .int .i64 tt, .int .i64 5, .int .i64 0, .int .i64 0, .bool false, .string ⟨#[]⟩, .int .i64 3, .int .i64 n, .float .f64 f, .string ⟨#[107, 105, 108, 108]⟩, .slice so L.length cap], .bool true] w fun e w' => e = .returned (.tuple #[.agg #[.int .i64 2, .int .i64 3, .int .i64 0, .float .f64 0, .string ⟨#[107, 105, 108, 108, 101, 100]⟩, .slice none 0 0], .int .i64 0]) ∧ Ext w w') := Lib.hid (fun w hr => act_kill fr tt 0 0 true ⟨#[]⟩ cap w hr (by omega) hok hz)
  have HAY : Hid (∀ (w : World), RowIn w false (fun k => k < w1.heap.size) L so 0 → Calls Try.prog 12 #[.agg #[.int .i64 fr, .int .i64 tt, .int .i64 5, .int .i64 0, .int .i64 0, .bool false, .string ⟨#[]⟩, .int .i64 3, .int .i64 n, .float .f64 f, .string ⟨#[107, 105, 108, 108]⟩, .slice so L.length cap], .bool false] w fun e w' => e = .returned (.tuple #[.agg #[.int .i64 2, .int .i64 3, .int .i64 0, .float .f64 0, .string ⟨#[107, 105, 108, 108, 101, 100]⟩, .slice none 0 0], .int .i64 0]) ∧ Ext w w') := Lib.hid (fun w hr => act_kill fr tt 0 0 false ⟨#[]⟩ cap w hr (by omega) hok hz)
  have HW := Lib.hid hw1
  have HE := Lib.hid hE
  have HB := Lib.hid hB
  have HR := Lib.hid ((hrow.ext hE).mono (G' := fun k => k < w1.heap.size) (fun k hk => by have := hE.size; omega))
  have HK := Lib.hid (known_any w1)
  have HCN := Lib.hid hcnt
  clear hw1 hE hB hrow hok hfew hz hcnt hzero hckr b1
  go_enter Try.func5, Try.ntmps5
  go_upto_region 1 with (fail)
  rw [HW.out]
  go_upto_region 3 with (first
    | (go_at_call 6; (with_reducible refine HK.out.mono ?_); rintro e w2 ⟨rfl, hE2⟩; have HX := Lib.hid hE2; clear hE2)
    | fail)
  obtain ⟨p0, p1, p2, p3, p4⟩ := (HB.out.ext HX.out).cells
  go_upto_region 4 with (fail)
  have hS := SBox.new w2 fr tt 5 0 0 false ⟨#[]⟩ 3 n f ⟨#[107, 105, 108, 108]⟩ so L.length cap
  have hX3 := HX.out.alloc (.cells #[.int .i64 fr, .int .i64 tt, .int .i64 5, .int .i64 0, .int .i64 0, .bool false, .string ⟨#[]⟩, .int .i64 3, .int .i64 n, .float .f64 f, .string ⟨#[107, 105, 108, 108]⟩, .slice so L.length cap] 27)
  obtain ⟨w3, hw3⟩ : ∃ w3, w2.alloc (.cells #[.int .i64 fr, .int .i64 tt, .int .i64 5, .int .i64 0, .int .i64 0, .bool false, .string ⟨#[]⟩, .int .i64 3, .int .i64 n, .float .f64 f, .string ⟨#[107, 105, 108, 108]⟩, .slice so L.length cap] 27) = w3 := ⟨_, rfl⟩
  obtain ⟨b9, hb9⟩ : ∃ b9, w2.heap.size = b9 := ⟨_, rfl⟩
  rw [hw3] at hS hX3 ⊢
  rw [hb9] at hS ⊢
  clear hw3 hb9 p0 p1 p2 p3 p4
  obtain ⟨p0, p1, p2, p3, p4⟩ := (HB.out.ext hX3).cells
  have HS := Lib.hid hS
  have HX3 := Lib.hid hX3
  clear hS hX3
  go_upto_region 6 with (first
    | (go_at_call 7; (with_reducible refine (HFW.out _ (HR.out.ext HX3.out)).mono ?_); rintro e w4 ⟨rfl, hE4⟩; have HE4 := Lib.hid hE4; obtain ⟨d0, d1, d2, d3, d4, d5, d6, d7, d8, d9, d10, d11⟩ := (HS.out.ext hE4).cells; clear hE4 p0 p1 p2 p3 p4)
    | (go_at_call 8; (with_reducible refine (HCH.out _ (HR.out.ext (HX3.out.trans HE4.out))).mono ?_); rintro e w5 ⟨rfl, hE5⟩; have HX5 := Lib.hid (HE4.out.trans hE5); clear hE5 d0 d1 d2 d3 d4 d5 d6 d7 d8 d9 d10 d11)
    | fail)
  clear HFW HCH HK
  obtain ⟨d0, d1, d2, d3, d4, d5, d6, d7, d8, d9, d10, d11⟩ := (HS.out.ext HX5.out).cells
  go_upto_region 7 with (first
    | (go_at_call 12; (with_reducible refine (HAX.out _ (HR.out.ext (HX3.out.trans HX5.out))).mono ?_); rintro e w6 ⟨rfl, hE6⟩; have HX6 := Lib.hid (HX5.out.trans hE6); clear hE6 d0 d1 d2 d3 d4 d5 d6 d7 d8 d9 d10 d11)
    | fail)
  have hO := OBox.new w6 2 3 0 0 ⟨#[107, 105, 108, 108, 101, 100]⟩ none 0 0
  have hX7 := HX6.out.alloc (.cells #[.int .i64 2, .int .i64 3, .int .i64 0, .float .f64 0, .string ⟨#[107, 105, 108, 108, 101, 100]⟩, .slice none 0 0] 37)
  obtain ⟨w7, hw7⟩ : ∃ w7, w6.alloc (.cells #[.int .i64 2, .int .i64 3, .int .i64 0, .float .f64 0, .string ⟨#[107, 105, 108, 108, 101, 100]⟩, .slice none 0 0] 37) = w7 := ⟨_, rfl⟩
  obtain ⟨b10, hb10⟩ : ∃ b10, w6.heap.size = b10 := ⟨_, rfl⟩
  have hE67 : Ext w6 w7 := hw7 ▸ (Ext.refl w6).alloc _
  rw [hw7] at hO hX7 ⊢
  rw [hb10] at hO ⊢
  clear hw7 hb10
  obtain ⟨d0, d1, d2, d3, d4, d5, d6, d7, d8, d9, d10, d11⟩ := (HS.out.ext hX7).cells
  have HX7 := Lib.hid hX7
  have HO := Lib.hid hO
  have HE67 := Lib.hid hE67
  clear hO hX7 hE67
  go_upto_region 8 with (first
    | (go_at_call 12; (with_reducible refine (HAY.out _ (HR.out.ext (HX3.out.trans HX7.out))).mono ?_); rintro e w8 ⟨rfl, hE8⟩; have HX8 := Lib.hid hE8; clear hE8 d0 d1 d2 d3 d4 d5 d6 d7 d8 d9 d10 d11)
    | fail)
  have hQ := OBox.new w8 2 3 0 0 ⟨#[107, 105, 108, 108, 101, 100]⟩ none 0 0
  have hX9 := HX8.out.alloc (.cells #[.int .i64 2, .int .i64 3, .int .i64 0, .float .f64 0, .string ⟨#[107, 105, 108, 108, 101, 100]⟩, .slice none 0 0] 37)
  obtain ⟨w9, hw9⟩ : ∃ w9, w8.alloc (.cells #[.int .i64 2, .int .i64 3, .int .i64 0, .float .f64 0, .string ⟨#[107, 105, 108, 108, 101, 100]⟩, .slice none 0 0] 37) = w9 := ⟨_, rfl⟩
  obtain ⟨b12, hb12⟩ : ∃ b12, w8.heap.size = b12 := ⟨_, rfl⟩
  have hE89 : Ext w8 w9 := hw9 ▸ (Ext.refl w8).alloc _
  rw [hw9] at hQ hX9 ⊢
  rw [hb12] at hQ ⊢
  clear hw9 hb12
  obtain ⟨x0, x1, x2, x3, x4, x5⟩ := (HO.out.ext hX9).cells
  obtain ⟨y0, y1, y2, y3, y4, y5⟩ := hQ.cells
  obtain ⟨p0, p1, p2, p3, p4⟩ := (HB.out.ext (HX3.out.trans (HX7.out.trans hX9))).cells
  have HX9 := Lib.hid hX9
  have HE89 := Lib.hid hE89
  have HEND := Lib.hid (HE.out.trans (HX3.out.trans (HX7.out.trans hX9)))
  clear hQ hX9 hE89
  go_wp2_with fail
  go_ret
  exact ⟨rfl, HEND.out⟩

end Go.Proofs.Ytdimmomjildpcaa
