/- Numbers: what is known. -/
import Derived.Test.YtlpifchimnnfdaaDoorNmText2
import Derived.Test.YtlpifchimnnfdaaDoorNmOp
import Derived.Test.YtlpifchimnnfdaaDoorNmSame
namespace Go.Proofs.YtlpifchimnnfdaaDoor
open Go.RowKit
attribute [local irreducible] Ext
attribute [local go_sem] run_store_float

theorem near1 : nearF 1 = 4607182418800017408 := by
  rw [← nearF_eq]
  kernel_rfl
theorem near2 : nearF 2 = 4611686018427387904 := by
  rw [← nearF_eq]
  kernel_rfl

theorem known_sum : opV ⟨#[43]⟩ 1 576460752303423487 0 (numV 1 576460752303423487 0 ⟨#[]⟩ 0) 1 1 0 (numV 1 1 0 ⟨#[]⟩ 0) = nV 0 0 0 12 := by
  kernel_rfl

theorem known_half : opV ⟨#[47]⟩ 1 1 0 (numV 1 1 0 ⟨#[]⟩ 0) 1 2 0 (numV 1 2 0 ⟨#[]⟩ 0) = nV 2 0 4602678819172646912 0 := by
  have h : opV ⟨#[47]⟩ 1 1 0 (numV 1 1 0 ⟨#[]⟩ 0) 1 2 0 (numV 1 2 0 ⟨#[]⟩ 0) = flV ⟨#[47]⟩ (nearF 1) (nearF 2) := by kernel_rfl
  rw [h, near1, near2]
  show flV ⟨#[47]⟩ 4607182418800017408 4611686018427387904 = nV 2 0 4602678819172646912 0
  kernel_rfl

theorem known_zero : mkF 9223372036854775808 = nV 2 0 9223372036854775808 0 := by kernel_rfl
theorem known_inf : mkF 9218868437227405312 = nV 0 0 0 11 := by kernel_rfl
theorem known_text : textF 9223372036854775808 = ⟨#[35, 56, 48, 48, 48, 48, 48, 48, 48, 48, 48, 48, 48, 48, 48, 48, 48]⟩ := by kernel_rfl

theorem op_sum (w : World) : Calls Tryd.prog 25 #[.string ⟨#[43]⟩, tV 1 576460752303423487 0, tV 1 1 0] w fun e w' => e = .returned (nV 0 0 0 12) ∧ Ext w w' := by
  have h := pop_good ⟨#[43]⟩ (by kernel_rfl) 1 576460752303423487 0 ⟨#[]⟩ none 0 0 1 1 0 ⟨#[]⟩ none 0 0 (by decide) (by decide) w
  rw [known_sum] at h
  exact h

theorem op_half (w : World) : Calls Tryd.prog 25 #[.string ⟨#[47]⟩, tV 1 1 0, tV 1 2 0] w fun e w' => e = .returned (nV 2 0 4602678819172646912 0) ∧ Ext w w' := by
  have h := pop_good ⟨#[47]⟩ (by kernel_rfl) 1 1 0 ⟨#[]⟩ none 0 0 1 2 0 ⟨#[]⟩ none 0 0 (by decide) (by decide) w
  rw [known_half] at h
  exact h

theorem bits_zero (w : World) : Calls Tryd.prog 24 #[.int .u64 9223372036854775808] w fun e w' => e = .returned (nV 2 0 9223372036854775808 0) ∧ Ext w w' := by
  have h := pbits_any 9223372036854775808 (by decide) w
  rw [known_zero] at h
  exact h

theorem float_inf (w : World) : Calls Tryd.prog 22 #[.float .f64 9218868437227405312] w fun e w' => e = .returned (nV 0 0 0 11) ∧ Ext w w' := by
  have h := pfloat_any 9218868437227405312 (by decide) w
  rw [known_inf] at h
  exact h

theorem text_zero (w : World) (ht : Tab4 w) : Calls Tryd.prog 47 #[tV 2 0 9223372036854775808] w fun e w' => e = .returned (.string ⟨#[35, 56, 48, 48, 48, 48, 48, 48, 48, 48, 48, 48, 48, 48, 48, 48, 48]⟩) ∧ Ext w w' := by
  have h := text_float 2 0 (by decide) 9223372036854775808 (by decide) ⟨#[]⟩ none 0 0 w ht
  rw [known_text] at h
  exact h

theorem same_self (k n : Int) (f : Nat) (w : World) : Calls Tryd.prog 20 #[tV k n f, tV k n f] w fun e w' => e = .returned (.bool true) ∧ Ext w w' := by
  have h := same_any k n f ⟨#[]⟩ none 0 0 k n f ⟨#[]⟩ none 0 0 w
  have e : sameB k n f ⟨#[]⟩ 0 k n f ⟨#[]⟩ 0 = true := by simp [sameB]
  rw [e] at h
  exact h

theorem RBox.exts {w : World} {b : Nat} {k n : Int} {f : Nat} {s : ByteArray} {so : Option Addr} {m cap : Nat} (h : RBox w b k n f s so m cap) : (∀ w', Ext w w' → w'.cell? ⟨b, 0, none⟩ = some (.int .i64 k)) ∧ (∀ w', Ext w w' → w'.cell? ⟨b, 1, none⟩ = some (.int .i64 n)) ∧ (∀ w', Ext w w' → w'.cell? ⟨b, 2, none⟩ = some (.float .f64 f)) ∧
    (∀ w', Ext w w' → w'.cell? ⟨b, 3, none⟩ = some (.string s)) ∧ (∀ w', Ext w w' → w'.cell? ⟨b, 4, none⟩ = some (.slice so m cap)) :=
  ⟨fun _ hE => (h.ext hE).cells.1, fun _ hE => (h.ext hE).cells.2.1, fun _ hE => (h.ext hE).cells.2.2.1, fun _ hE => (h.ext hE).cells.2.2.2.1, fun _ hE => (h.ext hE).cells.2.2.2.2⟩

theorem kbox {w wb : World} (h : Ext w wb) (k n : Int) (f : Nat) : ∃ w1 b1, wb.alloc (.cells #[.int .i64 k, .int .i64 n, .float .f64 f, .string ⟨#[]⟩, .slice none 0 0] 27) = w1 ∧ wb.heap.size = b1 ∧ Ext wb w1 ∧ Ext w w1 ∧ RBox w1 b1 k n f ⟨#[]⟩ none 0 0 :=
  ⟨_, _, rfl, rfl, (Ext.refl wb).alloc _, h.alloc _, RBox.new wb k n f ⟨#[]⟩ none 0 0⟩

set_option maxRecDepth 100000 in
set_option maxHeartbeats 4000000 in
theorem known_any (w : World) (ht : Tab4 w) : Calls Tryd.prog 17 #[] w fun e w' => e = .returned (.bool true) ∧ Ext w w' := by
  have HT := Lib.hid ht
  have hi := fun n w => i_any n w
  have hs := fun w => op_sum w
  have hh := fun w => op_half w
  have hz := fun w => bits_zero w
  have hf := fun w => float_inf w
  unfold tV at hi hs hh
  unfold nV at hs hh hz hf
  have HI := Lib.hid hi
  have HS := Lib.hid hs
  have HH := Lib.hid hh
  have HZ := Lib.hid hz
  have HF := Lib.hid hf
  have HE := Lib.hid (Ext.refl w)
  have r1 : ∀ w, (callFunc 21 #[.int .u64 9218868437227405312]).run Tryd.prog w = .ok (.value (.float .f64 9218868437227405312)) w := run_frombits 9218868437227405312
  have r2 : ∀ w, (callFunc 21 #[.int .u64 9223372036854775808]).run Tryd.prog w = .ok (.value (.float .f64 9223372036854775808)) w := run_frombits 9223372036854775808
  clear ht hi hs hh hz hf
  go_enter Tryd.func17, Tryd.ntmps17
  go_upto_region 2 with (first
    | (go_at_call 27; (with_reducible refine (HI.out _ _).mono ?_); rintro e wa ⟨rfl, hEa⟩; have HE := Lib.hid (HE.out.trans hEa); clear hEa)
    | (go_at_call 25; (with_reducible refine (HS.out _).mono ?_); rintro e wa ⟨rfl, hEa⟩; have HE := Lib.hid (HE.out.trans hEa); clear hEa)
    | fail)
  obtain ⟨w1, b1, hw1, hb1, hx1, he1, hB1⟩ := kbox HE.out 0 0 0
  rw [hw1, hb1]
  have HE := Lib.hid (Ext.refl w1)
  have H1 := Lib.hid (And.intro he1 hB1)
  clear hw1 hb1 hx1 he1 hB1
  go_upto_region 3 with (first
    | (go_at_call 27; (with_reducible refine (HI.out _ _).mono ?_); rintro e wa ⟨rfl, hEa⟩; have HE := Lib.hid (HE.out.trans hEa); clear hEa)
    | (go_at_call 25; (with_reducible refine (HH.out _).mono ?_); rintro e wa ⟨rfl, hEa⟩; have HE := Lib.hid (HE.out.trans hEa); clear hEa)
    | fail)
  obtain ⟨w2, b2, hw2, hb2, _, he2, hB2⟩ := kbox HE.out 2 0 4602678819172646912
  rw [hw2, hb2]
  have HE := Lib.hid (Ext.refl w2)
  have H2 := Lib.hid (And.intro (H1.out.1.trans he2) (And.intro (H1.out.2.ext he2) hB2))
  clear hw2 hb2 he2 hB2
  go_upto_region 4 with (first
    | (go_at_call 24; (with_reducible refine (HZ.out _).mono ?_); rintro e wa ⟨rfl, hEa⟩; have HE := Lib.hid (HE.out.trans hEa); clear hEa)
    | fail)
  obtain ⟨w3, b3, hw3, hb3, _, he3, hB3⟩ := kbox HE.out 2 0 9223372036854775808
  rw [hw3, hb3]
  have HE := Lib.hid (Ext.refl w3)
  have H3 := Lib.hid (And.intro (H2.out.1.trans he3) (And.intro (H2.out.2.1.ext he3) (And.intro (H2.out.2.2.ext he3) hB3)))
  clear hw3 hb3 he3 hB3
  go_upto_region 5 with (first
    | (go_at_call 22; (with_reducible refine (HF.out _).mono ?_); rintro e wa ⟨rfl, hEa⟩; have HE := Lib.hid (HE.out.trans hEa); clear hEa)
    | fail)
  obtain ⟨w4, b4, hw4, hb4, _, he4, hB4⟩ := kbox HE.out 0 0 0
  rw [hw4, hb4]
  have HA := Lib.hid (H3.out.1.trans he4)
  have HT4 := Lib.hid (HT.out.ext HA.out)
  obtain ⟨a0, a1, a2, a3, a4⟩ := (H3.out.2.1.ext he4).exts
  obtain ⟨c0, c1, c2, c3, c4⟩ := (H3.out.2.2.1.ext he4).exts
  obtain ⟨d0, d1, d2, d3, d4⟩ := (H3.out.2.2.2.ext he4).exts
  obtain ⟨g0, g1, g2, g3, g4⟩ := hB4.exts
  have hs1 := fun w' => same_self 0 0 0 w'
  have hs2 := fun w' => same_self 2 0 4602678819172646912 w'
  have hs3 := fun w' => same_self 2 0 9223372036854775808 w'
  have hf1 := fun f w' => f_any f w'
  have ht1 := fun w' (h : Ext w4 w') => text_zero w' (HT4.out.ext h)
  unfold tV at hs1 hs2 hs3 hf1 ht1
  have hE4 := Ext.refl w4
  clear hw4 hb4 he4 hB4 H1 H2 H3 HI HS HH HZ HF HT HE
  go_region_held3 (fun w' => Ext w4 w') (first | assumption | (repeat (first | assumption | apply Ext.drew | apply Ext.drewN)))
    (first
      | (go_at_call 20; (with_reducible first | refine (hs1 _).mono ?_ | refine (hs2 _).mono ?_ | refine (hs3 _).mono ?_); rintro e w7 ⟨rfl, hE7⟩; have hW7 : Ext w4 w7 := Ext.trans (by assumption) hE7)
      | (go_at_call 28; (with_reducible refine (hf1 _ _).mono ?_); rintro e w7 ⟨rfl, hE7⟩; have hW7 : Ext w4 w7 := Ext.trans (by assumption) hE7)
      | (go_at_call 47; (with_reducible refine (ht1 _ ?_).mono ?_); assumption; rintro e w7 ⟨rfl, hE7⟩; have hW7 : Ext w4 w7 := Ext.trans (by assumption) hE7)
      | fail)
  go_wp2_with fail
  go_ret
  exact ⟨rfl, HA.out.trans (by assumption)⟩

end Go.Proofs.YtlpifchimnnfdaaDoor
