/- NumMakes' walk: whole numbers and floats are made alike. -/
import Derived.Test.YtlpifchimnnfdaaDoorNmPair
namespace Go.Proofs.YtlpifchimnnfdaaDoor
open Go.RowKit
attribute [local irreducible] Ext
attribute [local go_sem] run_store_float

set_option maxRecDepth 100000 in
set_option maxHeartbeats 8000000 in
theorem numMakes_any (n : Int) (u : Nat) (hu : u < 18446744073709551616) (w : World) (ht : Tab4 w) :
    Calls Tryd.prog 3 #[.int .i64 n, .int .u64 u] w fun e w' => e = .returned (.bool true) ∧ Ext w w' := by
  obtain ⟨ik, im, ie, hi⟩ := mkI_form n
  obtain ⟨fk, fg, fe, hf⟩ := mkF_form u
  have hp1 := fun w => pint_any n w
  have hr1 := fun w => rint_any n w
  have hp2 := fun w => pfloat_any u hu w
  have hr2 := fun w => rfloat_any u w
  have hp3 := fun w => pbits_any u hu w
  rw [hi] at hp1 hr1
  rw [hf] at hp2 hr2 hp3
  have hs1 := fun w' => same_self ik im 0 w'
  have hs2 := fun w' => same_self fk 0 fg w'
  unfold nV at hp1 hr1 hp2 hr2 hp3
  unfold tV at hs1 hs2
  have HP1 := Lib.hid hp1
  have HR1 := Lib.hid hr1
  have HP2 := Lib.hid hp2
  have HR2 := Lib.hid hr2
  have HP3 := Lib.hid hp3
  have HS1 := Lib.hid hs1
  have HS2 := Lib.hid hs2
  have HK := Lib.hid (known_any w ht)
  have hfb := run_frombits u
  clear hp1 hr1 hp2 hr2 hp3 hs1 hs2 hi hf hu ht
  go_enter Tryd.func3, Tryd.ntmps3
  go_upto_region 4 with (first
    | (go_at_call 17; (with_reducible refine HK.out.mono ?_); rintro e w1 ⟨rfl, hE1⟩; have HE := Lib.hid hE1; clear hE1)
    | (go_at_call 18; (with_reducible refine (HP1.out _).mono ?_); rintro e w2 ⟨rfl, hE2⟩; have HE := Lib.hid (HE.out.trans hE2); clear hE2)
    | fail)
  obtain ⟨w3, hw3⟩ : ∃ w3, w2.alloc (.cells #[.int .i64 ik, .int .i64 im, .float .f64 0, .string ⟨#[]⟩, .slice none 0 0] 27) = w3 := ⟨_, rfl⟩
  rw [hw3]
  have HW3 := Lib.hid hw3
  clear hw3
  go_upto_region 5 with (first
    | (go_at_call 19; (with_reducible refine (HR1.out _).mono ?_); rintro e w4 ⟨rfl, hE4⟩; have HE4 := Lib.hid hE4; clear hE4)
    | fail)
  obtain ⟨w5, hw5⟩ : ∃ w5, w4.alloc (.cells #[.int .i64 ik, .int .i64 im, .float .f64 0, .string ⟨#[]⟩, .slice none 0 0] 27) = w5 := ⟨_, rfl⟩
  have H := Lib.hid (pair_new HE.out (HW3.out ▸ HE4.out) hw5)
  rw [hw5]
  clear hw5
  generalize w2.heap.size = b at H ⊢
  generalize w4.heap.size = c at H ⊢
  obtain ⟨a0, a1, a2, a3, a4⟩ := H.out.fa.cells
  obtain ⟨b0, b1, b2, b3, b4⟩ := H.out.fb.cells
  go_upto_region 8 with (first
    | (go_at_call 20; (with_reducible refine (HS1.out _).mono ?_); rintro e w6 ⟨rfl, hE6⟩; have H := Lib.hid (H.out.next hE6); clear hE6)
    | fail)
  clear a0 a1 a2 a3 a4 b0 b1 b2 b3 b4
  go_upto_region 9 with (first
    | (go_at_call 22; (with_reducible refine (HP2.out _).mono ?_); rintro e w7 ⟨rfl, hE7⟩
       have H := Lib.hid (H.out.next hE7)
       clear hE7
       have g0 := H.out.fa.free 0
       have g1 := H.out.fa.free 1
       have g2 := H.out.fa.free 2
       have g3 := H.out.fa.free 3
       have g4 := H.out.fa.free 4
       obtain ⟨a0, a1, a2, a3, a4⟩ := H.out.fa.cells)
    | fail)
  clear g0 g1 g2 g3 g4 a0 a1 a2 a3 a4
  have H := Lib.hid (H.out.setA fk 0 fg)
  unfold set5 at H
  generalize ((((w7.setCell ⟨b, 0, none⟩ (.int .i64 fk)).setCell ⟨b, 1, none⟩ (.int .i64 0)).setCell ⟨b, 2, none⟩ (.float .f64 fg)).setCell ⟨b, 3, none⟩ (.string ⟨#[]⟩)).setCell ⟨b, 4, none⟩ (.slice none 0 0) = w8 at H ⊢
  go_upto_region 10 with (first
    | (go_at_call 23; (with_reducible refine (HR2.out _).mono ?_); rintro e w9 ⟨rfl, hE9⟩
       have H := Lib.hid (H.out.next hE9)
       clear hE9
       have g0 := H.out.fb.free 0
       have g1 := H.out.fb.free 1
       have g2 := H.out.fb.free 2
       have g3 := H.out.fb.free 3
       have g4 := H.out.fb.free 4
       obtain ⟨a0, a1, a2, a3, a4⟩ := H.out.fb.cells)
    | fail)
  clear g0 g1 g2 g3 g4 a0 a1 a2 a3 a4
  have H := Lib.hid (H.out.setB fk 0 fg)
  unfold set5 at H
  generalize ((((w9.setCell ⟨c, 0, none⟩ (.int .i64 fk)).setCell ⟨c, 1, none⟩ (.int .i64 0)).setCell ⟨c, 2, none⟩ (.float .f64 fg)).setCell ⟨c, 3, none⟩ (.string ⟨#[]⟩)).setCell ⟨c, 4, none⟩ (.slice none 0 0) = w10 at H ⊢
  obtain ⟨a0, a1, a2, a3, a4⟩ := H.out.fa.cells
  obtain ⟨b0, b1, b2, b3, b4⟩ := H.out.fb.cells
  go_upto_region 12 with (first
    | (go_at_call 20; (with_reducible refine (HS2.out _).mono ?_); rintro e w11 ⟨rfl, hE11⟩; have H := Lib.hid (H.out.next hE11); clear hE11)
    | fail)
  clear a0 a1 a2 a3 a4 b0 b1 b2 b3 b4
  go_upto_region 13 with (first
    | (go_at_call 24; (with_reducible refine (HP3.out _).mono ?_); rintro e w12 ⟨rfl, hE12⟩
       have H := Lib.hid (H.out.next hE12)
       clear hE12
       have g0 := H.out.fa.free 0
       have g1 := H.out.fa.free 1
       have g2 := H.out.fa.free 2
       have g3 := H.out.fa.free 3
       have g4 := H.out.fa.free 4
       obtain ⟨a0, a1, a2, a3, a4⟩ := H.out.fa.cells)
    | fail)
  clear g0 g1 g2 g3 g4 a0 a1 a2 a3 a4
  have H := Lib.hid (H.out.setA fk 0 fg)
  unfold set5 at H
  generalize ((((w12.setCell ⟨b, 0, none⟩ (.int .i64 fk)).setCell ⟨b, 1, none⟩ (.int .i64 0)).setCell ⟨b, 2, none⟩ (.float .f64 fg)).setCell ⟨b, 3, none⟩ (.string ⟨#[]⟩)).setCell ⟨b, 4, none⟩ (.slice none 0 0) = w13 at H ⊢
  obtain ⟨a0, a1, a2, a3, a4⟩ := H.out.fa.cells
  obtain ⟨b0, b1, b2, b3, b4⟩ := H.out.fb.cells
  go_wp2_with (first
    | (go_at_call 20; (with_reducible refine (HS2.out _).mono ?_); rintro e w14 ⟨rfl, hE14⟩; have H := Lib.hid (H.out.next hE14); clear hE14)
    | fail)
  all_goals go_ret
  all_goals exact ⟨rfl, H.out.ext⟩

end Go.Proofs.YtlpifchimnnfdaaDoor
