/- NumOps' walk: both Ops tell the same. -/
import Derived.Test.YtlpifchimnnfdaaDoorNmKnown
import Derived.Test.YtlpifchimnnfdaaDoorNmROp
namespace Go.Proofs.YtlpifchimnnfdaaDoor
open Go.RowKit
attribute [local irreducible] Ext
attribute [local go_sem] run_store_float

theorem mkO_form' (r : Option Nat) : ∃ k n f e, mkO r = nV k n f e := by
  obtain ⟨k, g, e, h⟩ := mkO_form r
  exact ⟨k, 0, g, e, h⟩

theorem opV_form (sg : ByteArray) (k n : Int) (f : Nat) (r : Bool) (k' n' : Int) (f' : Nat) (r' : Bool) : ∃ rk rn rf re, opV sg k n f r k' n' f' r' = nV rk rn rf re := by
  unfold opV
  split
  · exact ⟨_, _, _, _, rfl⟩
  · split
    · exact ⟨_, _, _, _, rfl⟩
    · split
      · split
        · exact dvV_form _ _ _
        · exact ⟨_, _, _, _, rfl⟩
      · split
        · exact nV_form (.inl (mkI_form _))
        · exact flV_form _ _ _

/-- Both Ops tell the same, whatever it is. -/
theorem ops_same (sg : ByteArray) (k n : Int) (f : Nat) (s : ByteArray) (so : Option Addr) (m cap : Nat) (k' n' : Int) (f' : Nat) (s' : ByteArray) (so' : Option Addr) (m' cap' : Nat) (hf : f < 18446744073709551616) (hf' : f' < 18446744073709551616) :
    ∃ (rk rn : Int) (rf : Nat) (re : Int),
      (∀ w, Calls Tryd.prog 25 #[.string sg, .agg #[.int .i64 k, .int .i64 n, .float .f64 f, .string s, .slice so m cap], .agg #[.int .i64 k', .int .i64 n', .float .f64 f', .string s', .slice so' m' cap']] w fun e w' => e = .returned (nV rk rn rf re) ∧ Ext w w') ∧
      (∀ w, Calls Tryd.prog 26 #[.string sg, .agg #[.int .i64 k, .int .i64 n, .float .f64 f, .string s, .slice so m cap], .agg #[.int .i64 k', .int .i64 n', .float .f64 f', .string s', .slice so' m' cap']] w fun e w' => e = .returned (nV rk rn rf re) ∧ Ext w w') := by
  cases hsg : sgnB sg
  · exact ⟨0, 0, 0, 13, fun w => pop_bad sg hsg k n f s so m cap k' n' f' s' so' m' cap' w, fun w => rop_bad sg hsg k n f s so m cap k' n' f' s' so' m' cap' w⟩
  · obtain ⟨rk, rn, rf, re, h⟩ := opV_form sg k n f (numV k n f s m) k' n' f' (numV k' n' f' s' m')
    exact ⟨rk, rn, rf, re, fun w => h ▸ pop_good sg hsg k n f s so m cap k' n' f' s' so' m' cap' hf hf' w, fun w => h ▸ rop_good sg hsg k n f s so m cap k' n' f' s' so' m' cap' w⟩

/-- Two boxes that a law makes of its arguments. -/
theorem two_boxes (w : World) (k n : Int) (f : Nat) (s : ByteArray) (so : Option Addr) (m cap : Nat) (k' n' : Int) (f' : Nat) (s' : ByteArray) (so' : Option Addr) (m' cap' : Nat) :
    ∃ w1 w2, w.alloc (.cells #[.int .i64 k, .int .i64 n, .float .f64 f, .string s, .slice so m cap] 27) = w1 ∧ w1.alloc (.cells #[.int .i64 k', .int .i64 n', .float .f64 f', .string s', .slice so' m' cap'] 27) = w2 ∧ Ext w w2 ∧ RBox w2 w.heap.size k n f s so m cap ∧ RBox w2 (w.heap.size + 1) k' n' f' s' so' m' cap' := by
  refine ⟨_, _, rfl, rfl, ((Ext.refl w).alloc _).alloc _, (RBox.new w k n f s so m cap).ext ((Ext.refl _).alloc _), ?_⟩
  have h := RBox.new (w.alloc (.cells #[.int .i64 k, .int .i64 n, .float .f64 f, .string s, .slice so m cap] 27)) k' n' f' s' so' m' cap'
  rw [show (w.alloc (.cells #[.int .i64 k, .int .i64 n, .float .f64 f, .string s, .slice so m cap] 27)).heap.size = w.heap.size + 1 by simp] at h
  exact h

set_option maxRecDepth 100000 in
set_option maxHeartbeats 8000000 in
theorem numOps_any (sg : ByteArray) (k n : Int) (f : Nat) (s : ByteArray) (so : Option Addr) (m cap : Nat) (k' n' : Int) (f' : Nat) (s' : ByteArray) (so' : Option Addr) (m' cap' : Nat) (hf : f < 18446744073709551616) (hf' : f' < 18446744073709551616) (w : World) (ht : Tab4 w) :
    Calls Tryd.prog 4 #[.string sg, .agg #[.int .i64 k, .int .i64 n, .float .f64 f, .string s, .slice so m cap], .agg #[.int .i64 k', .int .i64 n', .float .f64 f', .string s', .slice so' m' cap']] w fun e w' => e = .returned (.bool true) ∧ Ext w w' := by
  obtain ⟨rk, rn, rf, re, hp, hr⟩ := ops_same sg k n f s so m cap k' n' f' s' so' m' cap' hf hf'
  unfold nV at hp hr
  have hs := fun w' => same_self rk rn rf w'
  unfold tV at hs
  have HP := Lib.hid hp
  have HR := Lib.hid hr
  have HS := Lib.hid hs
  obtain ⟨w1, w2, hw1, hw2, hE, hA, hB⟩ := two_boxes w k n f s so m cap k' n' f' s' so' m' cap'
  have HW1 := Lib.hid hw1
  have HW2 := Lib.hid hw2
  have HK := Lib.hid (known_any w2 (ht.ext hE))
  have HE := Lib.hid hE
  obtain ⟨a0, a1, a2, a3, a4⟩ := hA.exts
  obtain ⟨b0, b1, b2, b3, b4⟩ := hB.exts
  clear hp hr hs hw1 hw2 hE hA hB ht hf hf'
  go_enter Tryd.func4, Tryd.ntmps4
  go_upto_region 1 with (fail)
  rw [HW1.out, HW2.out]
  by_cases hbig : (1000 : Int) < (sg.size : Int)
  · have c1 : decide ((1000 : Int) < (sg.size : Int)) = true := decide_eq_true hbig
    clear a0 a1 a2 a3 a4 b0 b1 b2 b3 b4
    go_wp2_with (first
      | (go_at_call 17; (with_reducible refine HK.out.mono ?_); rintro e w3 ⟨rfl, hE3⟩; have HE3 := Lib.hid (HE.out.trans hE3); clear hE3)
      | fail)
    go_ret
    exact ⟨rfl, HE3.out⟩
  · have c1 : decide ((1000 : Int) < (sg.size : Int)) = false := decide_eq_false hbig
    go_upto_region 5 with (first
      | (go_at_call 17; (with_reducible refine HK.out.mono ?_); rintro e w3 ⟨rfl, hE3⟩; have HX := Lib.hid hE3)
      | fail)
    have x0 := a0 _ hE3
    have x1 := a1 _ hE3
    have x2 := a2 _ hE3
    have x3 := a3 _ hE3
    have x4 := a4 _ hE3
    have y0 := b0 _ hE3
    have y1 := b1 _ hE3
    have y2 := b2 _ hE3
    have y3 := b3 _ hE3
    have y4 := b4 _ hE3
    clear hE3
    go_upto_region 6 with (first
      | (go_at_call 25; (with_reducible refine (HP.out _).mono ?_); rintro e w4 ⟨rfl, hE4⟩; have HX := Lib.hid (HX.out.trans hE4); clear hE4)
      | fail)
    obtain ⟨w5, d1, hw5, hd1, _, hE5, hD⟩ := kbox HX.out rk rn rf
    rw [hw5, hd1]
    clear x0 x1 x2 x3 x4 y0 y1 y2 y3 y4
    have x0 := a0 _ hE5
    have x1 := a1 _ hE5
    have x2 := a2 _ hE5
    have x3 := a3 _ hE5
    have x4 := a4 _ hE5
    have y0 := b0 _ hE5
    have y1 := b1 _ hE5
    have y2 := b2 _ hE5
    have y3 := b3 _ hE5
    have y4 := b4 _ hE5
    have HD := Lib.hid hD
    have HY := Lib.hid hE5
    have HX := Lib.hid (Ext.refl w5)
    clear hw5 hd1 hE5 hD
    go_upto_region 7 with (first
      | (go_at_call 26; (with_reducible refine (HR.out _).mono ?_); rintro e w6 ⟨rfl, hE6⟩; have HX := Lib.hid (HX.out.trans hE6); clear hE6)
      | fail)
    obtain ⟨w7, d2, hw7, hd2, _, hE7, hG⟩ := kbox HX.out rk rn rf
    rw [hw7, hd2]
    obtain ⟨z0, z1, z2, z3, z4⟩ := (HD.out.ext hE7).cells
    obtain ⟨u0, u1, u2, u3, u4⟩ := hG.cells
    have HZ := Lib.hid (HE.out.trans (HY.out.trans hE7))
    clear hw7 hd2 hE7 hG a0 a1 a2 a3 a4 b0 b1 b2 b3 b4 x0 x1 x2 x3 x4 y0 y1 y2 y3 y4
    go_wp2_with (first
      | (go_at_call 20; (with_reducible refine (HS.out _).mono ?_); rintro e w8 ⟨rfl, hE8⟩; have HZ := Lib.hid (HZ.out.trans hE8); clear hE8)
      | fail)
    all_goals go_ret
    all_goals exact ⟨rfl, HZ.out⟩

end Go.Proofs.YtlpifchimnnfdaaDoor
