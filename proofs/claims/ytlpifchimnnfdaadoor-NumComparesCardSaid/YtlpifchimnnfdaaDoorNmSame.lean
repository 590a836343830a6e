/- Numbers: the law's same; floats made; bits. -/
import Derived.Test.YtlpifchimnnfdaaDoorNmBase
namespace Go.Proofs.YtlpifchimnnfdaaDoor
open Go.RowKit
attribute [local irreducible] Ext
attribute [local go_sem] run_store_float

/-- Are two terms the same number, as the law has it? -/
def sameB (k n : Int) (f : Nat) (s : ByteArray) (m : Nat) (k' n' : Int) (f' : Nat) (s' : ByteArray) (m' : Nat) : Bool :=
  (k == k') && (n == n') && (s.toList == s'.toList) && ((m : Int) == 0) && ((m' : Int) == 0) && ((f : Int) == (f' : Int))

set_option maxRecDepth 100000 in
set_option maxHeartbeats 4000000 in
theorem same_any (k n : Int) (f : Nat) (s : ByteArray) (so : Option Addr) (m cap : Nat) (k' n' : Int) (f' : Nat) (s' : ByteArray) (so' : Option Addr) (m' cap' : Nat) (w : World) :
    Calls Tryd.prog 20 #[.agg #[.int .i64 k, .int .i64 n, .float .f64 f, .string s, .slice so m cap], .agg #[.int .i64 k', .int .i64 n', .float .f64 f', .string s', .slice so' m' cap']] w fun e w' => e = .returned (.bool (sameB k n f s m k' n' f' s' m')) ∧ Ext w w' := by
  have hE1 := (Ext.refl w).alloc (.cells #[.int .i64 k, .int .i64 n, .float .f64 f, .string s, .slice so m cap] 27)
  have hB1 := RBox.new w k n f s so m cap
  obtain ⟨w1, hw1⟩ : ∃ w1, w.alloc (.cells #[.int .i64 k, .int .i64 n, .float .f64 f, .string s, .slice so m cap] 27) = w1 := ⟨_, rfl⟩
  have hs1 : w1.heap.size = w.heap.size + 1 := by rw [← hw1]; simp
  rw [hw1] at hE1 hB1
  have hE2 := (Ext.refl w1).alloc (.cells #[.int .i64 k', .int .i64 n', .float .f64 f', .string s', .slice so' m' cap'] 27)
  have hB2 := RBox.new w1 k' n' f' s' so' m' cap'
  rw [hs1] at hB2
  obtain ⟨w2, hw2⟩ : ∃ w2, w1.alloc (.cells #[.int .i64 k', .int .i64 n', .float .f64 f', .string s', .slice so' m' cap'] 27) = w2 := ⟨_, rfl⟩
  rw [hw2] at hE2 hB2
  have hB1' := hB1.ext hE2
  obtain ⟨c0, c1, c2, c3, c4⟩ := hB1'.cells
  obtain ⟨d0, d1, d2, d3, d4⟩ := hB2.cells
  have HW1 := Lib.hid hw1
  have HW2 := Lib.hid hw2
  have HE := Lib.hid (fun q => (hE1.trans hE2).drewN q)
  clear hE1 hB1 hw1 hs1 hE2 hB2 hw2 hB1'
  obtain ⟨r, hr⟩ : ∃ r, sameB k n f s m k' n' f' s' m' = r := ⟨_, rfl⟩
  rw [hr]
  unfold sameB at hr
  have hb := run_bits f
  have hb' := run_bits f'
  cases b1 : (k == k')
  · have HR := Lib.hid (show false = r by rw [← hr, b1]; rfl)
    clear hr
    go_enter Tryd.func20, Tryd.ntmps20
    go_upto_region 1 with (fail)
    rw [HW1.out, HW2.out]
    go_quiet (fail)
    go_wp2_with fail
    go_ret
    exact ⟨by obtain rfl := HR.out; rfl, HE.out _⟩
  · skip
    cases b2 : (n == n')
    · have HR := Lib.hid (show false = r by rw [← hr, b1, b2]; rfl)
      clear hr
      go_enter Tryd.func20, Tryd.ntmps20
      go_upto_region 1 with (fail)
      rw [HW1.out, HW2.out]
      go_quiet (fail)
      go_wp2_with fail
      go_ret
      exact ⟨by obtain rfl := HR.out; rfl, HE.out _⟩
    · skip
      cases b3 : (s.toList == s'.toList)
      · have HR := Lib.hid (show false = r by rw [← hr, b1, b2, b3]; rfl)
        clear hr
        go_enter Tryd.func20, Tryd.ntmps20
        go_upto_region 1 with (fail)
        rw [HW1.out, HW2.out]
        go_quiet (fail)
        go_wp2_with fail
        go_ret
        exact ⟨by obtain rfl := HR.out; rfl, HE.out _⟩
      · skip
        cases b4 : ((m : Int) == 0)
        · have HR := Lib.hid (show false = r by rw [← hr, b1, b2, b3, b4]; rfl)
          clear hr
          go_enter Tryd.func20, Tryd.ntmps20
          go_upto_region 1 with (fail)
          rw [HW1.out, HW2.out]
          go_quiet (fail)
          go_wp2_with fail
          go_ret
          exact ⟨by obtain rfl := HR.out; rfl, HE.out _⟩
        · skip
          cases b5 : ((m' : Int) == 0)
          · have HR := Lib.hid (show false = r by rw [← hr, b1, b2, b3, b4, b5]; rfl)
            clear hr
            go_enter Tryd.func20, Tryd.ntmps20
            go_upto_region 1 with (fail)
            rw [HW1.out, HW2.out]
            go_quiet (fail)
            go_wp2_with fail
            go_ret
            exact ⟨by obtain rfl := HR.out; rfl, HE.out _⟩
          · skip
            cases b6 : ((f : Int) == (f' : Int))
            · have HR := Lib.hid (show false = r by rw [← hr, b1, b2, b3, b4, b5, b6]; rfl)
              clear hr
              go_enter Tryd.func20, Tryd.ntmps20
              go_upto_region 1 with (fail)
              rw [HW1.out, HW2.out]
              go_quiet (fail)
              go_wp2_with fail
              go_ret
              exact ⟨by obtain rfl := HR.out; rfl, HE.out _⟩
            · skip
              have HR := Lib.hid (show true = r by rw [← hr, b1, b2, b3, b4, b5, b6]; rfl)
              clear hr
              go_enter Tryd.func20, Tryd.ntmps20
              go_upto_region 1 with (fail)
              rw [HW1.out, HW2.out]
              go_quiet (fail)
              go_wp2_with fail
              go_ret
              exact ⟨by obtain rfl := HR.out; rfl, HE.out _⟩

end Go.Proofs.YtlpifchimnnfdaaDoor
