/- An act on both tables of monitors: 6. -/
import Derived.Test.YtjgpoggbakanlaaVStepPM
import Derived.Deep.Cut
import Derived.BigRegion
namespace Go.Proofs.Ytjgpoggbakanlaa
open Go.RowKit
attribute [local irreducible] Ext

set_option maxRecDepth 100000 in
set_option maxHeartbeats 4000000 in
theorem stepm_op6 {W w : World} {mb ob gb rb : Nat} {K1 K2 : List (Int × (Int × Int × ByteArray))} (ref pid : Int) (name : ByteArray) (_hr : -9223372036854775808 ≤ ref) (h : Two (fun _ => False) W w mb ob gb rb K1 K2 K1 K2) (hm1 : K1.length ≤ 100000) (hm2 : K2.length ≤ 100000) :
    Calls Try.prog 15 #[.pointer (some ⟨mb, 0, none⟩), .pointer (some ⟨rb, 0, none⟩), .agg #[.int .i64 6, .int .i64 ref, .int .i64 pid, .string name]] w fun e w' =>
      e = .returned (.bool true) ∧ Two (fun _ => False) W w' mb ob gb rb (stepM (K1, K2) 6 ref pid name).1 (stepM (K1, K2) 6 ref pid name).2 (stepM (K1, K2) 6 ref pid name).1 (stepM (K1, K2) 6 ref pid name).2 := by
  have h1 := act_new h 6 ref pid name
  have HK := Lib.hid h.rising
  have hm3 : K1.length ≤ 1000000 := by omega
  have hm4 : K2.length ≤ 1000000 := by omega
  clear h hm1 hm2
  obtain ⟨p, hp⟩ : ∃ p, popR K2 = p := ⟨_, rfl⟩
  have hst : stepM (K1, K2) 6 ref pid name = (K1, K2.tail) := rfl
  rw [hst]
  have zz := h1.cells
  obtain ⟨z0, z1, z2, z3⟩ := zz
  go_enter Try.func15, Try.ntmps15
  go_upto_region 5 with (fail)
  generalize ((w.alloc (.cells #[.int .i64 6, .int .i64 ref, .int .i64 pid, .string name] 27)).alloc (.cells #[.int .i64 0, .int .i64 0, .string ⟨#[]⟩] 31)).alloc (.cells #[.int .i64 0, .int .i64 0, .string ⟨#[]⟩] 31) = w1 at h1 z0 z1 z2 z3 ⊢
  obtain ⟨xb, hxb⟩ : ∃ xb, w.heap.size = xb := ⟨_, rfl⟩
  rw [hxb] at h1 z0 z1 z2 z3 ⊢
  obtain ⟨ab, hab⟩ : ∃ ab, xb + 1 = ab := ⟨_, rfl⟩
  rw [hab] at h1 ⊢
  obtain ⟨bb, hbb⟩ : ∃ bb, ab + 1 = bb := ⟨_, rfl⟩
  rw [hbb] at h1 ⊢
  clear hxb hab hbb
  have hA1 := with_act h1 (tm_popTarget h1.two hm4)
  rw [hp] at hA1
  have HP := Lib.hid hp
  clear hp hst h1
  go_wp2_with fail
  refine hA1.mono ?_
  rintro e w2 ⟨rfl, hP1⟩
  obtain ⟨_, _, _, e0, e1, e2⟩ := Box3.cells hP1.fa
  have hP2 := hP1.setA p.1
  have hB3 := with_act hP2 (tr_popTarget hP2.two hP2.lt hm4)
  rw [HP.out] at hB3
  obtain ⟨y0, y1, y2, y3⟩ := hP2.cells
  clear hP1 hA1
  unfold set3 at hB3 y0 y1 y2 y3
  go_wp2_with fail
  refine hB3.mono ?_
  rintro e w3 ⟨rfl, hP3⟩
  obtain ⟨_, _, _, d0, d1, d2⟩ := Box3.cells hP3.fb
  have hP4 := hP3.setB p.1
  obtain ⟨g0, g1, g2, _, _, _⟩ := Box3.cells hP4.fa
  obtain ⟨f0, f1, f2, _, _, _⟩ := Box3.cells hP4.fb
  have HP4 := Lib.hid hP4
  clear hP2 hP3 hP4 hB3
  unfold set3 at HP4 g0 g1 g2 f0 f1 f2
  go_wp2_with fail
  go_ret
  exact ⟨by simp, HP4.out.two.weak (fun k h => h.elim)⟩

end Go.Proofs.Ytjgpoggbakanlaa
