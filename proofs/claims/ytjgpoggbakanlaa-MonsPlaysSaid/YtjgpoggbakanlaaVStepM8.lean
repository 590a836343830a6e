/- An act on both tables of monitors: any other. -/
import Derived.Test.YtjgpoggbakanlaaVStepPM
import Derived.Deep.Cut
import Derived.BigRegion
namespace Go.Proofs.Ytjgpoggbakanlaa
open Go.RowKit
attribute [local irreducible] Ext

set_option maxRecDepth 100000 in
set_option maxHeartbeats 4000000 in
theorem stepm_else {W w : World} {mb ob gb rb : Nat} {K1 K2 : List (Int × (Int × Int × ByteArray))} (op : Int) (ref pid : Int) (name : ByteArray) (_hr : -9223372036854775808 ≤ ref) (h : Two (fun _ => False) W w mb ob gb rb K1 K2 K1 K2) (hm1 : K1.length ≤ 100000) (hm2 : K2.length ≤ 100000) (h11 : op ≠ 1) (h12 : op ≠ 2) (h13 : op ≠ 3) (h14 : op ≠ 4) (h15 : op ≠ 5) (h16 : op ≠ 6) (h17 : op ≠ 7) :
    Calls Try.prog 15 #[.pointer (some ⟨mb, 0, none⟩), .pointer (some ⟨rb, 0, none⟩), .agg #[.int .i64 op, .int .i64 ref, .int .i64 pid, .string name]] w fun e w' =>
      e = .returned (.bool true) ∧ Two (fun _ => False) W w' mb ob gb rb (stepM (K1, K2) op ref pid name).1 (stepM (K1, K2) op ref pid name).2 (stepM (K1, K2) op ref pid name).1 (stepM (K1, K2) op ref pid name).2 := by
  have h1 := act_new h op ref pid name
  have HK := Lib.hid h.rising
  have hm3 : K1.length ≤ 1000000 := by omega
  have hm4 : K2.length ≤ 1000000 := by omega
  clear h hm1 hm2
  have hst : stepM (K1, K2) op ref pid name = (K1, K2) := by unfold stepM; simp [h11, h12, h13, h14, h15, h16, h17]
  rw [hst]
  have b1 : (op == 1) = false := by simpa using h11
  have b2 : (op == 2) = false := by simpa using h12
  have b3 : (op == 3) = false := by simpa using h13
  have b4 : (op == 4) = false := by simpa using h14
  have b5 : (op == 5) = false := by simpa using h15
  have b6 : (op == 6) = false := by simpa using h16
  have b7 : (op == 7) = false := by simpa using h17
  have zz := h1.cells
  obtain ⟨z0, z1, z2, z3⟩ := zz
  go_enter Try.func15, Try.ntmps15
  go_upto_region 5 with (fail)
  generalize ((w.alloc (.cells #[.int .i64 op, .int .i64 ref, .int .i64 pid, .string name] 27)).alloc (.cells #[.int .i64 0, .int .i64 0, .string ⟨#[]⟩] 31)).alloc (.cells #[.int .i64 0, .int .i64 0, .string ⟨#[]⟩] 31) = w1 at h1 z0 z1 z2 z3 ⊢
  obtain ⟨xb, hxb⟩ : ∃ xb, w.heap.size = xb := ⟨_, rfl⟩
  rw [hxb] at h1 z0 z1 z2 z3 ⊢
  obtain ⟨ab, hab⟩ : ∃ ab, xb + 1 = ab := ⟨_, rfl⟩
  rw [hab] at h1 ⊢
  obtain ⟨bb, hbb⟩ : ∃ bb, ab + 1 = bb := ⟨_, rfl⟩
  rw [hbb] at h1 ⊢
  clear hxb hab hbb
  obtain ⟨g0, g1, g2, _, _, _⟩ := Box3.cells h1.fa
  obtain ⟨f0, f1, f2, _, _, _⟩ := Box3.cells h1.fb
  have H1 := Lib.hid h1
  clear h11 h12 h13 h14 h15 h16 h17 hst h1
  go_wp2_with fail
  go_ret
  exact ⟨by simp, H1.out.two.weak (fun k h => h.elim)⟩

end Go.Proofs.Ytjgpoggbakanlaa
