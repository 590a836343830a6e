/- An act on both: any other. -/
import Derived.Test.YtoofhccjjhhipaaVStepP
import Derived.Deep.Cut
namespace Go.Proofs.Ytoofhccjjhhipaa
open Go.RowKit
attribute [local irreducible] Ext

set_option maxRecDepth 100000 in
set_option maxHeartbeats 4000000 in
theorem step_else {W w : World} {lb tb rb : Nat} {K : List (Int × (Int × Int × Int))} {ids : Int} (op pid id : Int) (h : Two W w lb tb rb K ids K ids) (hk : KOk K) (hm : K.length ≤ 100000) (h11 : op ≠ 1) (h12 : op ≠ 2) (h13 : op ≠ 3) (h14 : op ≠ 4) (h15 : op ≠ 5) (h16 : op ≠ 6) (h17 : op ≠ 7) (h18 : op ≠ 8) :
    Calls Try.prog 9 #[.pointer (some ⟨lb, 0, none⟩), .pointer (some ⟨rb, 0, none⟩), .agg #[.int .i64 op, .int .i64 pid, .int .i64 id]] w fun e w' =>
      e = .returned (.bool true) ∧ Two W w' lb tb rb (stepK K ids op pid id).1 (stepK K ids op pid id).2 (stepK K ids op pid id).1 (stepK K ids op pid id).2 := by
  have h1 : Act2 W (w.alloc (.cells #[.int .i64 op, .int .i64 pid, .int .i64 id] 31)) lb tb rb w.heap.size K ids K ids op pid id := ⟨h.ext ((Ext.refl w).alloc _), heap_alloc_new w _⟩
  have hm1 : K.length ≤ 1000000 := by omega
  have HK := Lib.hid hk
  clear h hk
  have hst : stepK K ids op pid id = (K, ids) := by unfold stepK; simp [h11, h12, h13, h14, h15, h16, h17, h18]
  rw [hst]
  have zz := h1.cells.1
  go_enter Try.func9, Try.ntmps9
  go_upto_region 2 with (fail)
  generalize w.alloc (.cells #[.int .i64 op, .int .i64 pid, .int .i64 id] 31) = w1 at h1 zz ⊢
  obtain ⟨xb, hxb⟩ : ∃ xb, w.heap.size = xb := ⟨_, rfl⟩
  rw [hxb] at h1 zz ⊢
  clear hxb zz
  have hr := HK.out.rising
  have b1 : (op == 1) = false := by simpa using h11
  have b2 : (op == 2) = false := by simpa using h12
  have b3 : (op == 3) = false := by simpa using h13
  have b4 : (op == 4) = false := by simpa using h14
  have b5 : (op == 5) = false := by simpa using h15
  have b6 : (op == 6) = false := by simpa using h16
  have b7 : (op == 7) = false := by simpa using h17
  have b8 : (op == 8) = false := by simpa using h18
  have z1 := h1.cells
  have H1 := Lib.hid h1
  clear h11 h12 h13 h14 h15 h16 h17 h18 hst h1 hr
  obtain ⟨z0, z1, z2⟩ := z1
  go_wp2_with fail
  go_ret
  exact ⟨rfl, H1.out.two⟩


end Go.Proofs.Ytoofhccjjhhipaa
