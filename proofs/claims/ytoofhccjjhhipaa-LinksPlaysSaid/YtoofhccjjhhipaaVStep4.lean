/- An act on both: 4. -/
import Derived.Test.YtoofhccjjhhipaaVStepP
import Derived.Deep.Cut
import Derived.BigRegion
namespace Go.Proofs.Ytoofhccjjhhipaa
open Go.RowKit
attribute [local irreducible] Ext

set_option maxRecDepth 100000 in
set_option maxHeartbeats 4000000 in
theorem step_op4 {W w : World} {lb tb rb : Nat} {K : List (Int × (Int × Int × Int))} {ids : Int} (pid id : Int) (h : Two W w lb tb rb K ids K ids) (hk : KOk K) (hm : K.length ≤ 100000) :
    Calls Try.prog 9 #[.pointer (some ⟨lb, 0, none⟩), .pointer (some ⟨rb, 0, none⟩), .agg #[.int .i64 4, .int .i64 pid, .int .i64 id]] w fun e w' =>
      e = .returned (.bool true) ∧ Two W w' lb tb rb (stepK K ids 4 pid id).1 (stepK K ids 4 pid id).2 (stepK K ids 4 pid id).1 (stepK K ids 4 pid id).2 := by
  have h1 : Act2 W (w.alloc (.cells #[.int .i64 4, .int .i64 pid, .int .i64 id] 31)) lb tb rb w.heap.size K ids K ids 4 pid id := ⟨h.ext ((Ext.refl w).alloc _), heap_alloc_new w _⟩
  have hm1 : K.length ≤ 1000000 := by omega
  have HK := Lib.hid hk
  clear h hk
  obtain ⟨K', hK'⟩ : ∃ K', (if (lookR K pid).1.2.1 = 1 then del pid K else K) = K' := ⟨_, rfl⟩
  have hst : stepK K ids 4 pid id = (K', ids) := by rw [← hK']; rfl
  rw [hst]
  obtain ⟨q, hq⟩ : ∃ q, decide ((lookR K pid).1.2.1 = 1) = q := ⟨_, rfl⟩
  have zz := h1.cells.1
  go_enter Try.func9, Try.ntmps9
  go_upto_region 2 with (fail)
  generalize w.alloc (.cells #[.int .i64 4, .int .i64 pid, .int .i64 id] 31) = w1 at h1 zz ⊢
  obtain ⟨xb, hxb⟩ : ∃ xb, w.heap.size = xb := ⟨_, rfl⟩
  rw [hxb] at h1 zz ⊢
  clear hxb zz
  have hr := HK.out.rising
  have hA1 := with_act h1 (tl_onUnlink h1.two pid hm1)
  rw [hK'] at hA1
  have hB2 : ∀ w', Act2 W w' lb tb rb xb K' ids K ids 4 pid id → Calls Try.prog 32 #[.pointer (some ⟨rb, 0, none⟩), .int .i64 pid] w' fun e w'' => e = .returned (.bool q) ∧ Act2 W w'' lb tb rb xb K' ids K' ids 4 pid id := by
    intro w' h
    have := with_act h (tr_onExit h.two pid hm1 hr)
    rw [hq, hK'] at this
    exact this
  have HB2 := Lib.hid hB2
  have z1 := h1.cells
  clear hK' hst hB2 h1 hr
  obtain ⟨z0, z1, z2⟩ := z1
  go_wp2_with fail
  refine hA1.mono ?_
  rintro e w2 ⟨⟨u, rfl⟩, hP1⟩
  obtain ⟨_, y1, _⟩ := hP1.cells
  have hB3 := HB2.out w2 hP1
  clear hP1 hA1 HB2
  go_wp2_with fail
  refine hB3.mono ?_
  rintro e w3 ⟨rfl, hP2⟩
  have HP2 := Lib.hid hP2
  clear hP2 hB3
  go_wp2_with fail
  go_ret
  exact ⟨rfl, HP2.out.two⟩

end Go.Proofs.Ytoofhccjjhhipaa
