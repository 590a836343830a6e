/- An act on both: 6. -/
import Derived.Test.YtoofhccjjhhipaaVStepP
import Derived.Deep.Cut
import Derived.BigRegion
namespace Go.Proofs.Ytoofhccjjhhipaa
open Go.RowKit
attribute [local irreducible] Ext

set_option maxRecDepth 100000 in
set_option maxHeartbeats 4000000 in
theorem step_op6 {W w : World} {lb tb rb : Nat} {K : List (Int × (Int × Int × Int))} {ids : Int} (pid id : Int) (h : Two W w lb tb rb K ids K ids) (hk : KOk K) (hm : K.length ≤ 100000) :
    Calls Try.prog 9 #[.pointer (some ⟨lb, 0, none⟩), .pointer (some ⟨rb, 0, none⟩), .agg #[.int .i64 6, .int .i64 pid, .int .i64 id]] w fun e w' =>
      e = .returned (.bool true) ∧ Two W w' lb tb rb (stepK K ids 6 pid id).1 (stepK K ids 6 pid id).2 (stepK K ids 6 pid id).1 (stepK K ids 6 pid id).2 := by
  have h1 : Act2 W (w.alloc (.cells #[.int .i64 6, .int .i64 pid, .int .i64 id] 31)) lb tb rb w.heap.size K ids K ids 6 pid id := ⟨h.ext ((Ext.refl w).alloc _), heap_alloc_new w _⟩
  have hm1 : K.length ≤ 1000000 := by omega
  have HK := Lib.hid hk
  clear h hk
  obtain ⟨K', hK'⟩ : ∃ K', (if (lookR K pid).1.2.1 = 1 then del pid K else K) = K' := ⟨_, rfl⟩
  obtain ⟨q, hq⟩ : ∃ q, decide ((lookR K pid).1.2.1 = 1) = q := ⟨_, rfl⟩
  have hst : stepK K ids 6 pid id = (K', ids) := by rw [← hK']; rfl
  rw [hst]
  have zz := h1.cells.1
  go_enter Try.func9, Try.ntmps9
  go_upto_region 2 with (fail)
  generalize w.alloc (.cells #[.int .i64 6, .int .i64 pid, .int .i64 id] 31) = w1 at h1 zz ⊢
  obtain ⟨xb, hxb⟩ : ∃ xb, w.heap.size = xb := ⟨_, rfl⟩
  rw [hxb] at h1 zz ⊢
  clear hxb zz
  have hr := HK.out.rising
  have hA1 := with_act h1.drew (tl_onExit h1.drew.two pid hm1)
  have hB1 := with_act h1.drew (tr_onExit h1.drew.two pid hm1 hr)
  have hA2 : ∀ w', Act2 W w' lb tb rb xb K' ids K ids 6 pid id → Calls Try.prog 32 #[.pointer (some ⟨rb, 0, none⟩), .int .i64 pid] w' fun e w'' => e = .returned (.bool q) ∧ Act2 W w'' lb tb rb xb K' ids K' ids 6 pid id := by
    intro w' h
    have := with_act h (tr_onExit h.two pid hm1 hr)
    rw [hq, hK'] at this
    exact this
  have hB2 : ∀ w', Act2 W w' lb tb rb xb K ids K' ids 6 pid id → Calls Try.prog 13 #[.pointer (some ⟨lb, 0, none⟩), .int .i64 pid] w' fun e w'' => e = .returned (.bool q) ∧ Act2 W w'' lb tb rb xb K' ids K' ids 6 pid id := by
    intro w' h
    have := with_act h (tl_onExit h.two pid hm1)
    rw [hq, hK'] at this
    exact this
  rw [hq, hK'] at hA1 hB1
  have HA2 := Lib.hid hA2
  have HB2 := Lib.hid hB2
  have z1 := h1.cells
  have Z1 := Lib.hid h1
  clear hq hK' hst hA2 hB2 h1 hr
  obtain ⟨z0, z1, z2⟩ := z1
  go_wp2_with fail
  go_region_held3 (fun w' => w'.cell? ⟨xb, 1, none⟩ = some (.int .i64 pid) ∧ w'.cell? ⟨xb, 2, none⟩ = some (.int .i64 id)) (first | assumption | go_keep)
    (first
      | (go_at_call 13; (with_reducible refine hA1.mono ?_); rintro e w2 ⟨rfl, hP1⟩; have hC2 := HA2.out w2 hP1; have hS1 := hP1.cells.2)
      | (go_at_call 32; (with_reducible refine hB1.mono ?_); rintro e w2 ⟨rfl, hP1⟩; have hD2 := HB2.out w2 hP1; have hS1 := hP1.cells.2)
      | (go_at_call 32; (with_reducible refine hC2.mono ?_); rintro e w3 ⟨rfl, hP2⟩; have hS2 := hP2.cells.2)
      | (go_at_call 13; (with_reducible refine hD2.mono ?_); rintro e w3 ⟨rfl, hP2⟩; have hS2 := hP2.cells.2)
      | fail)
  all_goals go_wp2_with fail
  all_goals go_ret
  all_goals exact ⟨by simp, hP2.two⟩

end Go.Proofs.Ytoofhccjjhhipaa
