/- An act on both: 8. -/
import Derived.Test.YtoofhccjjhhipaaVStepP
import Derived.Deep.Cut
import Derived.BigRegion
namespace Go.Proofs.Ytoofhccjjhhipaa
open Go.RowKit
attribute [local irreducible] Ext

set_option maxRecDepth 100000 in
set_option maxHeartbeats 4000000 in
theorem step_op8 {W w : World} {lb tb rb : Nat} {K : List (Int × (Int × Int × Int))} {ids : Int} (pid id : Int) (h : Two W w lb tb rb K ids K ids) (hk : KOk K) (hm : K.length ≤ 100000) :
    Calls Try.prog 9 #[.pointer (some ⟨lb, 0, none⟩), .pointer (some ⟨rb, 0, none⟩), .agg #[.int .i64 8, .int .i64 pid, .int .i64 id]] w fun e w' =>
      e = .returned (.bool true) ∧ Two W w' lb tb rb (stepK K ids 8 pid id).1 (stepK K ids 8 pid id).2 (stepK K ids 8 pid id).1 (stepK K ids 8 pid id).2 := by
  have h1 : Act2 W (w.alloc (.cells #[.int .i64 8, .int .i64 pid, .int .i64 id] 31)) lb tb rb w.heap.size K ids K ids 8 pid id := ⟨h.ext ((Ext.refl w).alloc _), heap_alloc_new w _⟩
  have hm1 : K.length ≤ 1000000 := by omega
  have HK := Lib.hid hk
  clear h hk
  obtain ⟨p, hp⟩ : ∃ p, popR K = p := ⟨_, rfl⟩
  have hst : stepK K ids 8 pid id = (K.tail, ids) := rfl
  rw [hst]
  have zz := h1.cells.1
  go_enter Try.func9, Try.ntmps9
  go_upto_region 2 with (fail)
  generalize w.alloc (.cells #[.int .i64 8, .int .i64 pid, .int .i64 id] 31) = w1 at h1 zz ⊢
  obtain ⟨xb, hxb⟩ : ∃ xb, w.heap.size = xb := ⟨_, rfl⟩
  rw [hxb] at h1 zz ⊢
  clear hxb zz
  have hr := HK.out.rising
  have hA1 := tl_pop h1.two hm1 (fun x hx => by have := HK.out.pos x hx; omega)
  rw [hp] at hA1
  have z1 := h1.cells
  have HP := Lib.hid hp
  clear hst h1 hr hp
  obtain ⟨z0, z1, z2⟩ := z1
  go_wp2_with fail
  refine hA1.mono ?_
  rintro e w2 ⟨rfl, hP1, _⟩
  have hB3 := tr_pop_box hP1 hm1 p.1
  rw [HP.out] at hB3
  clear hP1 hA1
  go_wp2_with fail
  refine hB3.mono ?_
  rintro e w3 ⟨rfl, hP2, hz3⟩
  have HP2 := Lib.hid (hP2.ext ((Ext.refl w3).alloc (.cells #[.int .i64 p.1.1, .int .i64 p.1.2.1, .int .i64 p.1.2.2] 36)))
  obtain ⟨g0, g1, g2, _, _, _⟩ := Box3.cells (Box3.alloc hz3 (.cells #[.int .i64 p.1.1, .int .i64 p.1.2.1, .int .i64 p.1.2.2] 36))
  obtain ⟨f0, f1, f2, _, _, _⟩ := Box3.cells (Box3.new w3 p.1)
  clear hP2 hB3 hz3
  go_wp2_with fail
  go_ret
  exact ⟨by simp, HP2.out⟩

end Go.Proofs.Ytoofhccjjhhipaa
