/- An act on both tables of monitors: 4. -/
import Derived.Test.YtjgpoggbakanlaaVStepPM
import Derived.Deep.Cut
import Derived.BigRegion
namespace Go.Proofs.Ytjgpoggbakanlaa
open Go.RowKit
attribute [local irreducible] Ext

set_option maxRecDepth 100000 in
set_option maxHeartbeats 4000000 in
theorem stepm_op4 {W w : World} {mb ob gb rb : Nat} {K1 K2 : List (Int × (Int × Int × ByteArray))} (ref pid : Int) (name : ByteArray) (hr : -9223372036854775808 ≤ ref) (h : Two (fun _ => False) W w mb ob gb rb K1 K2 K1 K2) (hm1 : K1.length ≤ 100000) (hm2 : K2.length ≤ 100000) :
    Calls Try.prog 15 #[.pointer (some ⟨mb, 0, none⟩), .pointer (some ⟨rb, 0, none⟩), .agg #[.int .i64 4, .int .i64 ref, .int .i64 pid, .string name]] w fun e w' =>
      e = .returned (.bool true) ∧ Two (fun _ => False) W w' mb ob gb rb (stepM (K1, K2) 4 ref pid name).1 (stepM (K1, K2) 4 ref pid name).2 (stepM (K1, K2) 4 ref pid name).1 (stepM (K1, K2) 4 ref pid name).2 := by
  have h1 := act_new h 4 ref pid name
  have HK := Lib.hid h.rising
  have hm3 : K1.length ≤ 1000000 := by omega
  have hm4 : K2.length ≤ 1000000 := by omega
  clear h hm1 hm2
  obtain ⟨q, hq⟩ : ∃ q, (if pid < 1 ∨ badK K2 (ref, pid, ⟨#[]⟩) = true then (1 : Int) else 0) = q := ⟨_, rfl⟩
  obtain ⟨B, hB⟩ : ∃ B, (if pid < 1 then K2 else putK K2 (ref, pid, ⟨#[]⟩)) = B := ⟨_, rfl⟩
  have hst : stepM (K1, K2) 4 ref pid name = (K1, B) := by rw [← hB]; rfl
  rw [hst]
  have zz := h1.cells
  obtain ⟨z0, z1, z2, z3⟩ := zz
  go_enter Try.func15, Try.ntmps15
  go_upto_region 5 with (fail)
  generalize ((w.alloc (.cells #[.int .i64 4, .int .i64 ref, .int .i64 pid, .string name] 27)).alloc (.cells #[.int .i64 0, .int .i64 0, .string ⟨#[]⟩] 31)).alloc (.cells #[.int .i64 0, .int .i64 0, .string ⟨#[]⟩] 31) = w1 at h1 z0 z1 z2 z3 ⊢
  obtain ⟨xb, hxb⟩ : ∃ xb, w.heap.size = xb := ⟨_, rfl⟩
  rw [hxb] at h1 z0 z1 z2 z3 ⊢
  obtain ⟨ab, hab⟩ : ∃ ab, xb + 1 = ab := ⟨_, rfl⟩
  rw [hab] at h1 ⊢
  obtain ⟨bb, hbb⟩ : ∃ bb, ab + 1 = bb := ⟨_, rfl⟩
  rw [hbb] at h1 ⊢
  clear hxb hab hbb
  have hA1 := with_act h1.drew (tm_onMonitor h1.drew.two ref pid hr hm4)
  have hB1 := with_act h1.drew (tr_onMonitor h1.drew.two h1.drew.lt ref pid hm4 HK.out.2)
  have hA2 : ∀ w', Act2 W w' mb ob gb rb xb ab bb K1 B K1 K2 4 ref pid name (0, 0, ⟨#[]⟩) (0, 0, ⟨#[]⟩) → Calls Try.prog 29 #[.pointer (some ⟨rb, 0, none⟩), .int .i64 ref, .int .i64 pid] w' fun e w'' => e = .returned (.int .i64 q) ∧ Act2 W w'' mb ob gb rb xb ab bb K1 B K1 B 4 ref pid name (0, 0, ⟨#[]⟩) (0, 0, ⟨#[]⟩) := by
    intro w' h
    have := with_act h (tr_onMonitor h.two h.lt ref pid hm4 HK.out.2)
    rw [hq, hB] at this
    exact this
  have hB2 : ∀ w', Act2 W w' mb ob gb rb xb ab bb K1 K2 K1 B 4 ref pid name (0, 0, ⟨#[]⟩) (0, 0, ⟨#[]⟩) → Calls Try.prog 11 #[.pointer (some ⟨mb, 0, none⟩), .int .i64 ref, .int .i64 pid] w' fun e w'' => e = .returned (.int .i64 q) ∧ Act2 W w'' mb ob gb rb xb ab bb K1 B K1 B 4 ref pid name (0, 0, ⟨#[]⟩) (0, 0, ⟨#[]⟩) := by
    intro w' h
    have := with_act h (tm_onMonitor h.two ref pid hr hm4)
    rw [hq, hB] at this
    exact this
  rw [hq, hB] at hA1 hB1
  have HA2 := Lib.hid hA2
  have HB2 := Lib.hid hB2
  have Z1 := Lib.hid h1
  clear hq hB hst hA2 hB2 h1
  go_wp2_with fail
  go_region_held3 (fun w' => w'.cell? ⟨xb, 1, none⟩ = some (.int .i64 ref) ∧ w'.cell? ⟨xb, 2, none⟩ = some (.int .i64 pid) ∧ w'.cell? ⟨xb, 3, none⟩ = some (.string name)) (first | assumption | go_keep)
    (first
      | (go_at_call 11; (with_reducible refine hA1.mono ?_); rintro e w2 ⟨rfl, hP1⟩; have hC2 := HA2.out w2 hP1; have hS1 := hP1.cells.2)
      | (go_at_call 29; (with_reducible refine hB1.mono ?_); rintro e w2 ⟨rfl, hP1⟩; have hD2 := HB2.out w2 hP1; have hS1 := hP1.cells.2)
      | (go_at_call 29; (with_reducible refine hC2.mono ?_); rintro e w3 ⟨rfl, hP2⟩; have hS2 := hP2.cells.2)
      | (go_at_call 11; (with_reducible refine hD2.mono ?_); rintro e w3 ⟨rfl, hP2⟩; have hS2 := hP2.cells.2)
      | fail)
  all_goals go_wp2_with fail
  all_goals go_ret
  all_goals exact ⟨by simp, hP2.two.weak (fun k h => h.elim)⟩

end Go.Proofs.Ytjgpoggbakanlaa
