/- The table of half-links: Unlink, Pop, New. -/
import Derived.Test.YtoofhccjjhhipaaVLinks2
namespace Go.Proofs.Ytoofhccjjhhipaa
open Go.RowKit
attribute [local irreducible] Ext

set_option maxRecDepth 100000 in
set_option maxHeartbeats 1000000 in
theorem unlink_any {lb tb : Nat} {K : List (Int × (Int × Int × Int))} {ids : Int} (pid : Int) (w : World) (h : LT w lb tb K ids) (hm : K.length ≤ 1000000) :
    Calls Try.prog 10 #[.pointer (some ⟨lb, 0, none⟩), .int .i64 pid] w fun e w' =>
      if (lookR K pid).1.2.1 = 1 then e = .returned (.tuple #[.int .i64 (IntKind.i64.wrap (ids + 1)), .bool true]) ∧ LPost w w' lb tb (ins pid (pid, 2, IntKind.i64.wrap (ids + 1)) K) (IntKind.i64.wrap (ids + 1))
      else e = .returned (.tuple #[.int .i64 0, .bool false]) ∧ LPost w w' lb tb K ids := by
  have hg := linked_any pid w h
  by_cases h1 : (lookR K pid).1.2.1 = 1
  · simp only [if_pos h1]
    rw [decide_eq_true h1] at hg
    have HH := Lib.hid h
    clear h h1
    obtain ⟨nl, hnl⟩ : ∃ nl, IntKind.i64.wrap (ids + 1) = nl := ⟨_, rfl⟩
    rw [hnl]
    go_enter Try.func10, Try.ntmps10
    go_upto_region 4 with (go_at_call 38; (with_reducible refine hg.mono ?_); rintro e wa ⟨rfl, hEa⟩; obtain ⟨_, c1, d1⟩ := (HH.out.ext hEa).cells; have HEa := Lib.hid hEa; clear hEa)
    have h4 := (HH.out.ext HEa.out).setIds nl
    have hM4 : Mod (fun k => k = lb ∨ k = tb) w (wa.setCell ⟨lb, 1, none⟩ (.int .i64 nl)) := Mod.setCell (F := fun k => k = lb ∨ k = tb) (mod_of_ext HEa.out) (p := ⟨lb, 1, none⟩) (.inl (.inl rfl)) _
    clear c1 d1
    generalize wa.setCell ⟨lb, 1, none⟩ (.int .i64 nl) = wb at h4 hM4 ⊢
    obtain ⟨c0, c1, d1⟩ := h4.cells
    have hput : Calls Try.prog 39 #[.pointer (some ⟨tb, 0, none⟩), .int .i64 pid, .agg #[.int .i64 pid, .int .i64 2, .int .i64 nl]] wb.drew fun e w' => (∃ u, e = .returned u) ∧ LPost w w' lb tb (ins pid (pid, 2, nl) K) nl := by
      refine (tk_put pid (pid, 2, nl) wb.drew (h4.tree.ext (Ext.refl wb).drew) hm).mono ?_
      rintro e w2 ⟨hu, ht, hM⟩
      exact ⟨hu, (h4.ext (Ext.refl wb).drew).modT hM ht, hM4.drew.trans hM (fun _ _ h => .inr h)⟩
    have H4 := Lib.hid h4
    have HM4 := Lib.hid hM4
    clear h4 hM4
    go_region_with (go_at_call 39; (with_reducible refine hput.mono ?_); rintro e w2 ⟨⟨u, rfl⟩, hP⟩; have e1 := hP.1.cells.2.1; have HP := Lib.hid hP; clear hP)
    all_goals go_wp2
    all_goals go_ret2
    all_goals exact ⟨rfl, HP.out⟩
  · simp only [if_neg h1]
    rw [decide_eq_false h1] at hg
    have HH := Lib.hid h
    clear h h1
    go_enter Try.func10, Try.ntmps10
    go_wp2_with (go_at_call 38; (with_reducible refine hg.mono ?_); rintro e wa ⟨rfl, hEa⟩; have HEa := Lib.hid hEa; clear hEa)
    go_ret2
    exact ⟨rfl, LPost.same HH.out HEa.out⟩

end Go.Proofs.Ytoofhccjjhhipaa
