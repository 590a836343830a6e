/- TreeRows: rising, falling, and any other rows of keys, of up to 20000, some dropped: balanced, and told rising. No conditions. -/
import Derived.Test.YtpkapfhfnnfomaaTreeRowsWalk
import Derived.Carry
namespace Go.Proofs.Ytpkapfhfnnfomaa
open Go.ChangeShapes Go.WideShapes Go.ChangeAt Go.RowKit

theorem treeRows_lifted (os : Os) (started : os.Started) (H : Type) (enc : TypeId × Value → H) :
    ReturnsInHanded {} Try.checked os 3 .any (Rows.treeRowsSpec.pre6 enc Try.prog Try.f3 Rows.treeRowsRow.domain false) (Rows.treeRowsSpec.post enc Try.prog Try.f3 false true false false) := by
  refine lift_law started 3 Try.f3 Rows.treeRowsSpec (by kernel_rfl) Try.func3 rfl rfl (by decide +kernel) ?_
    (ChangeSpec.witness6 (enc := enc) (C := Try.checked) false ⟨#[], #[.int .i64 0, .int .i64 0, .int .i64 0, .int .i64 0], []⟩ 8 (by kernel_rfl) (by kernel_rfl) (by kernel_rfl) (by kernel_rfl)) ?_
  · intro ds hl
    match ds, hl with
    | [_, _, _, _], _ => rfl
  · intro W base args ds p hval hA _ _
    rw [Try.params3] at hA hval
    obtain ⟨v0, v1, v2, v3, d0, d1, d2, d3, p0, p1, p2, p3, rfl, rfl, rfl, h0, h1, h2, h3⟩ := trodAll_four hA
    obtain ⟨a, rfl, rfl, rfl, wa⟩ := open_int Try.underlying3 (hval 0 3 v0 rfl rfl) h0
    obtain ⟨b, rfl, rfl, rfl, wb⟩ := open_int Try.underlying3 (hval 1 3 v1 rfl rfl) h1
    obtain ⟨c, rfl, rfl, rfl, wc⟩ := open_int Try.underlying3 (hval 2 3 v2 rfl rfl) h2
    obtain ⟨d, rfl, rfl, rfl, wd⟩ := open_int Try.underlying3 (hval 3 3 v3 rfl rfl) h3
    exact treeRows_any a b c d W (range_i64 wa).1

theorem treeRows_holds : Rows.TreeRowsSaid :=
  OpenClaim.holds_of_wide 3 Try.f3 rfl rfl rfl rfl rfl rfl rfl ⟨rfl, rfl, rfl, rfl, rfl⟩ rfl rfl rfl rfl rfl (by kernel_rfl) Try.func3 (by kernel_rfl)
    (of_decide_eq_true (by kernel_rfl)) (by unfold Func.isWrapper; first | (rw [if_pos (by decide +kernel)]; kernel_rfl) | (rw [if_neg (by decide +kernel)]; exact ⟨rfl, rfl⟩))
    (fun os started H enc _ => treeRows_lifted os started H enc)

end Go.Proofs.Ytpkapfhfnnfomaa
