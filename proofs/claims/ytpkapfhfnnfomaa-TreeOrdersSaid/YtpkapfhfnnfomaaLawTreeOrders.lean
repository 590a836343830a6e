/- TreeOrders: whatever order keys come in, trees tell the same: every row of at most 2000 keys. No conditions. -/
import Derived.Test.YtpkapfhfnnfomaaTreeOrdersWalk
namespace Go.Proofs.Ytpkapfhfnnfomaa
open Go.ChangeShapes Go.WideShapes Go.ChangeAt Go.RowKit

theorem treeOrders_lifted (os : Os) (started : os.Started) (H : Type) (enc : TypeId × Value → H) :
    ReturnsInHanded {} Try.checked os 4 .any (Rows.treeOrdersSpec.pre6 enc Try.prog Try.f4 Rows.treeOrdersRow.domain false) (Rows.treeOrdersSpec.post enc Try.prog Try.f4 false true false false) := by
  refine lift_law started 4 Try.f4 Rows.treeOrdersSpec (by kernel_rfl) Try.func4 rfl rfl (by decide +kernel) ?_
    (ChangeSpec.witness6 (enc := enc) (C := Try.checked) false ⟨#[], #[.slice none 0 0, .int .i64 0], []⟩ 8 (by kernel_rfl) (by kernel_rfl) (by kernel_rfl) (by kernel_rfl)) ?_
  · intro ds hl
    match ds, hl with
    | [_, _], _ => rfl
  · intro W base args ds p hval hA _ _
    rw [Try.params4] at hA hval
    obtain ⟨v0, v1, d0, d1, p0, p1, rfl, rfl, rfl, h0, h1⟩ := trodAll_two hA
    obtain ⟨n, rfl, rfl, rfl, wn⟩ := open_int Try.underlying3 (hval 1 3 v1 rfl rfl) h1
    obtain ⟨a0, len, cap, rfl⟩ := okWide_slice Try.underlying33 (hval 0 33 v0 rfl rfl)
    obtain ⟨l, hl, hrow, hw⟩ := arg_ints h0
    subst hl
    exact treeOrders_any a0 cap l n W hrow hw

theorem treeOrders_holds : Rows.TreeOrdersSaid :=
  OpenClaim.holds_of_wide 4 Try.f4 rfl rfl rfl rfl rfl rfl rfl ⟨rfl, rfl, rfl, rfl, rfl⟩ rfl rfl rfl rfl rfl (by kernel_rfl) Try.func4 (by kernel_rfl)
    (of_decide_eq_true (by kernel_rfl)) (by unfold Func.isWrapper; first | (rw [if_pos (by decide +kernel)]; kernel_rfl) | (rw [if_neg (by decide +kernel)]; exact ⟨rfl, rfl⟩))
    (fun os started H enc _ => treeOrders_lifted os started H enc)

end Go.Proofs.Ytpkapfhfnnfomaa
