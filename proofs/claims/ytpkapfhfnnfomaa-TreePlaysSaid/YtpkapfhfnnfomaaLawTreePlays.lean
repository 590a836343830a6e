/- TreePlays: any acts (at most 3000): each answer is the document's, and the tree is balanced behind each. No conditions. -/
import Derived.Test.YtpkapfhfnnfomaaTreePlaysWalk
namespace Go.Proofs.Ytpkapfhfnnfomaa
open Go.ChangeShapes Go.WideShapes Go.ChangeAt Go.RowKit

theorem treePlays_lifted (os : Os) (started : os.Started) (H : Type) (enc : TypeId × Value → H) :
    ReturnsInHanded {} Try.checked os 5 .any (Rows.treePlaysSpec.pre6 enc Try.prog Try.f5 Rows.treePlaysRow.domain false) (Rows.treePlaysSpec.post enc Try.prog Try.f5 false true false false) := by
  refine lift_law started 5 Try.f5 Rows.treePlaysSpec (by kernel_rfl) Try.func5 rfl rfl (by decide +kernel) ?_
    (ChangeSpec.witness6 (enc := enc) (C := Try.checked) false ⟨#[], #[.slice none 0 0], []⟩ 8 (by kernel_rfl) (by kernel_rfl) (by kernel_rfl) (by kernel_rfl)) ?_
  · intro ds hl
    match ds, hl with
    | [_], _ => rfl
  · intro W base args ds p hval hA _ _
    rw [Try.params5] at hA hval
    obtain ⟨v0, d0, rfl, rfl, h0⟩ := trodAll_one hA
    obtain ⟨a0, len, cap, rfl⟩ := okWide_slice Try.underlying35 (hval 0 35 v0 rfl rfl)
    obtain ⟨l, hl, hrow, hw⟩ := arg_acts h0
    subst hl
    exact treePlays_any a0 cap l W hrow hw

theorem treePlays_holds : Rows.TreePlaysSaid :=
  OpenClaim.holds_of_wide 5 Try.f5 rfl rfl rfl rfl rfl rfl rfl ⟨rfl, rfl, rfl, rfl, rfl⟩ rfl rfl rfl rfl rfl (by kernel_rfl) Try.func5 (by kernel_rfl)
    (of_decide_eq_true (by kernel_rfl)) (by unfold Func.isWrapper; first | (rw [if_pos (by decide +kernel)]; kernel_rfl) | (rw [if_neg (by decide +kernel)]; exact ⟨rfl, rfl⟩))
    (fun os started H enc _ => treePlays_lifted os started H enc)

end Go.Proofs.Ytpkapfhfnnfomaa
