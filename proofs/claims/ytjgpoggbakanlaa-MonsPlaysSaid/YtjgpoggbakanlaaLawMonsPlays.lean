/- MonsPlays: all acts (at most 2000): the table of monitors answers as the document's, and what Origins and Targets hand out is one's own. No conditions. -/
import Derived.Test.YtjgpoggbakanlaaVPlaysMWalk
import Derived.Carry
namespace Go.Proofs.Ytjgpoggbakanlaa
open Go.ChangeShapes Go.WideShapes Go.ChangeAt Go.RowKit

set_option maxRecDepth 100000 in
theorem monsPlays_lifted (os : Os) (started : os.Started) (H : Type) (enc : TypeId × Value → H) :
    ReturnsInHanded {} Try.checked os 4 .any (Rows.monsPlaysSpec.pre6 enc Try.prog Try.f4 Rows.monsPlaysRow.domain false) (Rows.monsPlaysSpec.post enc Try.prog Try.f4 false true false false) := by
  refine lift_law started 4 Try.f4 Rows.monsPlaysSpec (by kernel_rfl) Try.func4 rfl rfl (by decide +kernel) ?_
    (ChangeSpec.witness6 (enc := enc) (C := Try.checked) false ⟨#[], #[.slice none 0 0], []⟩ 8 (by kernel_rfl) (by kernel_rfl) (by kernel_rfl) (by kernel_rfl)) ?_
  · intro ds hl
    match ds, hl with
    | [_], _ => rfl
  · intro W base args ds p hval hA _ _
    rw [Try.params4] at hA hval
    obtain ⟨v0, d0, rfl, rfl, h0⟩ := trodAll_one hA
    obtain ⟨a0, len, cap, rfl⟩ := okWide_slice Try.underlying22 (hval 0 22 v0 rfl rfl)
    obtain ⟨l, hl, hrow, hw⟩ := arg_ms h0
    subst hl
    exact monsPlays_any a0 cap l W hrow hw

set_option maxRecDepth 100000 in
theorem monsPlays_holds : Rows.MonsPlaysSaid :=
  OpenClaim.holds_of_wide 4 Try.f4 rfl rfl rfl rfl rfl rfl rfl ⟨rfl, rfl, rfl, rfl, rfl⟩ rfl rfl rfl rfl rfl (by kernel_rfl) Try.func4 (by kernel_rfl)
    (of_decide_eq_true (by kernel_rfl)) (by unfold Func.isWrapper; first | (rw [if_pos (by decide +kernel)]; kernel_rfl) | (rw [if_neg (by decide +kernel)]; exact ⟨rfl, rfl⟩))
    (fun os started H enc _ => monsPlays_lifted os started H enc)

end Go.Proofs.Ytjgpoggbakanlaa
