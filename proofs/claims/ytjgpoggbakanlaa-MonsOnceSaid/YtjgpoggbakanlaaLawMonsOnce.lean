/- MonsOnce: of a reference one answer comes at most for each watch: every row of acts of at most 2000, every reference. No conditions. -/
import Derived.Test.YtjgpoggbakanlaaVMonsOnceWalk
import Derived.Carry
namespace Go.Proofs.Ytjgpoggbakanlaa
open Go.ChangeShapes Go.WideShapes Go.ChangeAt Go.RowKit

set_option maxRecDepth 100000 in
theorem monsOnce_lifted (os : Os) (started : os.Started) (H : Type) (enc : TypeId × Value → H) :
    ReturnsInHanded {} Try.checked os 3 .any (Rows.monsOnceSpec.pre6 enc Try.prog Try.f3 Rows.monsOnceRow.domain false) (Rows.monsOnceSpec.post enc Try.prog Try.f3 false true false false) := by
  refine lift_law started 3 Try.f3 Rows.monsOnceSpec (by kernel_rfl) Try.func3 rfl rfl (by decide +kernel) ?_
    (ChangeSpec.witness6 (enc := enc) (C := Try.checked) false ⟨#[], #[.slice none 0 0, .int .i64 0], []⟩ 8 (by kernel_rfl) (by kernel_rfl) (by kernel_rfl) (by kernel_rfl)) ?_
  · intro ds hl
    match ds, hl with
    | [_, _], _ => rfl
  · intro W base args ds p hval hA _ _
    rw [Try.params3] at hA hval
    obtain ⟨v0, v1, d0, d1, p0, p1, rfl, rfl, rfl, h0, h1⟩ := trodAll_two hA
    obtain ⟨n, rfl, rfl, rfl, _⟩ := open_int Try.underlying3 (hval 1 3 v1 rfl rfl) h1
    obtain ⟨a0, len, cap, rfl⟩ := okWide_slice Try.underlying22 (hval 0 22 v0 rfl rfl)
    obtain ⟨l, hl, hrow, hw⟩ := arg_ms h0
    subst hl
    exact monsOnce_any a0 cap l n W hrow hw

set_option maxRecDepth 100000 in
theorem monsOnce_holds : Rows.MonsOnceSaid :=
  OpenClaim.holds_of_wide 3 Try.f3 rfl rfl rfl rfl rfl rfl rfl ⟨rfl, rfl, rfl, rfl, rfl⟩ rfl rfl rfl rfl rfl (by kernel_rfl) Try.func3 (by kernel_rfl)
    (of_decide_eq_true (by kernel_rfl)) (by unfold Func.isWrapper; first | (rw [if_pos (by decide +kernel)]; kernel_rfl) | (rw [if_neg (by decide +kernel)]; exact ⟨rfl, rfl⟩))
    (fun os started H enc _ => monsOnce_lifted os started H enc)

end Go.Proofs.Ytjgpoggbakanlaa
