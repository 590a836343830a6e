/- LinksDeaf: from Unlink to the next Link or OnLink of a pid no exit strikes it: all acts (at most 2000 each), every pid. No conditions. -/
import Derived.Test.YtoofhccjjhhipaaVDeafWalk
import Derived.Carry
namespace Go.Proofs.Ytoofhccjjhhipaa
open Go.ChangeShapes Go.WideShapes Go.ChangeAt Go.RowKit

set_option maxRecDepth 100000 in
theorem linksDeaf_lifted (os : Os) (started : os.Started) (H : Type) (enc : TypeId × Value → H) :
    ReturnsInHanded {} Try.checked os 3 .any (Rows.linksDeafSpec.pre6 enc Try.prog Try.f3 Rows.linksDeafRow.domain false) (Rows.linksDeafSpec.post enc Try.prog Try.f3 false true false false) := by
  refine lift_law started 3 Try.f3 Rows.linksDeafSpec (by kernel_rfl) Try.func3 rfl rfl (by decide +kernel) ?_
    (ChangeSpec.witness6 (enc := enc) (C := Try.checked) false ⟨#[], #[.slice none 0 0, .int .i64 0, .slice none 0 0], []⟩ 8 (by kernel_rfl) (by kernel_rfl) (by kernel_rfl) (by kernel_rfl)) ?_
  · intro ds hl
    match ds, hl with
    | [_, _, _], _ => rfl
  · intro W base args ds p hval hA _ _
    rw [Try.params3] at hA hval
    obtain ⟨v0, v1, v2, d0, d1, d2, p0, p1, p2, rfl, rfl, rfl, h0, h1, h2⟩ := trodAll_three hA
    obtain ⟨n, rfl, rfl, rfl, _⟩ := open_int Try.underlying3 (hval 1 3 v1 rfl rfl) h1
    obtain ⟨a0, len, cap, rfl⟩ := okWide_slice Try.underlying22 (hval 0 22 v0 rfl rfl)
    obtain ⟨a1, len1, cap1, rfl⟩ := okWide_slice Try.underlying22 (hval 2 22 v2 rfl rfl)
    obtain ⟨l, hl, hrow, _⟩ := arg_acts h0
    obtain ⟨l2, hl2, hrow2, _⟩ := arg_acts h2
    subst hl hl2
    exact linksDeaf_any a0 a1 cap cap1 l l2 n W hrow hrow2

set_option maxRecDepth 100000 in
theorem linksDeaf_holds : Rows.LinksDeafSaid :=
  OpenClaim.holds_of_wide 3 Try.f3 rfl rfl rfl rfl rfl rfl rfl ⟨rfl, rfl, rfl, rfl, rfl⟩ rfl rfl rfl rfl rfl (by kernel_rfl) Try.func3 (by kernel_rfl)
    (of_decide_eq_true (by kernel_rfl)) (by unfold Func.isWrapper; first | (rw [if_pos (by decide +kernel)]; kernel_rfl) | (rw [if_neg (by decide +kernel)]; exact ⟨rfl, rfl⟩))
    (fun os started H enc _ => linksDeaf_lifted os started H enc)

end Go.Proofs.Ytoofhccjjhhipaa
