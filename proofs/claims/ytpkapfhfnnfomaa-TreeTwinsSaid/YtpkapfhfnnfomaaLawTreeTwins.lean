/- TreeTwins: a twin and a tree do not see one another; sequences go over what the tree was, again and again, and may be left: any rows of acts of at most 500. No conditions. -/
import Derived.Test.YtpkapfhfnnfomaaTreeTwinsWalk
import Derived.Carry
namespace Go.Proofs.Ytpkapfhfnnfomaa
open Go.ChangeShapes Go.WideShapes Go.ChangeAt Go.RowKit

theorem treeTwins_lifted (os : Os) (started : os.Started) (H : Type) (enc : TypeId × Value → H) :
    ReturnsInHanded {} Try.checked os 6 .any (Rows.treeTwinsSpec.pre6 enc Try.prog Try.f6 Rows.treeTwinsRow.domain false) (Rows.treeTwinsSpec.post enc Try.prog Try.f6 false true false false) := by
  refine lift_law started 6 Try.f6 Rows.treeTwinsSpec (by kernel_rfl) Try.func6 rfl rfl (by decide +kernel) ?_
    (ChangeSpec.witness6 (enc := enc) (C := Try.checked) false ⟨#[], #[.slice none 0 0, .slice none 0 0, .slice none 0 0, .int .i64 0], []⟩ 8 (by kernel_rfl) (by kernel_rfl) (by kernel_rfl) (by kernel_rfl)) ?_
  · intro ds hl
    match ds, hl with
    | [_, _, _, _], _ => rfl
  · intro W base args ds p hval hA _ _
    rw [Try.params6] at hA hval
    obtain ⟨v0, v1, v2, v3, d0, d1, d2, d3, p0, p1, p2, p3, rfl, rfl, rfl, h0, h1, h2, h3⟩ := trodAll_four hA
    obtain ⟨a0, len0, cap0, rfl⟩ := okWide_slice Try.underlying35 (hval 0 35 v0 rfl rfl)
    obtain ⟨a1, len1, cap1, rfl⟩ := okWide_slice Try.underlying35 (hval 1 35 v1 rfl rfl)
    obtain ⟨a2, len2, cap2, rfl⟩ := okWide_slice Try.underlying35 (hval 2 35 v2 rfl rfl)
    obtain ⟨stop, rfl, rfl, rfl, _⟩ := open_int Try.underlying3 (hval 3 3 v3 rfl rfl) h3
    obtain ⟨l0, e0, r0, w0⟩ := arg_acts h0
    obtain ⟨l1, e1, r1, w1⟩ := arg_acts h1
    obtain ⟨l2, e2, r2, w2⟩ := arg_acts h2
    subst e0 e1 e2
    exact treeTwins_any a0 a1 a2 cap0 cap1 cap2 l0 l1 l2 stop W r0 r1 r2 w0 w1 w2

theorem treeTwins_holds : Rows.TreeTwinsSaid :=
  OpenClaim.holds_of_wide 6 Try.f6 rfl rfl rfl rfl rfl rfl rfl ⟨rfl, rfl, rfl, rfl, rfl⟩ rfl rfl rfl rfl rfl (by kernel_rfl) Try.func6 (by kernel_rfl)
    (of_decide_eq_true (by kernel_rfl)) (by unfold Func.isWrapper; first | (rw [if_pos (by decide +kernel)]; kernel_rfl) | (rw [if_neg (by decide +kernel)]; exact ⟨rfl, rfl⟩))
    (fun os started H enc _ => treeTwins_lifted os started H enc)

end Go.Proofs.Ytpkapfhfnnfomaa
