/- InboxTakes (its second form): a message that is taken out of the midst is gone alone; the rest is looked at anew, in order. Condition: the arguments' bulk is at most 1048576. -/
import Derived.Test.YteiognkbkpidiaaInTakes
import Derived.Test.YteiognkbkpidiaaLiftUp
namespace Go.Proofs.Yteiognkbkpidiaa
open Go.ChangeShapes Go.WideShapes Go.ChangeAt Go.RowKit

theorem inboxTakes_lifted (os : Os) (started : os.Started) (H : Type) (enc : TypeId × Value → H) (Fi : Stop.Interp) :
    ReturnsInHanded {} Try.checked os 3 .any ((Rows.OpenSpec.upto Rows.inboxTakesSpec).pre6 enc Try.prog Try.f3 Rows.inboxTakesUptoRow.domain false) (((Rows.OpenSpec.upto Rows.inboxTakesSpec).at Fi).post enc Try.prog Try.f3 false true false false) := by
  refine lift_upto started 3 Try.f3 Rows.inboxTakesSpec (by kernel_rfl) Try.func3 rfl rfl (by decide +kernel) ?_
    (OpenSpec.witness (enc := enc) (C := Try.checked) rfl (x := ([.nil, .lit (.int .i64 0)], [], [])) false ⟨#[], #[.slice none 0 0, .int .i64 0], []⟩ 8 (by kernel_rfl) (by kernel_rfl) (by kernel_rfl) (by kernel_rfl) (by kernel_rfl) (by kernel_rfl)) ?_
  · intro ds hl
    match ds, hl with
    | [_, _], _ => rfl
  · intro W base args ds p hval hA hb _
    rw [Try.params3] at hA hval
    obtain ⟨v0, v1, d0, d1, p0, p1, rfl, rfl, rfl, h0, h1⟩ := trodAll_two hA
    obtain ⟨a0, len, cap, rfl⟩ := okWide_slice Try.underlying22 (hval 0 22 v0 rfl rfl)
    obtain ⟨n, rfl, rfl, rfl, wn⟩ := open_int Try.underlying3 (hval 1 3 v1 rfl rfl) h1
    obtain ⟨l, hl, hrow, hok, hc⟩ := arg_terms h0
    subst hl
    exact (takes_any a0 cap l n W hrow hok (by simp only [Rows.uptoBulkAll] at hb; omega) (range_i64 wn)).mono (fun e w' h => ⟨h.1, h.2.below⟩)

theorem inboxTakes_holds : Rows.InboxTakesUptoSaid :=
  OpenClaim.holds_of_cond 3 Try.f3 rfl rfl rfl rfl rfl rfl rfl ⟨rfl, rfl, rfl, rfl, rfl⟩ rfl rfl rfl rfl rfl (by kernel_rfl) Try.func3 (by kernel_rfl)
    (of_decide_eq_true (by kernel_rfl)) (by unfold Func.isWrapper; first | (rw [if_pos (by decide +kernel)]; kernel_rfl) | (rw [if_neg (by decide +kernel)]; exact ⟨rfl, rfl⟩))
    (fun os started H enc _ Fi => inboxTakes_lifted os started H enc Fi)

end Go.Proofs.Yteiognkbkpidiaa
