/- ExitsDead: the dead answer any signal as the document says: every signal. No conditions. -/
import Derived.Test.YtdimmomjildpcaaExDeadW
import Derived.Test.YtdimmomjildpcaaArgSig
namespace Go.Proofs.Ytdimmomjildpcaa
open Go.ChangeShapes Go.WideShapes Go.ChangeAt Go.RowKit

set_option maxRecDepth 100000 in
theorem exitsDead_lifted (os : Os) (started : os.Started) (H : Type) (enc : TypeId × Value → H) :
    ReturnsInHanded {} Try.checked os 3 .any (Rows.exitsDeadSpec.pre6 enc Try.prog Try.f3 Rows.exitsDeadRow.domain false) (Rows.exitsDeadSpec.post enc Try.prog Try.f3 false true false false) := by
  refine lift_law started 3 Try.f3 Rows.exitsDeadSpec (by kernel_rfl) Try.func3 rfl rfl (by decide +kernel) ?_
    (ChangeSpec.witness6 (enc := enc) (C := Try.checked) false ⟨#[], #[.agg #[.int .i64 0, .int .i64 0, .int .i64 0, .int .i64 0, .int .i64 0, .bool false, .string ⟨#[]⟩, .int .i64 0, .int .i64 0, .float .f64 0, .string ⟨#[]⟩, .slice none 0 0]], []⟩ 8 (by kernel_rfl) (by kernel_rfl) (by kernel_rfl) (by kernel_rfl)) ?_
  · intro ds hl
    match ds, hl with
    | [_], _ => rfl
  · intro W base args ds p hval hA _ _
    rw [Try.params3] at hA hval
    obtain ⟨v0, d0, rfl, rfl, h0⟩ := trodAll_one hA
    obtain ⟨fr, tt, kd, id, rf, ln, nm, t, so, cap, rfl, hrow, hok⟩ := arg_sig (hval 0 27 v0 rfl rfl) h0
    obtain ⟨k, n, f, s, L⟩ := t
    exact (exDead_any fr tt kd id rf ln nm so cap W hrow hok).mono (fun e w' h => ⟨h.1, h.2.below⟩)

set_option maxRecDepth 100000 in
theorem exitsDead_holds : Rows.ExitsDeadSaid :=
  OpenClaim.holds_of_wide 3 Try.f3 rfl rfl rfl rfl rfl rfl rfl ⟨rfl, rfl, rfl, rfl, rfl⟩ rfl rfl rfl rfl rfl (by kernel_rfl) Try.func3 (by kernel_rfl)
    (of_decide_eq_true (by kernel_rfl)) (by unfold Func.isWrapper; first | (rw [if_pos (by decide +kernel)]; kernel_rfl) | (rw [if_neg (by decide +kernel)]; exact ⟨rfl, rfl⟩))
    (fun os started H enc _ => exitsDead_lifted os started H enc)

end Go.Proofs.Ytdimmomjildpcaa
