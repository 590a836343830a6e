/- ExitsOnce: a signal is answered once at most: what the dead answer may be put, goes back, and is not answered by the dead again: every signal. No conditions. -/
import Derived.Test.YtdimmomjildpcaaExOnceW
import Derived.Test.YtdimmomjildpcaaArgSig
namespace Go.Proofs.Ytdimmomjildpcaa
open Go.ChangeShapes Go.WideShapes Go.ChangeAt Go.RowKit

set_option maxRecDepth 100000 in
theorem exitsOnce_lifted (os : Os) (started : os.Started) (H : Type) (enc : TypeId × Value → H) :
    ReturnsInHanded {} Try.checked os 4 .any (Rows.exitsOnceSpec.pre6 enc Try.prog Try.f4 Rows.exitsOnceRow.domain false) (Rows.exitsOnceSpec.post enc Try.prog Try.f4 false true false false) := by
  refine lift_law started 4 Try.f4 Rows.exitsOnceSpec (by kernel_rfl) Try.func4 rfl rfl (by decide +kernel) ?_
    (ChangeSpec.witness6 (enc := enc) (C := Try.checked) false ⟨#[], #[.agg #[.int .i64 0, .int .i64 0, .int .i64 0, .int .i64 0, .int .i64 0, .bool false, .string ⟨#[]⟩, .int .i64 0, .int .i64 0, .float .f64 0, .string ⟨#[]⟩, .slice none 0 0]], []⟩ 8 (by kernel_rfl) (by kernel_rfl) (by kernel_rfl) (by kernel_rfl)) ?_
  · intro ds hl
    match ds, hl with
    | [_], _ => rfl
  · intro W base args ds p hval hA _ _
    rw [Try.params4] at hA hval
    obtain ⟨v0, d0, rfl, rfl, h0⟩ := trodAll_one hA
    obtain ⟨fr, tt, kd, id, rf, ln, nm, t, so, cap, rfl, hrow, hok⟩ := arg_sig (hval 0 27 v0 rfl rfl) h0
    obtain ⟨k, n, f, s, L⟩ := t
    exact (exOnce_any fr tt kd id rf ln nm so cap W hrow hok).mono (fun e w' h => ⟨h.1, h.2.below⟩)

set_option maxRecDepth 100000 in
theorem exitsOnce_holds : Rows.ExitsOnceSaid :=
  OpenClaim.holds_of_wide 4 Try.f4 rfl rfl rfl rfl rfl rfl rfl ⟨rfl, rfl, rfl, rfl, rfl⟩ rfl rfl rfl rfl rfl (by kernel_rfl) Try.func4 (by kernel_rfl)
    (of_decide_eq_true (by kernel_rfl)) (by unfold Func.isWrapper; first | (rw [if_pos (by decide +kernel)]; kernel_rfl) | (rw [if_neg (by decide +kernel)]; exact ⟨rfl, rfl⟩))
    (fun os started H enc _ => exitsOnce_lifted os started H enc)

end Go.Proofs.Ytdimmomjildpcaa
