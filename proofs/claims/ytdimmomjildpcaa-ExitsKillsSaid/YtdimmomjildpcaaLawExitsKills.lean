/- ExitsKills: kill ends outright; normal ends none but who sent it to itself; who traps is told: every sender, every receiver, every reason, linked or not. No conditions. -/
import Derived.Test.YtdimmomjildpcaaExKillsW
import Derived.Test.YtdimmomjildpcaaArgSig
import Derived.Carry
namespace Go.Proofs.Ytdimmomjildpcaa
open Go.ChangeShapes Go.WideShapes Go.ChangeAt Go.RowKit

set_option maxRecDepth 100000 in
theorem exitsKills_lifted (os : Os) (started : os.Started) (H : Type) (enc : TypeId × Value → H) :
    ReturnsInHanded {} Try.checked os 5 .any (Rows.exitsKillsSpec.pre6 enc Try.prog Try.f5 Rows.exitsKillsRow.domain false) (Rows.exitsKillsSpec.post enc Try.prog Try.f5 false true false false) := by
  refine lift_law started 5 Try.f5 Rows.exitsKillsSpec (by kernel_rfl) Try.func5 rfl rfl (by decide +kernel) ?_
    (ChangeSpec.witness6 (enc := enc) (C := Try.checked) false ⟨#[], #[.int .i64 0, .int .i64 0, .agg #[.int .i64 0, .int .i64 0, .float .f64 0, .string ⟨#[]⟩, .slice none 0 0], .bool false], []⟩ 8 (by kernel_rfl) (by kernel_rfl) (by kernel_rfl) (by kernel_rfl)) ?_
  · intro ds hl
    match ds, hl with
    | [_, _, _, _], _ => rfl
  · intro W base args ds p hval hA _ _
    rw [Try.params5] at hA hval
    obtain ⟨v0, v1, v2, v3, d0, d1, d2, d3, p0, p1, p2, p3, rfl, rfl, rfl, h0, h1, h2, h3⟩ := trodAll_four hA
    obtain ⟨fr, rfl, rfl, rfl, _⟩ := open_int Try.underlying3 (hval 0 3 v0 rfl rfl) h0
    obtain ⟨tt, rfl, rfl, rfl, _⟩ := open_int Try.underlying3 (hval 1 3 v1 rfl rfl) h1
    obtain ⟨t, so, cap, rfl, hrow, hok⟩ := arg_tm (hval 2 25 v2 rfl rfl) h2
    obtain ⟨ln, rfl, rfl, rfl⟩ := open_bool Try.underlying4 (hval 3 4 v3 rfl rfl) h3
    obtain ⟨k, n, f, s, L⟩ := t
    exact (exKills_any fr tt ln so cap W hrow hok).mono (fun e w' h => ⟨h.1, h.2.below⟩)

set_option maxRecDepth 100000 in
theorem exitsKills_holds : Rows.ExitsKillsSaid :=
  OpenClaim.holds_of_wide 5 Try.f5 rfl rfl rfl rfl rfl rfl rfl ⟨rfl, rfl, rfl, rfl, rfl⟩ rfl rfl rfl rfl rfl (by kernel_rfl) Try.func5 (by kernel_rfl)
    (of_decide_eq_true (by kernel_rfl)) (by unfold Func.isWrapper; first | (rw [if_pos (by decide +kernel)]; kernel_rfl) | (rw [if_neg (by decide +kernel)]; exact ⟨rfl, rfl⟩))
    (fun os started H enc _ => exitsKills_lifted os started H enc)

end Go.Proofs.Ytdimmomjildpcaa
