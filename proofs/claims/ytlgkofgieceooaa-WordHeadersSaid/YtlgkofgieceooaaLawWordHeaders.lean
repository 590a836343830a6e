/- WordHeaders: for every kind and every size the program makes the document's header, or error. No conditions. -/
import Derived.Test.YtlgkofgieceooaaLift
import Derived.Test.YtlgkofgieceooaaKnown3
namespace Go.Proofs.Ytlgkofgieceooaa
open Go.ChangeShapes Go.WideShapes Go.ChangeAt Go.RowKit

set_option maxHeartbeats 1000000 in
theorem wordHeaders_any (t b : Int) (w : World) (h0 : -9223372036854775808 ≤ t) (h1 : t ≤ 9223372036854775807) :
    Calls Try.prog 5 #[.int .i64 t, .int .i64 b] w fun e w' => e = .returned (.bool true) ∧ Mod (fun _ => False) w w' := by
  go_enter Try.func5, Try.ntmps5
  go_wp2_with (first
    | (go_at_call 9; refine (known_any _).mono ?_; rintro e w1 ⟨rfl, hM⟩)
    | (go_at_call 20; refine (header_any _ _ _ h0 h1).mono ?_; rintro e w' ⟨rfl, rfl⟩)
    | (go_at_call 21; refine (refHeader_any _ _ _ h0 h1).mono ?_; rintro e w' ⟨rfl, rfl⟩))
  go_ret
  exact ⟨rfl, by assumption⟩

theorem wordHeaders_lifted (os : Os) (started : os.Started) (H : Type) (enc : TypeId × Value → H) :
    ReturnsInHanded {} Try.checked os 5 .any (Rows.wordHeadersSpec.pre6 enc Try.prog Try.f5 Rows.wordHeadersRow.domain false) (Rows.wordHeadersSpec.post enc Try.prog Try.f5 false true false false) := by
  refine lift_law started 5 Try.f5 Rows.wordHeadersSpec (by kernel_rfl) Try.func5 rfl rfl (by decide +kernel) ?_
    (ChangeSpec.witness6 (enc := enc) (C := Try.checked) false ⟨#[], #[.int .i64 0, .int .i64 0], []⟩ 8 (by kernel_rfl) (by kernel_rfl) (by kernel_rfl) (by kernel_rfl)) ?_
  · intro ds hl
    match ds, hl with
    | [_, _], _ => rfl
  · intro W base args ds p hval hA _ _
    rw [Try.params5] at hA hval
    obtain ⟨v0, v1, d0, d1, p0, p1, rfl, rfl, rfl, h0, h1⟩ := trodAll_two hA
    obtain ⟨a, rfl, rfl, rfl, wa⟩ := open_int Try.underlying3 (hval 0 3 v0 rfl rfl) h0
    obtain ⟨b, rfl, rfl, rfl, wb⟩ := open_int Try.underlying3 (hval 1 3 v1 rfl rfl) h1
    refine (wordHeaders_any a b W (range_i64 wa).1 (range_i64 wa).2).mono fun e W' ⟨he, hM⟩ => ⟨he, hM.below (Nat.le_refl _) (fun _ h => h.elim)⟩

theorem wordHeaders_holds : Rows.WordHeadersSaid :=
  OpenClaim.holds_of_wide 5 Try.f5 rfl rfl rfl rfl rfl rfl rfl ⟨rfl, rfl, rfl, rfl, rfl⟩ rfl rfl rfl rfl rfl (by kernel_rfl) Try.func5 (by kernel_rfl)
    (of_decide_eq_true (by kernel_rfl)) (by unfold Func.isWrapper; first | (rw [if_pos (by decide +kernel)]; kernel_rfl) | (rw [if_neg (by decide +kernel)]; exact ⟨rfl, rfl⟩))
    (fun os started H enc _ => wordHeaders_lifted os started H enc)

end Go.Proofs.Ytlgkofgieceooaa
