/- Numbers: Go's library rounds; any float made whole. -/
import Derived.Test.YtlpifchimnnfdaaDoorNmTrunc
namespace Go.Proofs.YtlpifchimnnfdaaDoor
open Go.RowKit Ieee
attribute [local irreducible] Ext
attribute [local go_sem] run_store_float

/-- A float made whole, be it none: some float. -/
theorem toInt_some (nm : String) (way : Ieee.Toward) (b : Nat) (w : World) : ∃ r w', (Extern.MathFloor.toIntegral nm way #[.float .f64 b]).run Tryd.prog w = .ok (.float .f64 r) w' ∧ Ext w w' := by
  have e : Extern.MathFloor.toIntegral nm way #[.float .f64 b] = Extern.MathFloor.toIntegral nm way #[.float .f64 b] := rfl
  conv at e => lhs; whnf
  rw [← e]
  cases FloatKind.f64.decode b with
  | number s m p => exact ⟨_, w, rfl, Ext.refl w⟩
  | infinity s => exact ⟨_, w, rfl, Ext.refl w⟩
  | nan s t =>
    dsimp only
    split
    · exact ⟨_, w, rfl, Ext.refl w⟩
    · exact ⟨_, w.drew, by simp [choose, Sem.run, Question.forced]; rfl, (Ext.refl w).drew⟩

end Go.Proofs.YtlpifchimnnfdaaDoor
