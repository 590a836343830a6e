/- Monitors that are the same are told so. -/
import Derived.Test.YtjgpoggbakanlaaRow3
import Derived.Test.YtjgpoggbakanlaaVMonsKnown
import Derived.Deep.LoopGhost
namespace Go.Proofs.Ytjgpoggbakanlaa
open Go.RowKit
attribute [local irreducible] Ext

set_option maxRecDepth 100000 in
set_option maxHeartbeats 2000000 in
theorem same_any {va vb : Value} {L : List (Int × Int × ByteArray)} (w : World) (ha : Row3 w va L) (hb : Row3 w vb L) (hL : L.length ≤ 1000000000) :
    Calls Try.prog 18 #[va, vb] w fun e w' => e = .returned (.bool true) ∧ Ext w w' := by
  obtain ⟨sa, ca, rfl⟩ := own_slice ha
  obtain ⟨sb, cb, rfl⟩ := own_slice hb
  have HA := Lib.hid ha
  have HB := Lib.hid hb
  clear ha hb
  go_enter Try.func18, Try.ntmps18
  go_wp2_with fail
  go_loopg [5] L.length (fun g i wr => Hid (Ext w wr) ∧ ∃ j : Nat, j + g = L.length ∧ i = .int .i64 j)
  case atStart => exact ⟨Lib.hid (Ext.refl w), 0, by omega, rfl⟩
  case round =>
    obtain ⟨HE, j, hj, rfl⟩ := hrel
    by_cases hlt : j < L.length
    · obtain ⟨x, hx⟩ : ∃ x, L[j]? = some x := ⟨L[j]'hlt, List.getElem?_eq_getElem hlt⟩
      have hea := HA.out.keep (F := fun _ => False) (by have := HE.out; unfold Ext at this; exact this) (fun _ _ h => h)
      have heb := HB.out.keep (F := fun _ => False) (by have := HE.out; unfold Ext at this; exact this) (fun _ _ h => h)
      obtain ⟨g1, cap1, he1, hc1, p0, p1, p2⟩ := hea.at_ hx
      obtain ⟨g2, cap2, he2, hc2, q0, q1, q2⟩ := heb.at_ hx
      injection he1 with e1 _ e3
      injection he2 with f1 _ f3
      subst e1 f1
      have hb0 : decide ((j : Int) < (L.length : Int)) = true := decide_eq_true (by omega)
      have hb1 : decide (j < L.length) = true := decide_eq_true hlt
      have e1 : IntKind.i64.wrap ((j : Int) + 1) = ((j + 1 : Nat) : Int) := by rw [IntWalk.i64_in _ (by omega)]; rfl
      clear hea heb hx e3 f3
      go_wp2_with fail
      go_quiet (fail)
      have HE2 := Lib.hid (HE.out.drewN nq)
      go_wp2_with fail
      go_roundg (L.length - j - 1)
      case measure => omega
      case rel => exact ⟨HE2, j + 1, by omega, rfl⟩
    · have hb0 : decide ((j : Int) < (L.length : Int)) = false := decide_eq_false (by omega)
      have hb1 : decide (j < L.length) = false := decide_eq_false hlt
      go_wp2_with fail
      go_ret
      exact ⟨rfl, HE.out⟩

end Go.Proofs.Ytjgpoggbakanlaa
