/- The document's halves of monitors: find. -/
import Derived.Test.YtjgpoggbakanlaaRow3
import Derived.Test.YtjgpoggbakanlaaVMonsKnown
import Derived.Outline
namespace Go.Proofs.Ytjgpoggbakanlaa
open Go.RowKit
attribute [local irreducible] Ext

/-- The halves by their keys. -/
def KL (L : List (Int × Int × ByteArray)) : List (Int × (Int × Int × ByteArray)) := L.map fun h => (h.1, h)

theorem KL_at {L : List (Int × Int × ByteArray)} {i : Nat} {x : (Int × Int × ByteArray)} (h : L[i]? = some x) : (KL L)[i]? = some (x.1, x) := by simp [KL, h]
theorem KL_length (L : List (Int × Int × ByteArray)) : (KL L).length = L.length := by simp [KL]
theorem KL_of {L : List (Int × Int × ByteArray)} {i : Nat} {y : Int × (Int × Int × ByteArray)} (h : (KL L)[i]? = some y) : L[i]? = some y.2 ∧ y.1 = y.2.1 := by
  unfold KL at h
  rw [List.getElem?_map] at h
  cases hx : L[i]? with
  | none => simp [hx] at h
  | some x =>
    simp [hx] at h
    subst h
    exact ⟨rfl, rfl⟩

set_option maxHeartbeats 2000000 in
theorem find15_any {v : Value} {L : List (Int × Int × ByteArray)} (key : Int) (w : World) (h : Row3 w v L) (hL : L.length ≤ 1000000000) :
    Calls Try.prog 44 #[v, .int .i64 key] w fun e w' => e = .returned (.tuple #[.int .i64 (place key (KL L)), .bool (there key (KL L))]) ∧ Ext w w' := by
  obtain ⟨so, sc, rfl⟩ := own_slice h
  have HR := Lib.hid h
  have hKL := KL_length L
  have HKL := Lib.hid hKL
  clear h hKL
  go_enter Try.func44, Try.ntmps44
  go_wp2_with fail
  go_loopg [6] L.length (fun g i wr => w = wr ∧ ∃ j : Nat, j + g = L.length ∧ i = .int .i64 j ∧ Hid (∀ q, q < j → ∀ a, (KL L)[q]? = some a → a.1 < key))
  case atStart => exact ⟨rfl, 0, by omega, rfl, Lib.hid (fun q hq => by omega)⟩
  case round =>
    obtain ⟨rfl, j, hj, rfl, hbel⟩ := hrel
    by_cases hlt : j < L.length
    · obtain ⟨x, hx⟩ : ∃ x, L[j]? = some x := ⟨L[j]'hlt, List.getElem?_eq_getElem hlt⟩
      obtain ⟨g, cap, he, hnc, hc0, hc1, hc2⟩ := HR.out.at_ hx
      injection he with he1 he2 he3
      subst he1
      subst he3
      have HX := Lib.hid (KL_at hx)
      have hc0' : w.cell? ⟨g, 0 + j * 3, none⟩ = some (.int .i64 x.1) := by rw [Nat.zero_add]; exact hc0
      clear hx
      have hb0 : decide ((j : Int) < (L.length : Int)) = true := decide_eq_true (by omega)
      by_cases hk : x.1 < key
      · have e1 : IntKind.i64.wrap ((j : Int) + 1) = ((j + 1 : Nat) : Int) := by rw [IntWalk.i64_in _ (by omega)]; rfl
        go_wp2_with fail
        go_roundg (L.length - j - 1)
        case measure => omega
        case rel =>
          refine ⟨rfl, j + 1, by omega, rfl, Lib.hid (fun q hq a ha => ?_)⟩
          rcases Nat.lt_succ_iff_lt_or_eq.1 hq with hq | rfl
          · exact hbel.out q hq a ha
          · rw [HX.out] at ha
            rw [← Option.some.inj ha]
            exact hk
      · have hp : place key (KL L) = j := place_of hbel.out (.inr ⟨_, HX.out, hk⟩)
        have ht : there key (KL L) = (x.1 == key) := by
          unfold there
          rw [hp, HX.out]
          show decide (x.1 = key) = _
          rw [Bool.eq_iff_iff]
          simp
        have HP := Lib.hid (And.intro hp ht)
        clear hp ht hbel
        go_wp2_with fail
        go_quiet (fail)
        go_wp2
        go_ret2
        exact ⟨by rw [HP.out.1, HP.out.2]; rfl, (Ext.refl w).drewN nq⟩
    · obtain rfl : j = L.length := by omega
      have hp : place key (KL L) = L.length := place_of hbel.out (.inl HKL.out.symm)
      have ht : there key (KL L) = false := by
        unfold there
        rw [hp]
        simp [KL]
      have HP := Lib.hid (And.intro hp ht)
      clear hp ht hbel hlt
      go_wp2_with fail
      go_quiet (fail)
      go_wp2
      go_ret2
      exact ⟨by rw [HP.out.1, HP.out.2]; rfl, (Ext.refl w).drewN nq⟩

end Go.Proofs.Ytjgpoggbakanlaa
