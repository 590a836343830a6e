/- The table of monitors: Origins, Targets. -/
import Derived.Test.YtjgpoggbakanlaaVAllM
import Derived.Test.YtjgpoggbakanlaaVMons2
namespace Go.Proofs.Ytjgpoggbakanlaa
open Go.RowKit Go.Shelf
attribute [local irreducible] Ext

set_option maxRecDepth 100000 in
theorem origins_any {mb ob gb : Nat} {t u : Tr (Int × Int × ByteArray)} (w : World) (h : MAt w mb ob gb t u) (hm : t.list.length ≤ 1000000) :
    Calls Try.prog 16 #[.pointer (some ⟨mb, 0, none⟩)] w fun e w' => ∃ v, e = .returned v ∧ Row3 w' v (t.list.map Prod.snd) ∧ Ext w w' ∧ ∀ k, v.ownBlock = some k → w.heap.size ≤ k := by
  have c0 := h.cell0
  have hall := mall_any w h.org h.st hm h.kt
  clear h
  go_enter Try.func16, Try.ntmps16
  go_wp2_with fail
  refine hall.mono ?_
  rintro e w' ⟨v, rfl, hr, hE, hk⟩
  have HR := Lib.hid (And.intro hr (And.intro hE hk))
  clear hr hE hk hall
  go_wp2_with fail
  go_ret
  exact ⟨v, rfl, HR.out.1, HR.out.2.1, HR.out.2.2⟩

set_option maxRecDepth 100000 in
theorem targets_any {mb ob gb : Nat} {t u : Tr (Int × Int × ByteArray)} (w : World) (h : MAt w mb ob gb t u) (hm : u.list.length ≤ 1000000) :
    Calls Try.prog 17 #[.pointer (some ⟨mb, 0, none⟩)] w fun e w' => ∃ v, e = .returned v ∧ Row3 w' v (u.list.map Prod.snd) ∧ Ext w w' ∧ ∀ k, v.ownBlock = some k → w.heap.size ≤ k := by
  have c1 := h.cell1
  have hall := mall_any w h.tgt h.su hm h.ku
  clear h
  go_enter Try.func17, Try.ntmps17
  go_wp2_with fail
  refine hall.mono ?_
  rintro e w' ⟨v, rfl, hr, hE, hk⟩
  have HR := Lib.hid (And.intro hr (And.intro hE hk))
  clear hr hE hk hall
  go_wp2_with fail
  go_ret
  exact ⟨v, rfl, HR.out.1, HR.out.2.1, HR.out.2.2⟩

end Go.Proofs.Ytjgpoggbakanlaa
