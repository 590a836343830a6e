/- The table of monitors: PopOrigin. -/
import Derived.Test.YtjgpoggbakanlaaVMonsKnown
namespace Go.Proofs.Ytjgpoggbakanlaa
open Go.RowKit Go.Shelf
attribute [local irreducible] Ext

set_option maxRecDepth 100000 in
set_option maxHeartbeats 1000000 in
theorem popOrigin_any {mb ob gb : Nat} {t u : Tr (Int × Int × ByteArray)} (w : World) (h : MAt w mb ob gb t u) (hm : t.many < 1000000000) :
    Calls Try.prog 32 #[.pointer (some ⟨mb, 0, none⟩)] w fun e w' =>
      e = .returned (.tuple #[.agg #[.int .i64 ((getR t (firstK t.list)).1).1, .int .i64 ((getR t (firstK t.list)).1).2.1, .string ((getR t (firstK t.list)).1).2.2], .bool (getR t (firstK t.list)).2]) ∧ MAt w' mb ob gb (dropped t (firstK t.list)) u ∧ Mod (fun k => k = ob) w w' := by
  have hE0 : Ext w (w.alloc (.cells #[.int .i64 0, .int .i64 0, .string ⟨#[]⟩] 31)) := (Ext.refl w).alloc _
  have hz0 : Box3 (w.alloc (.cells #[.int .i64 0, .int .i64 0, .string ⟨#[]⟩] 31)) w.heap.size (0, 0, ⟨#[]⟩) := heap_alloc_new w _
  have c1 := (h.ext hE0).cell0
  obtain ⟨key, hkey⟩ : ∃ key, firstK t.list = key := ⟨_, rfl⟩
  obtain ⟨gv, hgv⟩ : ∃ gv, getR t key = gv := ⟨_, rfl⟩
  have hE1 := hE0.alloc (.cells #[.pointer (some ⟨ob, 0, none⟩)] 61)
  have hn := heap_alloc_new (w.alloc (.cells #[.int .i64 0, .int .i64 0, .string ⟨#[]⟩] 31)) (.cells #[.pointer (some ⟨ob, 0, none⟩)] 61)
  rw [World.size_alloc] at hn
  have htk := popper1_any _ hn (TreeAt.ext hE1 h.org) hm h.st h.kt
  rw [hkey, hgv] at htk
  rw [hkey, hgv]
  have hob := treeAt_lt h.org
  have HZ := Lib.hid (hz0.alloc (.cells #[.pointer (some ⟨ob, 0, none⟩)] 61))
  have HE1 := Lib.hid hE1
  have H := Lib.hid h
  clear h hE0 hgv hz0 hkey hn hE1
  go_enter Try.func32, Try.ntmps32
  go_wp2_with (go_at_call 25; (with_reducible refine (popper_any _).mono ?_); rintro e w' ⟨rfl, rfl⟩)
  refine htk.mono ?_
  rintro e w2 ⟨rfl, ht3, hM3⟩
  have hz3 : Box3 w2 w.heap.size (0, 0, ⟨#[]⟩) := hM3.keep HZ.out (by omega)
  have hM5 : Mod (fun k => k = ob) w w2 := (mod_of_ext HE1.out).trans hM3 (fun _ _ h => h)
  obtain ⟨q0, q1, q2, r0, r1, r2⟩ := hz3.cells
  obtain ⟨s0, s1, s2, _, _, _⟩ := (set3_box hz3 gv.1).cells
  have hM4 := set3_mod hM5 (.inr (Nat.le_refl _)) gv.1
  have hq := keys_drop H.out.st H.out.kt key
  have HMA := Lib.hid (H.out.modO hM4 (set3_tree hz3 ht3 gv.1) hq.1 hq.2)
  have HM := Lib.hid hM4
  have S0 := Lib.hid s0
  have S1 := Lib.hid s1
  have S2 := Lib.hid s2
  clear ht3 hM3 hM5 hz3 s0 s1 s2 htk hq hM4
  go_wp2_with fail
  have s0 := S0.out
  have s1 := S1.out
  have s2 := S2.out
  have h3 := HMA.out
  have h4 := HM.out
  unfold set3 at s0 s1 s2 h3 h4
  exact bodyPost_ret (v := .tuple #[.agg #[.int .i64 gv.1.1, .int .i64 gv.1.2.1, .string gv.1.2.2], .bool gv.2]) (by simp [results, Try.f32, go_sem, s0, s1, s2]) rfl ⟨rfl, h3, h4⟩

end Go.Proofs.Ytjgpoggbakanlaa
