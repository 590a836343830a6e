/- An act on both. -/
import Derived.Test.YtjgpoggbakanlaaVBothM
import Derived.Deep.RegionHeld3
import Derived.Deep.Cut
import Derived.BigRegion
namespace Go.Proofs.Ytjgpoggbakanlaa
open Go.RowKit
attribute [local irreducible] Ext

/-- What an act does. -/
def stepM (K : List (Int × (Int × Int × ByteArray)) × List (Int × (Int × Int × ByteArray))) (op ref pid : Int) (name : ByteArray) : List (Int × (Int × Int × ByteArray)) × List (Int × (Int × Int × ByteArray)) :=
  if op = 1 then (if pid < 0 then K.1 else putK K.1 (ref, pid, name), K.2)
  else if op = 2 ∨ op = 3 then (del ref K.1, K.2)
  else if op = 4 then (K.1, if pid < 1 then K.2 else putK K.2 (ref, pid, ⟨#[]⟩))
  else if op = 5 then (K.1, del ref K.2)
  else if op = 6 then (K.1, K.2.tail)
  else if op = 7 then (K.1.tail, K.2)
  else K

theorem len_ins (pid : Int) (x : (Int × Int × ByteArray)) (K : List (Int × (Int × Int × ByteArray))) : (ins pid x K).length ≤ K.length + 1 := by
  induction K with
  | nil => simp [ins]
  | cons a K ih =>
    simp only [ins]
    split
    · simp only [List.length_cons]; omega
    · split <;> simp

theorem len_del (pid : Int) (K : List (Int × (Int × Int × ByteArray))) : (del pid K).length ≤ K.length := by
  induction K with
  | nil => simp [del]
  | cons a K ih =>
    simp only [del]
    split
    · simp only [List.length_cons]; omega
    · split <;> simp

theorem len_putK (x : (Int × Int × ByteArray)) (K : List (Int × (Int × Int × ByteArray))) : (putK K x).length ≤ K.length + 1 := by
  unfold putK
  split
  · omega
  · exact len_ins _ _ _

theorem stepM_len (K : List (Int × (Int × Int × ByteArray)) × List (Int × (Int × Int × ByteArray))) (op ref pid : Int) (name : ByteArray) : (stepM K op ref pid name).1.length ≤ K.1.length + 1 ∧ (stepM K op ref pid name).2.length ≤ K.2.length + 1 := by
  have i1 := len_putK (ref, pid, name) K.1
  have i2 := len_putK (ref, pid, ⟨#[]⟩) K.2
  have i3 := len_del ref K.1
  have i4 := len_del ref K.2
  have i5 : K.1.tail.length ≤ K.1.length := by simp
  have i6 : K.2.tail.length ≤ K.2.length := by simp
  unfold stepM
  repeat' split
  all_goals (refine ⟨?_, ?_⟩ <;> (try dsimp only) <;> omega)

/-- Both, an act in its cell, and two cells for what is told. -/
structure Act2 (W w : World) (mb ob gb rb xb ab bb : Nat) (K1 K2 Q1 Q2 : List (Int × (Int × Int × ByteArray))) (op ref pid : Int) (name : ByteArray) (ya yb : (Int × Int × ByteArray)) : Prop where
  two : Two (fun k => k = ab ∨ k = bb) W w mb ob gb rb K1 K2 Q1 Q2
  act : w.heap[xb]? = some (.cells #[.int .i64 op, .int .i64 ref, .int .i64 pid, .string name] 27 (0, 0))
  fa : Box3 w ab ya
  fb : Box3 w bb yb
  apart : ab ≠ bb
  hab : W.heap.size ≤ ab
  hbb : W.heap.size ≤ bb

section
variable {W w : World} {mb ob gb rb xb ab bb : Nat} {K1 K2 Q1 Q2 : List (Int × (Int × Int × ByteArray))} {op ref pid : Int} {name : ByteArray} {ya yb : (Int × Int × ByteArray)}

theorem Act2.lt (h : Act2 W w mb ob gb rb xb ab bb K1 K2 Q1 Q2 op ref pid name ya yb) : ∀ k, (k = ab ∨ k = bb) → k < w.heap.size := by
  rintro k (rfl | rfl)
  · exact h.fa.lt
  · exact h.fb.lt

theorem Act2.cells (h : Act2 W w mb ob gb rb xb ab bb K1 K2 Q1 Q2 op ref pid name ya yb) : w.cell? ⟨xb, 0, none⟩ = some (.int .i64 op) ∧ w.cell? ⟨xb, 1, none⟩ = some (.int .i64 ref) ∧ w.cell? ⟨xb, 2, none⟩ = some (.int .i64 pid) ∧ w.cell? ⟨xb, 3, none⟩ = some (.string name) :=
  ⟨by simp [cell_of_heap h.act], by simp [cell_of_heap h.act], by simp [cell_of_heap h.act], by simp [cell_of_heap h.act]⟩

theorem Act2.ext {w' : World} (h : Act2 W w mb ob gb rb xb ab bb K1 K2 Q1 Q2 op ref pid name ya yb) (hE : Ext w w') : Act2 W w' mb ob gb rb xb ab bb K1 K2 Q1 Q2 op ref pid name ya yb :=
  ⟨h.two.ext hE, hE.keep h.act, hE.keep h.fa, hE.keep h.fb, h.apart, h.hab, h.hbb⟩

theorem Act2.drew (h : Act2 W w mb ob gb rb xb ab bb K1 K2 Q1 Q2 op ref pid name ya yb) : Act2 W w.drew mb ob gb rb xb ab bb K1 K2 Q1 Q2 op ref pid name ya yb := h.ext (Ext.refl w).drew

/-- A contract, with an act by its side. -/
theorem with_act {K1' K2' Q1' Q2' : List (Int × (Int × Int × ByteArray))} {f : Nat} {args : Array Value} {Z : Ending → Prop}
    (h : Act2 W w mb ob gb rb xb ab bb K1 K2 Q1 Q2 op ref pid name ya yb) (hc : Calls Try.prog f args w fun e w' => Z e ∧ Two (fun k => k = ab ∨ k = bb) W w' mb ob gb rb K1' K2' Q1' Q2' ∧ Kept w w') :
    Calls Try.prog f args w fun e w' => Z e ∧ Act2 W w' mb ob gb rb xb ab bb K1' K2' Q1' Q2' op ref pid name ya yb :=
  hc.mono fun _ _ hp => ⟨hp.1, hp.2.1, hp.2.2 _ _ _ h.act (by decide) (by decide), hp.2.2 _ _ _ h.fa (by decide) (by decide), hp.2.2 _ _ _ h.fb (by decide) (by decide), h.apart, h.hab, h.hbb⟩

theorem Two.set3 {X : Nat → Prop} {z : Nat} {y : (Int × Int × ByteArray)} (h : Two X W w mb ob gb rb K1 K2 Q1 Q2) (hz : Box3 w z y) (hX : X z) (hW : W.heap.size ≤ z) (x : (Int × Int × ByteArray)) : Two X W (set3 w z x) mb ob gb rb K1 K2 Q1 Q2 := by
  obtain ⟨v1, v2, L1, L2, h1, h2, h3, h4, h5⟩ := h.rt
  obtain ⟨t, u, m1, m2⟩ := h.mt
  have hM : Mod (fun k => k = z) w (Go.Proofs.Ytjgpoggbakanlaa.set3 w z x) := set3_mod (F := fun k => k = z) (Mod.refl _ w) (.inl rfl) x
  refine ⟨⟨t, u, m1.set3 hz x, m2⟩, ⟨v1, v2, L1, L2, ⟨hM.keep h1.blk (fun e => blk_ne h1.blk hz (by decide) e), h1.r1.keep hM (fun k hk e => ?_), h1.r2.keep hM (fun k hk e => ?_)⟩, h2, h3, h4, h5⟩, h.below.trans (hM.below h.below.size (fun k e => by omega)), h.hob, h.hgb, h.hrb⟩
  · exact (h4 k hk).2 (e ▸ hX)
  · exact (h5 k hk).2 (e ▸ hX)

theorem Act2.setA (h : Act2 W w mb ob gb rb xb ab bb K1 K2 Q1 Q2 op ref pid name ya yb) (x : (Int × Int × ByteArray)) : Act2 W (set3 w ab x) mb ob gb rb xb ab bb K1 K2 Q1 Q2 op ref pid name x yb := by
  have hM : Mod (fun k => k = ab) w (set3 w ab x) := set3_mod (F := fun k => k = ab) (Mod.refl _ w) (.inl rfl) x
  exact ⟨h.two.set3 h.fa (.inl rfl) h.hab x, hM.keep h.act (fun e => blk_ne h.act h.fa (by decide) e), set3_box h.fa x, hM.keep h.fb (Ne.symm h.apart), h.apart, h.hab, h.hbb⟩

theorem Act2.setB (h : Act2 W w mb ob gb rb xb ab bb K1 K2 Q1 Q2 op ref pid name ya yb) (x : (Int × Int × ByteArray)) : Act2 W (set3 w bb x) mb ob gb rb xb ab bb K1 K2 Q1 Q2 op ref pid name ya x := by
  have hM : Mod (fun k => k = bb) w (set3 w bb x) := set3_mod (F := fun k => k = bb) (Mod.refl _ w) (.inl rfl) x
  exact ⟨h.two.set3 h.fb (.inr rfl) h.hbb x, hM.keep h.act (fun e => blk_ne h.act h.fb (by decide) e), hM.keep h.fa h.apart, set3_box h.fb x, h.apart, h.hab, h.hbb⟩
end

/-- As 'step' makes its cells. -/
theorem act_new {W w : World} {mb ob gb rb : Nat} {K1 K2 Q1 Q2 : List (Int × (Int × Int × ByteArray))} (h : Two (fun _ => False) W w mb ob gb rb K1 K2 Q1 Q2) (op ref pid : Int) (name : ByteArray) :
    Act2 W (((w.alloc (.cells #[.int .i64 op, .int .i64 ref, .int .i64 pid, .string name] 27)).alloc (.cells #[.int .i64 0, .int .i64 0, .string ⟨#[]⟩] 31)).alloc (.cells #[.int .i64 0, .int .i64 0, .string ⟨#[]⟩] 31)) mb ob gb rb w.heap.size (w.heap.size + 1) (w.heap.size + 1 + 1) K1 K2 Q1 Q2 op ref pid name (0, 0, ⟨#[]⟩) (0, 0, ⟨#[]⟩) := by
  have hE1 := (Ext.refl w).alloc (.cells #[.int .i64 op, .int .i64 ref, .int .i64 pid, .string name] 27)
  have hE2 := Ext.alloc (Ext.refl ((w.alloc (.cells #[.int .i64 op, .int .i64 ref, .int .i64 pid, .string name] 27)).alloc (.cells #[.int .i64 0, .int .i64 0, .string ⟨#[]⟩] 31))) (.cells #[.int .i64 0, .int .i64 0, .string ⟨#[]⟩] 31)
  have ha := Box3.new (w.alloc (.cells #[.int .i64 op, .int .i64 ref, .int .i64 pid, .string name] 27)) (0, 0, ⟨#[]⟩)
  have hb := Box3.new ((w.alloc (.cells #[.int .i64 op, .int .i64 ref, .int .i64 pid, .string name] 27)).alloc (.cells #[.int .i64 0, .int .i64 0, .string ⟨#[]⟩] 31)) (0, 0, ⟨#[]⟩)
  simp only [World.size_alloc] at ha hb
  have hs := h.below.size
  refine ⟨(h.more (Y := fun k => k = w.heap.size + 1 ∨ k = w.heap.size + 1 + 1) (by rintro k (rfl | rfl) <;> omega)).ext ((hE1.alloc _).alloc _), ?_, hE2.keep ha, hb, by omega, by omega, by omega⟩
  exact ((Ext.refl _).alloc _ |>.alloc _).keep (heap_alloc_new w _)

end Go.Proofs.Ytjgpoggbakanlaa
