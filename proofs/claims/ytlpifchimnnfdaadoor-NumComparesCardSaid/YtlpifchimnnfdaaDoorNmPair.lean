/- Numbers' laws: two boxes of the law's own, written again and again. -/
import Derived.Test.YtlpifchimnnfdaaDoorNmKnown
namespace Go.Proofs.YtlpifchimnnfdaaDoor
open Go.RowKit
attribute [local irreducible] Ext

theorem RBox.keep5 {W : World} {B b : Nat} {k n : Int} {f : Nat} {s : ByteArray} {so : Option Addr} {m cap : Nat} (h : RBox W B k n f s so m cap) (hne : B ≠ b) (k' n' : Int) (f' : Nat) (s' : ByteArray) (so' : Option Addr) (m' cap' : Nat) : RBox (set5 W b k' n' f' s' so' m' cap') B k n f s so m cap := by
  unfold RBox at h ⊢
  exact (set5_mod (F := fun q => q = b) (Mod.refl _ W) (.inl rfl) k' n' f' s' so' m' cap').keep h hne

/-- Two boxes that a law has made since world w. -/
structure Pair (w W : World) (b c : Nat) (k n : Int) (f : Nat) (k' n' : Int) (f' : Nat) : Prop where
  ext : Ext w W
  fa : RBox W b k n f ⟨#[]⟩ none 0 0
  fb : RBox W c k' n' f' ⟨#[]⟩ none 0 0
  ne : b ≠ c
  lb : w.heap.size ≤ b
  lc : w.heap.size ≤ c

section
variable {w W W' : World} {b c : Nat} {k n : Int} {f : Nat} {k' n' : Int} {f' : Nat}

theorem Pair.next (h : Pair w W b c k n f k' n' f') (hE : Ext W W') : Pair w W' b c k n f k' n' f' :=
  ⟨h.ext.trans hE, h.fa.ext hE, h.fb.ext hE, h.ne, h.lb, h.lc⟩

theorem Pair.setA (h : Pair w W b c k n f k' n' f') (k1 n1 : Int) (f1 : Nat) : Pair w (set5 W b k1 n1 f1 ⟨#[]⟩ none 0 0) b c k1 n1 f1 k' n' f' :=
  ⟨ext_set5 h.ext h.lb k1 n1 f1 ⟨#[]⟩ none 0 0, h.fa.fill k1 n1 f1 ⟨#[]⟩ none 0 0, h.fb.keep5 (Ne.symm h.ne) k1 n1 f1 ⟨#[]⟩ none 0 0, h.ne, h.lb, h.lc⟩

theorem Pair.setB (h : Pair w W b c k n f k' n' f') (k1 n1 : Int) (f1 : Nat) : Pair w (set5 W c k1 n1 f1 ⟨#[]⟩ none 0 0) b c k n f k1 n1 f1 :=
  ⟨ext_set5 h.ext h.lc k1 n1 f1 ⟨#[]⟩ none 0 0, h.fa.keep5 h.ne k1 n1 f1 ⟨#[]⟩ none 0 0, h.fb.fill k1 n1 f1 ⟨#[]⟩ none 0 0, h.ne, h.lb, h.lc⟩



/-- The first box is made, then the second. -/
theorem pair_new {w1 w3 : World} (h : Ext w W) (hE : Ext (W.alloc (.cells #[.int .i64 k, .int .i64 n, .float .f64 f, .string ⟨#[]⟩, .slice none 0 0] 27)) w1) (hw : w1.alloc (.cells #[.int .i64 k', .int .i64 n', .float .f64 f', .string ⟨#[]⟩, .slice none 0 0] 27) = w3) : Pair w w3 W.heap.size w1.heap.size k n f k' n' f' := by
  subst hw
  have hs := h.size
  have hs1 := hE.size
  have e : (W.alloc (.cells #[.int .i64 k, .int .i64 n, .float .f64 f, .string ⟨#[]⟩, .slice none 0 0] 27)).heap.size = W.heap.size + 1 := by simp
  rw [e] at hs1
  exact ⟨((h.alloc _).trans hE).alloc _, ((RBox.new W k n f ⟨#[]⟩ none 0 0).ext hE).ext ((Ext.refl _).alloc _), RBox.new w1 k' n' f' ⟨#[]⟩ none 0 0, by omega, hs, by omega⟩
end

end Go.Proofs.YtlpifchimnnfdaaDoor
