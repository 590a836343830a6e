/- The cells of a result that is a term are written. -/
import Derived.Test.YtdimmomjildpcaaTmMem
namespace Go.Proofs.Ytdimmomjildpcaa
open Go.RowKit
attribute [local irreducible] Ext

/-- The block of a result's cells is written. -/
theorem RBox.fill {W : World} {B : Nat} {k n : Int} {f : Nat} {s : ByteArray} {so : Option Addr} {m cap : Nat} (h : RBox W B k n f s so m cap) (k' n' : Int) (f' : Nat) (s' : ByteArray) (so' : Option Addr) (m' cap' : Nat) :
    RBox (((((W.setCell ⟨B, 0, none⟩ (.int .i64 k')).setCell ⟨B, 1, none⟩ (.int .i64 n')).setCell ⟨B, 2, none⟩ (.float .f64 f')).setCell ⟨B, 3, none⟩ (.string s')).setCell ⟨B, 4, none⟩ (.slice so' m' cap')) B k' n' f' s' so' m' cap' := by
  unfold RBox at h ⊢
  have h0 := heap_set (o := 0) h (.int .i64 k')
  have h1 := heap_set (o := 1) h0 (.int .i64 n')
  have h2 := heap_set (o := 2) h1 (.float .f64 f')
  have h3 := heap_set (o := 3) h2 (.string s')
  have h4 := heap_set (o := 4) h3 (.slice so' m' cap')
  simpa using h4

theorem RBox.setL {W : World} {B : Nat} {k n : Int} {f : Nat} {s : ByteArray} {so : Option Addr} {m cap : Nat} (h : RBox W B k n f s so m cap) (so' : Option Addr) (m' cap' : Nat) :
    RBox (W.setCell ⟨B, 4, none⟩ (.slice so' m' cap')) B k n f s so' m' cap' := by
  unfold RBox at h ⊢
  simpa using heap_set (o := 4) h (.slice so' m' cap')

/-- The world behind such a store. -/
def set5 (W : World) (B : Nat) (k n : Int) (f : Nat) (s : ByteArray) (so : Option Addr) (m cap : Nat) : World :=
  ((((W.setCell ⟨B, 0, none⟩ (.int .i64 k)).setCell ⟨B, 1, none⟩ (.int .i64 n)).setCell ⟨B, 2, none⟩ (.float .f64 f)).setCell ⟨B, 3, none⟩ (.string s)).setCell ⟨B, 4, none⟩ (.slice so m cap)

theorem set5_mod {F : Nat → Prop} {w W : World} {B : Nat} (h : Mod F w W) (hz : F B ∨ w.heap.size ≤ B) (k n : Int) (f : Nat) (s : ByteArray) (so : Option Addr) (m cap : Nat) : Mod F w (set5 W B k n f s so m cap) :=
  ((((h.setCell (p := ⟨B, 0, none⟩) hz _).setCell (p := ⟨B, 1, none⟩) hz _).setCell (p := ⟨B, 2, none⟩) hz _).setCell (p := ⟨B, 3, none⟩) hz _).setCell (p := ⟨B, 4, none⟩) hz _

theorem ext_set {w W : World} (h : Ext w W) {p : Addr} (hp : w.heap.size ≤ p.block) (v : Value) : Ext w (W.setCell p v) := by
  unfold Ext at h ⊢
  exact h.setCell (.inr hp) v

theorem ext_set5 {w W : World} {B : Nat} (h : Ext w W) (hB : w.heap.size ≤ B) (k n : Int) (f : Nat) (s : ByteArray) (so : Option Addr) (m cap : Nat) : Ext w (set5 W B k n f s so m cap) := by
  unfold Ext at h ⊢
  exact set5_mod h (.inr hB) k n f s so m cap

end Go.Proofs.Ytdimmomjildpcaa
