/- What an exit signal does to who traps. -/
import Derived.Test.YtdimmomjildpcaaExEith
namespace Go.Proofs.Ytdimmomjildpcaa
open Go.RowKit
attribute [local irreducible] Ext
attribute [local go_sem] run_store_float

/-- "EXIT" -/
def exitS : ByteArray := ⟨#[69, 88, 73, 84]⟩

/-- Only that block may have turned. -/
def S6 (b : Nat) (w w' : World) : Prop := Mod (fun k => k = b) w w'
theorem S6.refl (b : Nat) (w : World) : S6 b w w := Mod.refl _ w
theorem S6.ext {b : Nat} {w w1 w2 : World} (h : S6 b w w1) (hE : Ext w1 w2) : S6 b w w2 := Mod.trans (F := fun k => k = b) h (mod_of_ext (F := fun k => k = b) hE) (fun _ _ h => h)
theorem S6.drew {b : Nat} {w w1 : World} (h : S6 b w w1) : S6 b w w1.drew := h.ext ((Ext.refl _).drew)
theorem S6.drewN {b : Nat} {w w1 : World} (h : S6 b w w1) (n : Nat) : S6 b w (w1.drewN n) := h.ext ((Ext.refl _).drewN n)
theorem S6.alloc {b : Nat} {w w1 : World} (h : S6 b w w1) (o : Obj) : S6 b w (w1.alloc o) := h.ext ((Ext.refl _).alloc o)
theorem S6.set {b : Nat} {w w1 : World} (h : S6 b w w1) (o : Nat) (v : Value) : S6 b w (w1.setCell ⟨b, o, none⟩ v) := Mod.setCell (F := fun k => k = b) h (p := ⟨b, o, none⟩) (.inl rfl) v
attribute [local irreducible] S6

def ToldPost (w : World) (fr : Int) (e : Ending) (w' : World) : Prop :=
  ∃ (y : Tm) (so3 : Option Addr) (cap3 : Nat), e = .returned (.tuple #[.agg #[.int .i64 1, .int .i64 7, .int .i64 0, .float .f64 0, .string ⟨#[]⟩, .slice so3 3 cap3], .int .i64 0]) ∧ RowIn w' true (fun k => w.heap.size ≤ k) [.mk 3 0 0 exitS [], .mk 6 fr 0 ⟨#[]⟩ [], y] so3 0 ∧ checkT (.mk 7 0 0 ⟨#[]⟩ [.mk 3 0 0 exitS [], .mk 6 fr 0 ⟨#[]⟩ [], y]) = 0 ∧ cntT y ≤ 100000000 - 10 ∧ okT y ∧ Ext w w'

end Go.Proofs.Ytdimmomjildpcaa
