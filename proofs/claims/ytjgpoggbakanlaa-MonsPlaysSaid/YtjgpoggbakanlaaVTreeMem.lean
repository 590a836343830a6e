/- A tree as it lies in memory; the world behind a call that makes new blocks alone. -/
import Derived.Test.YtjgpoggbakanlaaTreePlain
import Derived.Lib.Hide
import Derived.Deep.QuietTactic
import Derived.BigQuiet
import Derived.Deep.RegionHeld3
namespace Go.Proofs.Ytjgpoggbakanlaa
open Go.RowKit

/-- Nothing that was there has turned. -/
def Ext (w w' : World) : Prop := Mod (fun _ => False) w w'

theorem Ext.refl (w : World) : Ext w w := Mod.refl _ w
theorem Ext.trans {a b c : World} (h : Ext a b) (k : Ext b c) : Ext a c := Mod.trans h k (fun _ _ h => h)
theorem Ext.drew {a b : World} (h : Ext a b) : Ext a b.drew := Mod.drew h
theorem Ext.drewN {a b : World} (h : Ext a b) (n : Nat) : Ext a (b.drewN n) := Mod.drewN h n
theorem Ext.alloc {a b : World} (h : Ext a b) (o : Obj) : Ext a (b.alloc o) := Mod.alloc h o
theorem Ext.keep {a b : World} (h : Ext a b) {k : Nat} {o : Obj} (ho : a.heap[k]? = some o) : b.heap[k]? = some o := Mod.keep h ho (fun h => h)
theorem Ext.below {a b : World} (h : Ext a b) : Below a.heap.size a b := Mod.below h (Nat.le_refl _) (fun _ h => h.elim)
theorem Ext.cell {a b : World} (h : Ext a b) {p : Addr} {v : Value} (hc : a.cell? p = some v) : b.cell? p = some v := by
  have hl := World.block_lt_of_cell? a p hc
  rw [World.cell?_of_block (w := a) (h.block p.block hl (fun h => h))]
  exact hc

/-- The node's own cells. -/
def nodeCells (k : Int) (v : (Int × Int × ByteArray)) (pl pr : Option Addr) (h n : Int) : Array Value := #[.int .i64 k, .int .i64 v.1, .int .i64 v.2.1, .string v.2.2, .pointer pl, .pointer pr, .int .i64 h, .int .i64 n]

/-- The pointer p is the tree t. -/
def IsTree (w : World) : Option Addr → Tr (Int × Int × ByteArray) → Prop
  | p, .nil => p = none
  | p, .node l k v r => ∃ b pl pr, p = some ⟨b, 0, none⟩ ∧ w.heap[b]? = some (.cells (nodeCells k v pl pr (Tr.node l k v r).high (Tr.node l k v r).many) 104 (0, 0)) ∧ IsTree w pl l ∧ IsTree w pr r

/-- A tree stays one while no node is written. -/
theorem IsTree.keep {F : Nat → Prop} {w w' : World} (hM : Mod F w w') (hF : ∀ k cs fr, F k → w.heap[k]? ≠ some (.cells cs 104 fr)) :
    ∀ {t : Tr (Int × Int × ByteArray)} {p : Option Addr}, IsTree w p t → IsTree w' p t
  | .nil, _, h => h
  | .node _ _ _ _, _, ⟨b, pl, pr, e, hb, hl, hr⟩ =>
    ⟨b, pl, pr, e, hM.keep hb (fun hf => hF b _ _ hf hb), IsTree.keep hM hF hl, IsTree.keep hM hF hr⟩

theorem IsTree.ext {w w' : World} (hM : Ext w w') {t : Tr (Int × Int × ByteArray)} {p : Option Addr} (h : IsTree w p t) : IsTree w' p t :=
  IsTree.keep hM (fun _ _ _ hf => hf.elim) h

theorem IsTree.drewN {w : World} {t : Tr (Int × Int × ByteArray)} {p : Option Addr} (h : IsTree w p t) (n : Nat) : IsTree (w.drewN n) p t := h.ext ((Ext.refl w).drewN n)

end Go.Proofs.Ytjgpoggbakanlaa
