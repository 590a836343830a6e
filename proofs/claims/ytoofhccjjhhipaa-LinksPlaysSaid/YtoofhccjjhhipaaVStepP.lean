/- An act on both. -/
import Derived.Test.YtoofhccjjhhipaaVBoth
import Derived.Deep.RegionHeld3
import Derived.Deep.Cut
import Derived.BigRegion
namespace Go.Proofs.Ytoofhccjjhhipaa
open Go.RowKit
attribute [local irreducible] Ext

/-- What an act does. -/
def stepK (K : List (Int × (Int × Int × Int))) (ids op pid id : Int) : List (Int × (Int × Int × Int)) × Int :=
  if op = 1 then (if (lookR K pid).1.2.1 = 1 then K else ins pid (pid, 1, 0) K, ids)
  else if op = 2 then (if (lookR K pid).1.2.1 = 1 then ins pid (pid, 2, IntKind.i64.wrap (ids + 1)) K else K, if (lookR K pid).1.2.1 = 1 then IntKind.i64.wrap (ids + 1) else ids)
  else if op = 3 then (if (lookR K pid).2 = true then K else ins pid (pid, 1, 0) K, ids)
  else if op = 4 then (if (lookR K pid).1.2.1 = 1 then del pid K else K, ids)
  else if op = 5 then (if (lookR K pid).1.2.1 = 2 ∧ (lookR K pid).1.2.2 = id then del pid K else K, ids)
  else if op = 6 then (if (lookR K pid).1.2.1 = 1 then del pid K else K, ids)
  else if op = 7 then (ins pid (pid, 1, 0) K, ids)
  else if op = 8 then (K.tail, ids)
  else (K, ids)

structure KOk (K : List (Int × (Int × Int × Int))) : Prop where
  rising : Rising K
  states : States K
  pos : ∀ x ∈ K, 1 ≤ x.1

theorem KOk.ins {K : List (Int × (Int × Int × Int))} (h : KOk K) {pid : Int} (hp : 1 ≤ pid) (s n : Int) (hs : s = 1 ∨ s = 2) : KOk (ins pid (pid, s, n) K) := by
  refine ⟨rising_ins h.rising, fun x hx => ?_, fun x hx => ?_⟩
  · rcases (mem_ins h.rising x).1 hx with rfl | hx
    · exact hs
    · exact h.states x hx.1
  · rcases (mem_ins h.rising x).1 hx with rfl | hx
    · exact hp
    · exact h.pos x hx.1

theorem KOk.del {K : List (Int × (Int × Int × Int))} (h : KOk K) (pid : Int) : KOk (del pid K) :=
  ⟨rising_del h.rising, fun x hx => h.states x ((mem_del h.rising x).1 hx).1, fun x hx => h.pos x ((mem_del h.rising x).1 hx).1⟩

theorem KOk.tail {K : List (Int × (Int × Int × Int))} (h : KOk K) : KOk K.tail := by
  cases K with
  | nil => exact h
  | cons x K => exact ⟨(Rising.cons h.rising).2, fun y hy => h.states y (List.mem_cons_of_mem _ hy), fun y hy => h.pos y (List.mem_cons_of_mem _ hy)⟩

theorem len_ins (pid : Int) (x : (Int × Int × Int)) (K : List (Int × (Int × Int × Int))) : (ins pid x K).length ≤ K.length + 1 := by
  induction K with
  | nil => simp [ins]
  | cons a K ih =>
    simp only [ins]
    split
    · simp only [List.length_cons]; omega
    · split <;> simp

theorem len_del (pid : Int) (K : List (Int × (Int × Int × Int))) : (del pid K).length ≤ K.length := by
  induction K with
  | nil => simp [del]
  | cons a K ih =>
    simp only [del]
    split
    · simp only [List.length_cons]; omega
    · split <;> simp

theorem stepK_ok {K : List (Int × (Int × Int × Int))} (h : KOk K) (ids op : Int) {pid : Int} (hp : 1 ≤ pid) (id : Int) : KOk (stepK K ids op pid id).1 ∧ (stepK K ids op pid id).1.length ≤ K.length + 1 := by
  have i1 := len_ins pid (pid, 1, 0) K
  have i2 := len_ins pid (pid, 2, IntKind.i64.wrap (ids + 1)) K
  have i3 := len_del pid K
  unfold stepK
  repeat' split
  all_goals first
    | exact ⟨h, by simp⟩
    | exact ⟨h.ins hp _ _ (.inl rfl), i1⟩
    | exact ⟨h.ins hp _ _ (.inr rfl), i2⟩
    | exact ⟨h.del pid, by dsimp only; omega⟩
    | exact ⟨h.tail, by simp; omega⟩

/-- Both, and an act in its cell. -/
structure Act2 (W w : World) (lb tb rb xb : Nat) (Kt : List (Int × (Int × Int × Int))) (it : Int) (Kr : List (Int × (Int × Int × Int))) (ir : Int) (op pid id : Int) : Prop where
  two : Two W w lb tb rb Kt it Kr ir
  act : w.heap[xb]? = some (.cells #[.int .i64 op, .int .i64 pid, .int .i64 id] 31 (0, 0))

theorem Act2.cells {W w : World} {lb tb rb xb : Nat} {Kt Kr : List (Int × (Int × Int × Int))} {it ir op pid id : Int} (h : Act2 W w lb tb rb xb Kt it Kr ir op pid id) : w.cell? ⟨xb, 0, none⟩ = some (.int .i64 op) ∧ w.cell? ⟨xb, 1, none⟩ = some (.int .i64 pid) ∧ w.cell? ⟨xb, 2, none⟩ = some (.int .i64 id) :=
  ⟨by simp [cell_of_heap h.act], by simp [cell_of_heap h.act], by simp [cell_of_heap h.act]⟩

theorem Act2.drew {W w : World} {lb tb rb xb : Nat} {Kt Kr : List (Int × (Int × Int × Int))} {it ir op pid id : Int} (h : Act2 W w lb tb rb xb Kt it Kr ir op pid id) : Act2 W w.drew lb tb rb xb Kt it Kr ir op pid id := ⟨h.two.ext (Ext.refl w).drew, h.act⟩

/-- A contract, with an act by its side. -/
theorem with_act {W w : World} {lb tb rb xb : Nat} {Kt Kr Kt' Kr' : List (Int × (Int × Int × Int))} {it ir it' ir' op pid id : Int} {f : Nat} {args : Array Value} {Z : Ending → Prop}
    (h : Act2 W w lb tb rb xb Kt it Kr ir op pid id) (hc : Calls Try.prog f args w fun e w' => Z e ∧ Two W w' lb tb rb Kt' it' Kr' ir' ∧ Kept w w') :
    Calls Try.prog f args w fun e w' => Z e ∧ Act2 W w' lb tb rb xb Kt' it' Kr' ir' op pid id :=
  hc.mono fun _ _ hp => ⟨hp.1, hp.2.1, hp.2.2 _ _ _ h.act (by decide) (by decide) (by decide) (by decide)⟩

end Go.Proofs.Ytoofhccjjhhipaa
