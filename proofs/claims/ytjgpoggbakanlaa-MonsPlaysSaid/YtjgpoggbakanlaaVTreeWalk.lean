/- Walks of the tree's nodes: heights, numbers, 'with', 'even'. -/
import Derived.Test.YtjgpoggbakanlaaVTreeMem
namespace Go.Proofs.Ytjgpoggbakanlaa
open Go.RowKit
attribute [local irreducible] Ext

theorem max_ints (ats : Array TypeId) (ty : TypeId) (k k' : IntKind) (x y : Int) : Builtin.max_ ats ty #[.int k x, .int k' y] = pure (.int k (max x y)) := by
  have e : (if x < y then y else x) = max x y := by
    rw [Int.max_def]
    split <;> split <;> omega
  simp only [Builtin.max_, List.foldlM_cons, List.foldlM_nil, Builtin.max2, gt_iff_lt, e]
  rfl
attribute [local go_sem] max_ints

/-- How large a tree may be for its numbers not to wrap. -/
def bound : Int := 1000000000

theorem node_cells {w : World} {b : Nat} {k : Int} {v : (Int × Int × ByteArray)} {pl pr : Option Addr} {h n : Int} (hb : w.heap[b]? = some (.cells (nodeCells k v pl pr h n) 104 (0, 0))) :
    ∀ w', Ext w w' → w'.cell? ⟨b, 0, none⟩ = some (.int .i64 k) ∧ (w'.cell? ⟨b, 1, none⟩ = some (.int .i64 v.1) ∧ w'.cell? ⟨b, 2, none⟩ = some (.int .i64 v.2.1) ∧ w'.cell? ⟨b, 3, none⟩ = some (.string v.2.2)) ∧ w'.cell? ⟨b, 4, none⟩ = some (.pointer pl) ∧ w'.cell? ⟨b, 5, none⟩ = some (.pointer pr) ∧
      w'.cell? ⟨b, 6, none⟩ = some (.int .i64 h) ∧ w'.cell? ⟨b, 7, none⟩ = some (.int .i64 n) := by
  intro w' hE
  have hb' := hE.keep hb
  simp [cell_of_heap hb', nodeCells]

set_option maxHeartbeats 400000 in
theorem high_any (t : Tr (Int × Int × ByteArray)) (p : Option Addr) (w : World) (ht : IsTree w p t) :
    Calls Try.prog 70 #[.pointer p] w fun e w' => e = .returned (.int .i64 t.high) ∧ w = w' := by
  cases t with
  | nil =>
    obtain rfl : p = none := ht
    go_enter Try.func70, Try.ntmps70
    go_wp2_with fail
    go_ret
    exact ⟨rfl, rfl⟩
  | node l k v r =>
    obtain ⟨b, pl, pr, rfl, hb, _, _⟩ := ht
    obtain ⟨_, _, _, _, c4, _⟩ := node_cells hb w (Ext.refl w)
    go_enter Try.func70, Try.ntmps70
    go_wp2_with fail
    go_ret
    exact ⟨rfl, rfl⟩

set_option maxHeartbeats 400000 in
theorem many_any (t : Tr (Int × Int × ByteArray)) (p : Option Addr) (w : World) (ht : IsTree w p t) :
    Calls Try.prog 43 #[.pointer p] w fun e w' => e = .returned (.int .i64 t.many) ∧ w = w' := by
  cases t with
  | nil =>
    obtain rfl : p = none := ht
    go_enter Try.func43, Try.ntmps43
    go_wp2_with fail
    go_ret
    exact ⟨rfl, rfl⟩
  | node l k v r =>
    obtain ⟨b, pl, pr, rfl, hb, _, _⟩ := ht
    obtain ⟨_, _, _, _, _, c5⟩ := node_cells hb w (Ext.refl w)
    go_enter Try.func43, Try.ntmps43
    go_wp2_with fail
    go_ret
    exact ⟨rfl, rfl⟩

/-- What a maker of a tree leaves: a new world with the tree in it. -/
def Makes (t : Tr (Int × Int × ByteArray)) (w : World) (e : Ending) (w' : World) : Prop := ∃ p, e = .returned (.pointer p) ∧ IsTree w' p t ∧ Ext w w'

set_option maxHeartbeats 2000000 in
theorem with_any (k : Int) (v : (Int × Int × ByteArray)) (n0 : Nat) (pl0 pr0 : Option Addr) (h0 m0 : Int) (l r : Tr (Int × Int × ByteArray)) (pl pr : Option Addr) (w : World)
    (hn : w.heap[n0]? = some (.cells (nodeCells k v pl0 pr0 h0 m0) 104 (0, 0))) (hl : IsTree w pl l) (hr : IsTree w pr r) (hb : l.many + r.many ≤ 1000000000) :
    Calls Try.prog 64 #[.pointer (some ⟨n0, 0, none⟩), .pointer pl, .pointer pr] w (Makes (.node l k v r) w) := by
  have hc := node_cells hn
  have hc0 := fun w' h => (hc w' h).1
  have hc1 := fun w' h => (hc w' h).2.1.1
  have hd1 := fun w' h => (hc w' h).2.1.2.1
  have he1 := fun w' h => (hc w' h).2.1.2.2
  have hh1 := l.high_nonneg
  have hh2 := r.high_nonneg
  have hh3 := l.high_le_many
  have hh4 := r.high_le_many
  have hE := Ext.refl w
  have hhl : ∀ w', Ext w w' → Calls Try.prog 70 #[.pointer pl] w' fun e w'' => e = .returned (.int .i64 l.high) ∧ w' = w'' := fun w' h => high_any l pl w' (hl.ext h)
  have hhr : ∀ w', Ext w w' → Calls Try.prog 70 #[.pointer pr] w' fun e w'' => e = .returned (.int .i64 r.high) ∧ w' = w'' := fun w' h => high_any r pr w' (hr.ext h)
  have hml : ∀ w', Ext w w' → Calls Try.prog 43 #[.pointer pl] w' fun e w'' => e = .returned (.int .i64 l.many) ∧ w' = w'' := fun w' h => many_any l pl w' (hl.ext h)
  have hmr : ∀ w', Ext w w' → Calls Try.prog 43 #[.pointer pr] w' fun e w'' => e = .returned (.int .i64 r.many) ∧ w' = w'' := fun w' h => many_any r pr w' (hr.ext h)
  have e1 : IntKind.i64.wrap (1 + max l.high r.high) = 1 + max l.high r.high := IntWalk.i64_in _ (by omega)
  have e2 : IntKind.i64.wrap (1 + l.many) = 1 + l.many := IntWalk.i64_in _ (by omega)
  have e3 : IntKind.i64.wrap (1 + l.many + r.many) = 1 + l.many + r.many := IntWalk.i64_in _ (by omega)
  have HH := Lib.hid (And.intro hl hr)
  clear hl hr hn hc
  go_enter Try.func64, Try.ntmps64
  go_wp2_with fail
  go_region_held3 (fun w' => Ext w w') (first | assumption | (repeat (first | assumption | apply Ext.drew | apply Ext.alloc)))
    (first
      | (go_at_call 70; (with_reducible refine (hhl _ ?_).mono ?_); assumption; rintro e w' ⟨rfl, rfl⟩)
      | (go_at_call 70; (with_reducible refine (hhr _ ?_).mono ?_); assumption; rintro e w' ⟨rfl, rfl⟩)
      | (go_at_call 43; (with_reducible refine (hml _ ?_).mono ?_); assumption; rintro e w' ⟨rfl, rfl⟩)
      | (go_at_call 43; (with_reducible refine (hmr _ ?_).mono ?_); assumption; rintro e w' ⟨rfl, rfl⟩))
  all_goals
    go_wp2_with fail
    go_ret
    have hE' : Ext w (w.alloc (.cells (nodeCells k v pl pr (Tr.node l k v r).high (Tr.node l k v r).many) 104)).drew := by assumption
    exact ⟨_, rfl, ⟨w.heap.size, pl, pr, rfl, heap_alloc_new w _, HH.out.1.ext hE', HH.out.2.ext hE'⟩, hE'⟩

end Go.Proofs.Ytjgpoggbakanlaa
