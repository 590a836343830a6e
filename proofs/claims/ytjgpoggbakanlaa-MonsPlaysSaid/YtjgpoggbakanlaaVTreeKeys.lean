/- What a sequence hands on, of a sorted tree; the tree behind a drop. -/
import Derived.Test.YtjgpoggbakanlaaVTreeLaw
namespace Go.Proofs.Ytjgpoggbakanlaa
open Go.RowKit
attribute [local irreducible] Ext

theorem overL_filter {t : Tr (Int × Int × ByteArray)} (key : Int) (h : t.sorted) : overL key t = t.list.filter (fun x => decide (key ≤ x.1)) := by
  induction t with
  | nil => rfl
  | node l k v r ihl ihr =>
    obtain ⟨h1, h2, h3, h4⟩ := h
    simp only [overL, Tr.list, List.filter_append, List.filter_cons]
    split
    · rename_i hk
      have e : l.list.filter (fun x => decide (key ≤ x.1)) = [] := List.filter_eq_nil_iff.2 (fun x hx => by have := h3 x hx; simp only [decide_eq_true_eq]; omega)
      rw [ihr h2, e]
      simp [show ¬ key ≤ k by omega]
    · rename_i hk
      rw [ihl h1, ihr h2]
      simp [show key ≤ k by omega]

theorem overL_all {t : Tr (Int × Int × ByteArray)} {key : Int} (h : t.sorted) (hk : ∀ x ∈ t.list, key ≤ x.1) : overL key t = t.list := by
  rw [overL_filter key h]
  exact List.filter_eq_self.2 fun x hx => by simpa using hk x hx

theorem Tr.sorted_put {t : Tr (Int × Int × ByteArray)} (h : t.sorted) (key : Int) (x : (Int × Int × ByteArray)) : (Tr.put key x t).sorted := by
  apply Tr.sorted_of_rising
  rw [Tr.list_put h]
  exact rising_ins (Tr.sorted_rising h)

theorem Tr.sorted_drop {t : Tr (Int × Int × ByteArray)} (h : t.sorted) (key : Int) : (t.drop key).sorted := by
  apply Tr.sorted_of_rising
  rw [Tr.list_drop key h]
  exact rising_del (Tr.sorted_rising h)

/-- The tree behind a drop. -/
def dropped (t : Tr (Int × Int × ByteArray)) (key : Int) : Tr (Int × Int × ByteArray) := if (getR t key).2 then t.drop key else t

theorem dropped_list {t : Tr (Int × Int × ByteArray)} (h : t.sorted) (key : Int) : (dropped t key).list = del key t.list := by
  unfold dropped
  split
  · exact Tr.list_drop key h
  · rename_i hn
    have hr := Tr.sorted_rising h
    refine rising_eq hr (rising_del hr) fun y => ?_
    rw [mem_del hr]
    constructor
    · refine fun hy => ⟨hy, fun e => hn ?_⟩
      unfold getR
      rw [Tr.get_look key h, ← e, look_of_mem hr hy]
    · exact fun h => h.1

theorem many_dropped (t : Tr (Int × Int × ByteArray)) (key : Int) : (dropped t key).many ≤ t.many := by
  unfold dropped; split
  · exact Tr.many_drop t key
  · exact Int.le_refl _

theorem prefix_snoc {α : Type} {pre L : List α} {x y : α} (hp : pre <+: L) (hy : L[pre.length]? = some y) : pre ++ [x] <+: L ↔ y = x := by
  obtain ⟨t, rfl⟩ := hp
  rw [List.getElem?_append_right (Nat.le_refl _), Nat.sub_self] at hy
  cases t with
  | nil => simp at hy
  | cons z t =>
    obtain rfl : z = y := by simpa using hy
    constructor
    · rintro ⟨s, hs⟩
      rw [List.append_assoc] at hs
      have := List.append_cancel_left hs
      simp at this
      exact this.1.symm
    · rintro rfl
      exact ⟨t, by simp⟩

end Go.Proofs.Ytjgpoggbakanlaa
