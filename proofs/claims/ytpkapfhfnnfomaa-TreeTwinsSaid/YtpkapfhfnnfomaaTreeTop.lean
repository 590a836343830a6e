/- The walks of the tree's own methods: New, Get, Put, Drop, Len, Height, Twin. -/
import Derived.Test.YtpkapfhfnnfomaaTreePut
namespace Go.Proofs.Ytpkapfhfnnfomaa
open Go.RowKit
attribute [local irreducible] Ext

/-- Block b is a tree whose root is t. -/
def TreeAt (w : World) (b : Nat) (t : Tr Int) : Prop := ∃ p, w.heap[b]? = some (.cells #[.pointer p] 50 (0, 0)) ∧ IsTree w p t

theorem TreeAt.keep {F : Nat → Prop} {w w' : World} (hM : Mod F w w') (hF : ∀ k cs fr, F k → w.heap[k]? ≠ some (.cells cs 55 fr)) {b : Nat} {t : Tr Int} (hb : ¬ F b) (h : TreeAt w b t) : TreeAt w' b t := by
  obtain ⟨p, h1, h2⟩ := h
  exact ⟨p, hM.keep h1 hb, h2.keep hM hF⟩

theorem TreeAt.ext {w w' : World} (hM : Ext w w') {b : Nat} {t : Tr Int} (h : TreeAt w b t) : TreeAt w' b t := by
  obtain ⟨p, h1, h2⟩ := h
  exact ⟨p, hM.keep h1, h2.ext hM⟩

/-- What Get tells. -/
def getR (t : Tr Int) (key : Int) : Int × Bool := match t.get key with | some v => (v, true) | none => (0, false)

theorem new_any (w : World) : Calls Try.prog 8 #[] w fun e w' => e = .returned (.pointer (some ⟨w.heap.size, 0, none⟩)) ∧ TreeAt w' w.heap.size .nil ∧ Ext w w' := by
  go_enter Try.func8, Try.ntmps8
  go_wp2_with fail
  go_ret
  exact ⟨rfl, ⟨none, heap_alloc_new w _, rfl⟩, (Ext.refl w).alloc _⟩

/-- What the walk to a key stands at. -/
def AtGet (w : World) (key : Int) (r : Int × Bool) (g : Nat) (s4 s : Value) : Prop :=
  ∃ (t : Tr Int) (p : Option Addr), s4 = .int .i64 0 ∧ s = .pointer p ∧ IsTree w p t ∧ getR t key = r ∧ t.size ≤ g

set_option maxHeartbeats 1000000 in
theorem get_any {b : Nat} {t : Tr Int} (key : Int) (w : World) (ht : TreeAt w b t) :
    Calls Try.prog 18 #[.pointer (some ⟨b, 0, none⟩), .int .i64 key] w fun e w' => e = .returned (.tuple #[.int .i64 (getR t key).1, .bool (getR t key).2]) ∧ w = w' := by
  obtain ⟨p, hb, ht⟩ := ht
  have c0 := cell_of_heap hb 0
  simp only [List.getElem?_toArray, List.getElem?_cons_zero] at c0
  clear hb
  generalize hD : getR t key = D
  go_enter Try.func18, Try.ntmps18
  go_wp2_with fail
  go_loopg [4, 6] t.size (fun g s4 s wr => w = wr ∧ AtGet w key D g s4 s)
  case atStart => exact ⟨rfl, t, p, rfl, rfl, ht, hD, Nat.le_refl _⟩
  case round =>
    clear ht hD
    obtain ⟨rfl, t, p, rfl, rfl, ht, hD, hg⟩ := hrel
    cases t with
    | nil =>
      obtain rfl : p = none := ht
      obtain rfl : (0, false) = D := hD
      clear hg c0
      go_wp2_with fail
      go_ret2
      exact ⟨rfl, rfl⟩
    | node l k v r =>
      obtain ⟨nb, pl, pr, rfl, hb, hl, hr⟩ := ht
      have hc := node_cells hb w (Ext.refl w)
      obtain ⟨n0, n1, n2, n3, _, _⟩ := hc
      by_cases h1 : key < k
      · have hD' := Lib.hid (show getR l key = D by rw [← hD]; simp only [getR, Tr.get, if_pos h1])
        have hsz : l.size + 1 ≤ gk := by simp only [Tr.size] at hg; omega
        clear hD hg hb
        go_wp2_with fail
        go_roundg l.size
        case measure => omega
        case rel => exact ⟨rfl, l, pl, rfl, rfl, hl, hD'.out, Nat.le_refl _⟩
      · by_cases h2 : k < key
        · have hD' := Lib.hid (show getR r key = D by rw [← hD]; simp only [getR, Tr.get, if_neg h1, if_pos h2])
          have hsz : r.size + 1 ≤ gk := by simp only [Tr.size] at hg; omega
          have h1' : k ≤ key := by omega
          clear hD hg hb h1
          go_wp2_with fail
          go_roundg r.size
          case measure => omega
          case rel => exact ⟨rfl, r, pr, rfl, rfl, hr, hD'.out, Nat.le_refl _⟩
        · obtain rfl : k = key := by omega
          obtain rfl : (v, true) = D := by rw [← hD]; simp only [getR, Tr.get, Int.lt_irrefl, if_false]
          clear hD hg hb h1 h2
          go_wp2_with fail
          go_ret2
          exact ⟨rfl, rfl⟩

set_option maxHeartbeats 1000000 in
theorem len_any {b : Nat} {t : Tr Int} (w : World) (ht : TreeAt w b t) :
    Calls Try.prog 10 #[.pointer (some ⟨b, 0, none⟩)] w fun e w' => e = .returned (.int .i64 t.many) ∧ w = w' := by
  obtain ⟨p, hb, ht⟩ := ht
  have c0 := cell_of_heap hb 0
  simp only [List.getElem?_toArray, List.getElem?_cons_zero] at c0
  have hm := many_any t p w ht
  clear hb ht
  go_enter Try.func10, Try.ntmps10
  go_wp2_with (go_at_call 24; (with_reducible refine hm.mono ?_); rintro e w' ⟨rfl, rfl⟩)
  go_ret
  exact ⟨rfl, rfl⟩

set_option maxHeartbeats 1000000 in
theorem height_any {b : Nat} {t : Tr Int} (w : World) (ht : TreeAt w b t) :
    Calls Try.prog 12 #[.pointer (some ⟨b, 0, none⟩)] w fun e w' => e = .returned (.int .i64 t.high) ∧ w = w' := by
  obtain ⟨p, hb, ht⟩ := ht
  have c0 := cell_of_heap hb 0
  simp only [List.getElem?_toArray, List.getElem?_cons_zero] at c0
  have hm := high_any t p w ht
  clear hb ht
  go_enter Try.func12, Try.ntmps12
  go_wp2_with (go_at_call 25; (with_reducible refine hm.mono ?_); rintro e w' ⟨rfl, rfl⟩)
  go_ret
  exact ⟨rfl, rfl⟩

/-- A tree's block takes another root. -/
theorem TreeAt.set {w w1 : World} {b : Nat} {p p' : Option Addr} {t' : Tr Int} (hb : w.heap[b]? = some (.cells #[.pointer p] 50 (0, 0))) (hE : Ext w w1) (ht : IsTree w1 p' t') :
    TreeAt (w1.setCell ⟨b, 0, none⟩ (.pointer p')) b t' ∧ Mod (fun k => k = b) w (w1.setCell ⟨b, 0, none⟩ (.pointer p')) := by
  have hb1 := hE.keep hb
  have hM1 : Mod (fun k => k = b) w1 (w1.setCell ⟨b, 0, none⟩ (.pointer p')) := (Mod.refl (fun k => k = b) w1).setCell (p := ⟨b, 0, none⟩) (.inl rfl) _
  refine ⟨⟨p', by simpa using heap_set (o := 0) hb1 (.pointer p'), ht.keep hM1 ?_⟩, ?_⟩
  · rintro k cs fr rfl h
    rw [hb1] at h
    injection h with h
    injection h with h1 h2
    exact absurd h2 (by decide)
  · unfold Ext at hE
    have h := Mod.mono (G := fun k => k = b) hE (fun _ _ h => h.elim)
    exact h.setCell (p := ⟨b, 0, none⟩) (.inl rfl) _

set_option maxHeartbeats 1000000 in
theorem putT_any {b : Nat} {t : Tr Int} (key x : Int) (w : World) (ht : TreeAt w b t) (hm : t.many < 1000000000) :
    Calls Try.prog 9 #[.pointer (some ⟨b, 0, none⟩), .int .i64 key, .int .i64 x] w fun e w' => e = .returned (.bool (!(getR t key).2)) ∧ TreeAt w' b (.put key x t) ∧ Mod (fun k => k = b) w w' := by
  have hget := get_any key w ht
  obtain ⟨p, hb, ht⟩ := ht
  have c0 := cell_of_heap hb 0
  simp only [List.getElem?_toArray, List.getElem?_cons_zero] at c0
  have hput := put_any key x t p w ht hm
  have HB := Lib.hid hb
  clear hb ht hm
  go_enter Try.func9, Try.ntmps9
  go_wp2_with (go_at_call 18; (with_reducible refine hget.mono ?_); rintro e w' ⟨rfl, rfl⟩)
  refine hput.mono ?_
  rintro e w1 ⟨p1, rfl, ht1, hE1⟩
  have d0 := hE1.cell c0
  have df := free_of_heap (hE1.keep HB.out) 0
  have HS := Lib.hid (TreeAt.set HB.out hE1 ht1)
  clear ht1 hE1
  go_wp2_with fail
  go_ret
  exact ⟨rfl, HS.out.1, HS.out.2⟩

theorem has_of_get {t : Tr Int} {key : Int} (h : (getR t key).2 = true) : t.has key := by
  unfold getR at h
  induction t with
  | nil => simp [Tr.get] at h
  | node l k v r ihl ihr =>
    simp only [Tr.get] at h
    simp only [Tr.has]
    by_cases h1 : key < k
    · simp only [h1, if_true] at h ⊢
      exact ihl h
    · by_cases h2 : k < key
      · simp only [h1, h2, if_true, if_false] at h ⊢
        exact ihr h
      · simp only [h1, h2, if_false]

set_option maxHeartbeats 1000000 in
theorem dropT_any {b : Nat} {t : Tr Int} (key : Int) (w : World) (ht : TreeAt w b t) (hm : t.many < 1000000000) (hs : t.sorted) :
    Calls Try.prog 13 #[.pointer (some ⟨b, 0, none⟩), .int .i64 key] w fun e w' => e = .returned (.bool (getR t key).2) ∧ TreeAt w' b (if (getR t key).2 then t.drop key else t) ∧ Mod (fun k => k = b) w w' := by
  have hget := get_any key w ht
  have HT := Lib.hid ht
  obtain ⟨p, hb, ht⟩ := ht
  have c0 := cell_of_heap hb 0
  simp only [List.getElem?_toArray, List.getElem?_cons_zero] at c0
  have HB := Lib.hid hb
  clear hb
  cases hG : (getR t key).2 with
  | true =>
    rw [hG] at hget
    have hdrop := drop_any t key p w ht hm hs (has_of_get hG)
    clear ht hm hs hG
    go_enter Try.func13, Try.ntmps13
    go_wp2_with (go_at_call 18; (with_reducible refine hget.mono ?_); rintro e w' ⟨rfl, rfl⟩)
    refine hdrop.mono ?_
    rintro e w1 ⟨p1, rfl, ht1, hE1⟩
    have d0 := hE1.cell c0
    have df := free_of_heap (hE1.keep HB.out) 0
    have HS := Lib.hid (TreeAt.set HB.out hE1 ht1)
    clear ht1 hE1
    go_wp2_with fail
    go_ret
    exact ⟨rfl, by simpa using HS.out.1, HS.out.2⟩
  | false =>
    rw [hG] at hget
    clear ht hm hs hG
    go_enter Try.func13, Try.ntmps13
    go_wp2_with (go_at_call 18; (with_reducible refine hget.mono ?_); rintro e w' ⟨rfl, rfl⟩)
    go_ret
    exact ⟨rfl, by simpa using HT.out, Mod.refl _ _⟩

set_option maxHeartbeats 1000000 in
theorem twin_any {b : Nat} {t : Tr Int} (w : World) (ht : TreeAt w b t) :
    Calls Try.prog 22 #[.pointer (some ⟨b, 0, none⟩)] w fun e w' => e = .returned (.pointer (some ⟨w.heap.size, 0, none⟩)) ∧ TreeAt w' w.heap.size t ∧ Ext w w' := by
  obtain ⟨p, hb, ht⟩ := ht
  have c0 := cell_of_heap hb 0
  simp only [List.getElem?_toArray, List.getElem?_cons_zero] at c0
  clear hb
  go_enter Try.func22, Try.ntmps22
  go_wp2_with fail
  go_ret
  exact ⟨rfl, ⟨p, heap_alloc_new w _, ht.ext ((Ext.refl w).alloc _)⟩, (Ext.refl w).alloc _⟩

end Go.Proofs.Ytpkapfhfnnfomaa
