/- The walks of the tree's own methods: New, Get, Put, Drop, Len, Height, Twin. -/
import Derived.Test.YtjgpoggbakanlaaVTreePut
import Derived.Deep.RegionLaw
namespace Go.Proofs.Ytjgpoggbakanlaa
open Go.RowKit
attribute [local irreducible] Ext

/-- Block b is a tree whose root is t. -/
def TreeAt (w : World) (b : Nat) (t : Tr (Int × Int × ByteArray)) : Prop := ∃ p, w.heap[b]? = some (.cells #[.pointer p] 85 (0, 0)) ∧ IsTree w p t

theorem TreeAt.keep {F : Nat → Prop} {w w' : World} (hM : Mod F w w') (hF : ∀ k cs fr, F k → w.heap[k]? ≠ some (.cells cs 104 fr)) {b : Nat} {t : Tr (Int × Int × ByteArray)} (hb : ¬ F b) (h : TreeAt w b t) : TreeAt w' b t := by
  obtain ⟨p, h1, h2⟩ := h
  exact ⟨p, hM.keep h1 hb, h2.keep hM hF⟩

theorem TreeAt.ext {w w' : World} (hM : Ext w w') {b : Nat} {t : Tr (Int × Int × ByteArray)} (h : TreeAt w b t) : TreeAt w' b t := by
  obtain ⟨p, h1, h2⟩ := h
  exact ⟨p, hM.keep h1, h2.ext hM⟩

/-- What Get tells. -/
def getR (t : Tr (Int × Int × ByteArray)) (key : Int) : (Int × Int × ByteArray) × Bool := match t.get key with | some v => (v, true) | none => ((0, 0, ⟨#[]⟩), false)

theorem new_any (w : World) : Calls Try.prog 22 #[] w fun e w' => e = .returned (.pointer (some ⟨w.heap.size, 0, none⟩)) ∧ TreeAt w' w.heap.size .nil ∧ Ext w w' := by
  go_enter Try.func22, Try.ntmps22
  go_wp2_with fail
  go_ret
  exact ⟨rfl, ⟨none, heap_alloc_new w _, rfl⟩, (Ext.refl w).alloc _⟩

/-- What the walk to a key stands at. -/
def AtGet (w : World) (key : Int) (r : (Int × Int × ByteArray) × Bool) (g : Nat) (s : Value) : Prop :=
  ∃ (t : Tr (Int × Int × ByteArray)) (p : Option Addr), s = .pointer p ∧ IsTree w p t ∧ getR t key = r ∧ t.size ≤ g

set_option maxHeartbeats 1000000 in
theorem get_any {b : Nat} {t : Tr (Int × Int × ByteArray)} (key : Int) (w : World) (ht : TreeAt w b t) :
    Calls Try.prog 37 #[.pointer (some ⟨b, 0, none⟩), .int .i64 key] w fun e w' => e = .returned (.tuple #[.agg #[.int .i64 ((getR t key).1).1, .int .i64 ((getR t key).1).2.1, .string ((getR t key).1).2.2], .bool (getR t key).2]) ∧ Ext w w' := by
  obtain ⟨p, hb, ht⟩ := ht
  have hEz : Ext w (w.alloc (.cells #[.int .i64 0, .int .i64 0, .string ⟨#[]⟩] 31)) := (Ext.refl w).alloc _
  have c0 := cell_of_heap (hEz.keep hb) 0
  simp only [List.getElem?_toArray, List.getElem?_cons_zero] at c0
  clear hb
  generalize hD : getR t key = D
  go_enter Try.func37, Try.ntmps37
  go_wp2_with fail
  go_loopg [6] t.size (fun g s wr => w.alloc (.cells #[.int .i64 0, .int .i64 0, .string ⟨#[]⟩] 31) = wr ∧ AtGet w key D g s)
  case atStart => exact ⟨rfl, t, p, rfl, ht, hD, Nat.le_refl _⟩
  case round =>
    clear ht hD
    obtain ⟨rfl, t, p, rfl, ht, hD, hg⟩ := hrel
    cases t with
    | nil =>
      obtain rfl : p = none := ht
      obtain rfl : ((0, 0, ⟨#[]⟩), false) = D := hD
      clear hg c0
      go_wp2_with fail
      exact bodyPost_ret (v := .tuple #[.agg #[.int .i64 0, .int .i64 0, .string ⟨#[]⟩], .bool false]) (by simp [results, Try.f37, go_sem]) rfl ⟨rfl, hEz⟩
    | node l k v r =>
      obtain ⟨nb, pl, pr, rfl, hb, hl, hr⟩ := ht
      have hc := node_cells hb _ hEz
      obtain ⟨n0, ⟨n1, n1b, n1c⟩, n2, n3, _, _⟩ := hc
      by_cases h1 : key < k
      · have hD' := Lib.hid (show getR l key = D by rw [← hD]; simp only [getR, Tr.get, if_pos h1])
        have hsz : l.size + 1 ≤ gk := by simp only [Tr.size] at hg; omega
        clear hD hg hb
        go_wp2_with fail
        go_roundg l.size
        case measure => omega
        case rel => exact ⟨rfl, l, pl, rfl, hl, hD'.out, Nat.le_refl _⟩
      · by_cases h2 : k < key
        · have hD' := Lib.hid (show getR r key = D by rw [← hD]; simp only [getR, Tr.get, if_neg h1, if_pos h2])
          have hsz : r.size + 1 ≤ gk := by simp only [Tr.size] at hg; omega
          have h1' : k ≤ key := by omega
          clear hD hg hb h1
          go_wp2_with fail
          go_roundg r.size
          case measure => omega
          case rel => exact ⟨rfl, r, pr, rfl, hr, hD'.out, Nat.le_refl _⟩
        · obtain rfl : k = key := by omega
          obtain rfl : (v, true) = D := by rw [← hD]; simp only [getR, Tr.get, Int.lt_irrefl, if_false]
          clear hD hg hb h1 h2
          go_wp2_with fail
          exact bodyPost_ret (v := .tuple #[.agg #[.int .i64 v.1, .int .i64 v.2.1, .string v.2.2], .bool true]) (by simp [results, Try.f37, go_sem]) rfl ⟨rfl, (Ext.refl w).alloc _⟩

set_option maxHeartbeats 1000000 in
theorem len_any {b : Nat} {t : Tr (Int × Int × ByteArray)} (w : World) (ht : TreeAt w b t) :
    Calls Try.prog 26 #[.pointer (some ⟨b, 0, none⟩)] w fun e w' => e = .returned (.int .i64 t.many) ∧ w = w' := by
  obtain ⟨p, hb, ht⟩ := ht
  have c0 := cell_of_heap hb 0
  simp only [List.getElem?_toArray, List.getElem?_cons_zero] at c0
  have hm := many_any t p w ht
  clear hb ht
  go_enter Try.func26, Try.ntmps26
  go_wp2_with (go_at_call 43; (with_reducible refine hm.mono ?_); rintro e w' ⟨rfl, rfl⟩)
  go_ret
  exact ⟨rfl, rfl⟩

/-- A tree's block takes another root. -/
theorem TreeAt.set {w w1 : World} {b : Nat} {p p' : Option Addr} {t' : Tr (Int × Int × ByteArray)} (hb : w.heap[b]? = some (.cells #[.pointer p] 85 (0, 0))) (hE : Ext w w1) (ht : IsTree w1 p' t') :
    TreeAt (w1.setCell ⟨b, 0, none⟩ (.pointer p')) b t' ∧ Mod (fun k => k = b) w (w1.setCell ⟨b, 0, none⟩ (.pointer p')) := by
  have hb1 := hE.keep hb
  have hM1 : Mod (fun k => k = b) w1 (w1.setCell ⟨b, 0, none⟩ (.pointer p')) := (Mod.refl (fun k => k = b) w1).setCell (p := ⟨b, 0, none⟩) (.inl rfl) _
  refine ⟨⟨p', by simpa using heap_set (o := 0) hb1 (.pointer p'), ht.keep hM1 ?_⟩, ?_⟩
  · rintro k cs fr rfl h
    rw [hb1] at h
    injection h with h
    injection h with h1 h2
    exact absurd h2 (by decide)
  · unfold Ext at hE
    have h := Mod.mono (G := fun k => k = b) hE (fun _ _ h => h.elim)
    exact h.setCell (p := ⟨b, 0, none⟩) (.inl rfl) _

set_option maxRecDepth 100000 in
set_option maxHeartbeats 1000000 in
theorem putT_any {b : Nat} {t : Tr (Int × Int × ByteArray)} (key : Int) (x : (Int × Int × ByteArray)) (w : World) (ht : TreeAt w b t) (hm : t.many < 1000000000) :
    Calls Try.prog 38 #[.pointer (some ⟨b, 0, none⟩), .int .i64 key, .agg #[.int .i64 x.1, .int .i64 x.2.1, .string x.2.2]] w fun e w' => e = .returned (.bool (!(getR t key).2)) ∧ TreeAt w' b (.put key x t) ∧ Mod (fun k => k = b) w w' := by
  have hE1 : Ext w (w.alloc (.cells #[.int .i64 x.1, .int .i64 x.2.1, .string x.2.2] 31)) := (Ext.refl w).alloc _
  have hb1 := heap_alloc_new w (.cells #[.int .i64 x.1, .int .i64 x.2.1, .string x.2.2] 31)
  have hget := get_any key _ (TreeAt.ext hE1 ht)
  obtain ⟨p, hb, ht⟩ := ht
  have hput := fun w' (h : Ext w w') => put_any key x t p w' (ht.ext h) hm
  have HB := Lib.hid hb
  have HE1 := Lib.hid hE1
  have HB1 := Lib.hid hb1
  clear hb ht hm hE1 hb1
  go_enter Try.func38, Try.ntmps38
  go_wp2_with (go_at_call 37; (with_reducible refine hget.mono ?_); rintro e wg ⟨rfl, hEg⟩)
  have hE2 := (HE1.out.trans hEg).alloc (.cells #[.int .i64 ((getR t key).1).1, .int .i64 ((getR t key).1).2.1, .string ((getR t key).1).2.2] 31)
  have hB2 := (hEg.alloc (.cells #[.int .i64 ((getR t key).1).1, .int .i64 ((getR t key).1).2.1, .string ((getR t key).1).2.2] 31)).keep HB1.out
  generalize wg.alloc (.cells #[.int .i64 ((getR t key).1).1, .int .i64 ((getR t key).1).2.1, .string ((getR t key).1).2.2] 31) = wc at hE2 hB2 ⊢
  have HE2 := Lib.hid hE2
  obtain ⟨x0, x1, x2⟩ := box_cells hB2 _ ((Ext.refl wc).drew)
  have hc0 := cell_of_heap (hE2.drew.keep HB.out) 0
  simp only [List.getElem?_toArray, List.getElem?_cons_zero] at hc0
  have hpt := hput wc.drew hE2.drew
  clear hget hput hEg hE2 hB2 HE1 HB1
  go_region_law (first
    | (go_simp; go_at_call 54; (with_reducible refine hpt.mono ?_); rintro e w1 ⟨p1, rfl, ht1, hF1⟩; have hE3 := HE2.out.drew.trans hF1; have d0 := cell_of_heap (hE3.keep HB.out) 0; simp only [List.getElem?_toArray, List.getElem?_cons_zero] at d0; have df := free_of_heap (hE3.keep HB.out) 0; have HS := Lib.hid (TreeAt.set HB.out hE3 ht1); clear ht1 hF1 hE3))
  all_goals clear hpt hc0 x0 x1 x2
  all_goals go_wp2_with fail
  all_goals go_ret
  all_goals exact ⟨rfl, HS.out.1, HS.out.2⟩

theorem has_of_get {t : Tr (Int × Int × ByteArray)} {key : Int} (h : (getR t key).2 = true) : t.has key := by
  unfold getR at h
  induction t with
  | nil => simp [Tr.get] at h
  | node l k v r ihl ihr =>
    simp only [Tr.get] at h
    simp only [Tr.has]
    by_cases h1 : key < k
    · simp only [h1, if_true] at h ⊢
      exact ihl h
    · by_cases h2 : k < key
      · simp only [h1, h2, if_true, if_false] at h ⊢
        exact ihr h
      · simp only [h1, h2, if_false]

set_option maxRecDepth 100000 in
set_option maxHeartbeats 1000000 in
theorem dropT_any {b : Nat} {t : Tr (Int × Int × ByteArray)} (key : Int) (w : World) (ht : TreeAt w b t) (hm : t.many < 1000000000) (hs : t.sorted) :
    Calls Try.prog 40 #[.pointer (some ⟨b, 0, none⟩), .int .i64 key] w fun e w' => e = .returned (.bool (getR t key).2) ∧ TreeAt w' b (if (getR t key).2 then t.drop key else t) ∧ Mod (fun k => k = b) w w' := by
  have hget := get_any key w ht
  have HT := Lib.hid ht
  obtain ⟨p, hb, ht⟩ := ht
  have HB := Lib.hid hb
  clear hb
  obtain ⟨gv, hgv⟩ : ∃ gv, (getR t key).1 = gv := ⟨_, rfl⟩
  rw [hgv] at hget
  clear hgv
  cases hG : (getR t key).2 with
  | true =>
    rw [hG] at hget
    have hdrop := fun w' (h : Ext w w') => drop_any t key p w' (ht.ext h) hm hs (has_of_get hG)
    clear ht hm hs hG
    go_enter Try.func40, Try.ntmps40
    go_wp2_with (go_at_call 37; (with_reducible refine hget.mono ?_); rintro e wg ⟨rfl, hEg⟩; have c0 := cell_of_heap ((hEg.alloc (.cells #[.int .i64 gv.1, .int .i64 gv.2.1, .string gv.2.2] 31)).keep HB.out) 0; simp only [List.getElem?_toArray, List.getElem?_cons_zero] at c0)
    refine (hdrop _ (hEg.alloc _)).mono ?_
    rintro e w1 ⟨p1, rfl, ht1, hF1⟩
    have hE1 := (hEg.alloc (.cells #[.int .i64 gv.1, .int .i64 gv.2.1, .string gv.2.2] 31)).trans hF1
    have d0 := cell_of_heap (hE1.keep HB.out) 0
    simp only [List.getElem?_toArray, List.getElem?_cons_zero] at d0
    have df := free_of_heap (hE1.keep HB.out) 0
    have HS := Lib.hid (TreeAt.set HB.out hE1 ht1)
    clear ht1 hE1 hF1 hEg c0 hget hdrop
    go_wp2_with fail
    go_ret
    exact ⟨rfl, by simpa using HS.out.1, HS.out.2⟩
  | false =>
    rw [hG] at hget
    clear ht hm hs hG
    go_enter Try.func40, Try.ntmps40
    go_wp2_with (go_at_call 37; (with_reducible refine hget.mono ?_); rintro e wg ⟨rfl, hEg⟩)
    go_ret
    have hE2 := hEg.alloc (.cells #[.int .i64 gv.1, .int .i64 gv.2.1, .string gv.2.2] 31)
    refine ⟨rfl, by simpa using TreeAt.ext hE2 HT.out, ?_⟩
    unfold Ext at hE2
    exact hE2.mono (fun _ _ h => h.elim)

end Go.Proofs.Ytjgpoggbakanlaa
