/- The halves of monitors: put, taker, popper; the table's methods. -/
import Derived.Test.YtjgpoggbakanlaaVTreeKeys
namespace Go.Proofs.Ytjgpoggbakanlaa
open Go.RowKit Go.Shelf
attribute [local irreducible] Ext

/-- Is a half refused? -/
def bad (t : Tr (Int × Int × ByteArray)) (m : (Int × Int × ByteArray)) : Bool := (getR t m.1).2 || decide (m.1 < 1)

def put1 (t : Tr (Int × Int × ByteArray)) (m : (Int × Int × ByteArray)) : Tr (Int × Int × ByteArray) := if bad t m then t else t.put m.1 m

theorem Ext.size {a b : World} (h : Ext a b) : a.heap.size ≤ b.heap.size := by unfold Ext at h; exact Mod.size h

theorem mod_of_ext {F : Nat → Prop} {w w' : World} (h : Ext w w') : Mod F w w' := by
  unfold Ext at h
  exact h.mono (fun _ _ h => h.elim)

set_option maxRecDepth 100000 in
set_option maxHeartbeats 1000000 in
theorem mput_any {b : Nat} {t : Tr (Int × Int × ByteArray)} (m : (Int × Int × ByteArray)) (w : World) (ht : TreeAt w b t) (hm : t.many < 1000000000) :
    Calls Try.prog 23 #[.pointer (some ⟨b, 0, none⟩), .agg #[.int .i64 m.1, .int .i64 m.2.1, .string m.2.2]] w fun e w' => e = .returned (.int .i64 (if bad t m then 1 else 0)) ∧ TreeAt w' b (put1 t m) ∧ Mod (fun k => k = b) w w' := by
  have hE1 : Ext w (w.alloc (.cells #[.int .i64 m.1, .int .i64 m.2.1, .string m.2.2] 31)) := (Ext.refl w).alloc _
  have hb1 := heap_alloc_new w (.cells #[.int .i64 m.1, .int .i64 m.2.1, .string m.2.2] 31)
  have hget := get_any m.1 _ (TreeAt.ext hE1 ht)
  obtain ⟨gv, hgv⟩ : ∃ gv, (getR t m.1).1 = gv := ⟨_, rfl⟩
  rw [hgv] at hget
  have HT := Lib.hid ht
  have HE1 := Lib.hid hE1
  have HB1 := Lib.hid hb1
  clear hgv ht hE1
  obtain ⟨z0, z1, z2⟩ := box_cells hb1 _ (Ext.refl _)
  clear hb1
  cases hG : (getR t m.1).2 with
  | true =>
    rw [hG] at hget
    have hbad : bad t m = true := by simp [bad, hG]
    simp only [put1, hbad, if_true]
    clear hG hbad
    go_enter Try.func23, Try.ntmps23
    go_wp2_with (go_at_call 37; (with_reducible refine hget.mono ?_); rintro e wg ⟨rfl, hEg⟩)
    go_ret
    have hE2 := (HE1.out.trans hEg).alloc (.cells #[.int .i64 gv.1, .int .i64 gv.2.1, .string gv.2.2] 31)
    exact ⟨rfl, TreeAt.ext hE2 HT.out, mod_of_ext hE2⟩
  | false =>
    rw [hG] at hget
    by_cases h1 : m.1 < 1
    · have hbad : bad t m = true := by simp [bad, h1]
      simp only [put1, hbad, if_true]
      clear hG hbad
      go_enter Try.func23, Try.ntmps23
      go_wp2_with (go_at_call 37; (with_reducible refine hget.mono ?_); rintro e wg ⟨rfl, hEg⟩; obtain ⟨x0, x1, x2⟩ := box_cells HB1.out _ (hEg.alloc (.cells #[.int .i64 gv.1, .int .i64 gv.2.1, .string gv.2.2] 31)))
      go_ret
      have hE2 := (HE1.out.trans hEg).alloc (.cells #[.int .i64 gv.1, .int .i64 gv.2.1, .string gv.2.2] 31)
      exact ⟨rfl, TreeAt.ext hE2 HT.out, mod_of_ext hE2⟩
    · have hbad : bad t m = false := by simp [bad, h1, hG]
      simp only [put1, hbad, Bool.false_eq_true, if_false]
      have h1' : decide (m.1 < 1) = false := decide_eq_false h1
      clear hG hbad h1
      go_enter Try.func23, Try.ntmps23
      go_wp2_with (go_at_call 37; (with_reducible refine hget.mono ?_); rintro e wg ⟨rfl, hEg⟩; obtain ⟨x0, x1, x2⟩ := box_cells HB1.out _ (hEg.alloc (.cells #[.int .i64 gv.1, .int .i64 gv.2.1, .string gv.2.2] 31)))
      have hE2 := (HE1.out.trans hEg).alloc (.cells #[.int .i64 gv.1, .int .i64 gv.2.1, .string gv.2.2] 31)
      refine (putT_any m.1 m _ (TreeAt.ext hE2 HT.out) hm).mono ?_
      rintro e w2 ⟨rfl, ht2, hM2⟩
      have HT2 := Lib.hid ht2
      have HM2 := Lib.hid ((mod_of_ext hE2).trans hM2 (fun _ _ h => h))
      clear ht2 hM2 hE2 hEg x0 x1 x2
      go_wp2_with fail
      go_ret
      exact ⟨rfl, HT2.out, HM2.out⟩

theorem taker_any {b : Nat} (w : World) :
    Calls Try.prog 24 #[.pointer (some ⟨b, 0, none⟩)] w fun e w' => e = .returned (.func (.func 39) #[] #[.pointer (some ⟨w.heap.size, 0, none⟩)]) ∧ w.alloc (.cells #[.pointer (some ⟨b, 0, none⟩)] 61) = w' := by
  go_enter Try.func24, Try.ntmps24
  go_wp2_with fail
  go_ret
  exact ⟨rfl, rfl⟩

/-- The world behind a store of an element. -/
def set3 (W : World) (z : Nat) (x : (Int × Int × ByteArray)) : World := ((W.setCell ⟨z, 0, none⟩ (.int .i64 x.1)).setCell ⟨z, 1, none⟩ (.int .i64 x.2.1)).setCell ⟨z, 2, none⟩ (.string x.2.2)

theorem set3_mod {F : Nat → Prop} {w W : World} {z : Nat} (h : Mod F w W) (hz : F z ∨ w.heap.size ≤ z) (x : (Int × Int × ByteArray)) : Mod F w (set3 W z x) :=
  ((h.setCell (p := ⟨z, 0, none⟩) hz _).setCell (p := ⟨z, 1, none⟩) hz _).setCell (p := ⟨z, 2, none⟩) hz _

theorem set3_box {W : World} {z : Nat} {y : (Int × Int × ByteArray)} (h : Box3 W z y) (x : (Int × Int × ByteArray)) : Box3 (set3 W z x) z x := h.set x

theorem set3_tree {W : World} {z b : Nat} {y : (Int × Int × ByteArray)} {t : Tr (Int × Int × ByteArray)} (h : Box3 W z y) (ht : TreeAt W b t) (x : (Int × Int × ByteArray)) : TreeAt (set3 W z x) b t := by
  refine ht.keep (set3_mod (F := fun k => k = z) (Mod.refl _ W) (.inl rfl) x) ?_ ?_
  · rintro k cs fr rfl hk
    rw [show W.heap[k]? = _ from h] at hk
    injection hk with hk
    injection hk with _ e
    exact absurd e (by decide)
  · rintro rfl
    obtain ⟨p, hp, _⟩ := ht
    rw [show W.heap[b]? = _ from h] at hp
    injection hp with hk
    injection hk with _ e
    exact absurd e (by decide)

/-- The cells of a captured variable, later. -/
theorem cap_cell {w w' : World} {x b : Nat} (hx : w.heap[x]? = some (.cells #[.pointer (some ⟨b, 0, none⟩)] 61 (0, 0))) (hM : Mod (fun k => k = b) w w') (hne : x ≠ b) : w'.cell? ⟨x, 0, none⟩ = some (.pointer (some ⟨b, 0, none⟩)) := by
  have := cell_of_heap (hM.keep hx hne) 0
  simpa using this

set_option maxRecDepth 100000 in
set_option maxHeartbeats 1000000 in
theorem taker1_any {b x : Nat} {t : Tr (Int × Int × ByteArray)} (key : Int) (w : World) (hx : w.heap[x]? = some (.cells #[.pointer (some ⟨b, 0, none⟩)] 61 (0, 0))) (ht : TreeAt w b t) (hm : t.many < 1000000000) (hs : t.sorted) :
    Calls Try.prog 39 #[.int .i64 key, .pointer (some ⟨x, 0, none⟩)] w fun e w' => e = .returned (.tuple #[.agg #[.int .i64 ((getR t key).1).1, .int .i64 ((getR t key).1).2.1, .string ((getR t key).1).2.2], .bool (getR t key).2]) ∧ TreeAt w' b (dropped t key) ∧ Mod (fun k => k = b) w w' := by
  have hne : x ≠ b := by
    rintro rfl
    obtain ⟨p, hp, _⟩ := ht
    rw [hx] at hp
    injection hp with h
    injection h with _ e
    exact absurd e (by decide)
  obtain ⟨gv, hgv⟩ : ∃ gv, getR t key = gv := ⟨_, rfl⟩
  have hE0 : Ext w (w.alloc (.cells #[.int .i64 0, .int .i64 0, .string ⟨#[]⟩] 31)) := (Ext.refl w).alloc _
  have hget := get_any key _ (TreeAt.ext hE0 ht)
  rw [hgv] at hget ⊢
  have x0 := cap_cell hx (mod_of_ext hE0) hne
  have HX := Lib.hid hx
  have HT := Lib.hid ht
  have HE0 := Lib.hid hE0
  have HG := Lib.hid hgv
  clear hx ht hE0 hgv
  go_enter Try.func39, Try.ntmps39
  go_wp2_with (go_at_call 37; (with_reducible refine hget.mono ?_); rintro e wg ⟨rfl, hEg⟩; have x1 := cap_cell HX.out (mod_of_ext ((HE0.out.trans hEg).alloc (.cells #[.int .i64 gv.1.1, .int .i64 gv.1.2.1, .string gv.1.2.2] 31))) hne)
  have hE2 := (HE0.out.trans hEg).alloc (.cells #[.int .i64 gv.1.1, .int .i64 gv.1.2.1, .string gv.1.2.2] 31)
  have hz := (hEg.alloc (.cells #[.int .i64 gv.1.1, .int .i64 gv.1.2.1, .string gv.1.2.2] 31)).keep (heap_alloc_new w (.cells #[.int .i64 0, .int .i64 0, .string ⟨#[]⟩] 31))
  have hv := heap_alloc_new wg (.cells #[.int .i64 gv.1.1, .int .i64 gv.1.2.1, .string gv.1.2.2] 31)
  refine (dropT_any key _ (TreeAt.ext hE2 HT.out) hm hs).mono ?_
  rintro e w2 ⟨rfl, ht2, hM2⟩
  have hb2 : b < w.heap.size := by
    obtain ⟨p, hp, _⟩ := HT.out
    exact heap_lt hp
  have hsg := Ext.size hEg
  have hz2 := hM2.keep hz (by omega)
  rw [World.size_alloc] at hsg
  have hv2 := hM2.keep hv (by omega)
  obtain ⟨y0, y1, y2⟩ := box_cells hv2 w2 (Ext.refl w2)
  have q0 := cell_of_heap hz2 0
  have q1 := cell_of_heap hz2 1
  have q2 := cell_of_heap hz2 2
  simp only [List.getElem?_toArray, List.getElem?_cons_succ, List.getElem?_cons_zero] at q0 q1 q2
  have r0 := free_of_heap hz2 0
  have r1 := free_of_heap hz2 1
  have r2 := free_of_heap hz2 2
  have HM2 := Lib.hid ((mod_of_ext hE2).trans hM2 (fun _ _ h => h))
  have HT2 := Lib.hid ht2
  have HZ2 := Lib.hid hz2
  clear ht2 hM2 hE2 hEg hz hv hv2 hz2 x0 x1
  go_wp2_with fail
  obtain ⟨s0, s1, s2, _, _, _⟩ := (set3_box (show Box3 w2 w.heap.size (0, 0, ⟨#[]⟩) from HZ2.out) gv.1).cells
  have HT3 := set3_tree (show Box3 w2 w.heap.size (0, 0, ⟨#[]⟩) from HZ2.out) HT2.out gv.1
  have HM3 := set3_mod HM2.out (.inr (Nat.le_refl _)) gv.1
  unfold set3 at s0 s1 s2 HT3 HM3
  exact bodyPost_ret (v := .tuple #[.agg #[.int .i64 gv.1.1, .int .i64 gv.1.2.1, .string gv.1.2.2], .bool gv.2]) (by simp [results, Try.f39, go_sem, s0, s1, s2]) rfl ⟨rfl, HT3, HM3⟩

def firstK : List (Int × (Int × Int × ByteArray)) → Int
  | [] => 0
  | x :: _ => x.1

theorem firstR_form (L : List (Int × (Int × Int × ByteArray))) : ∃ (v : (Int × Int × ByteArray)) (c : Bool), firstR L = .tuple #[.int .i64 (firstK L), .agg #[.int .i64 v.1, .int .i64 v.2.1, .string v.2.2], .bool c] := by
  cases L with
  | nil => exact ⟨(0, 0, ⟨#[]⟩), false, rfl⟩
  | cons x L => exact ⟨x.2, true, rfl⟩

theorem popper_any {b : Nat} (w : World) :
    Calls Try.prog 25 #[.pointer (some ⟨b, 0, none⟩)] w fun e w' => e = .returned (.func (.func 41) #[] #[.pointer (some ⟨w.heap.size, 0, none⟩)]) ∧ w.alloc (.cells #[.pointer (some ⟨b, 0, none⟩)] 61) = w' := by
  go_enter Try.func25, Try.ntmps25
  go_wp2_with fail
  go_ret
  exact ⟨rfl, rfl⟩

theorem treeAt_lt {w : World} {b : Nat} {t : Tr (Int × Int × ByteArray)} (h : TreeAt w b t) : b < w.heap.size := by
  obtain ⟨p, hp, _⟩ := h
  exact heap_lt hp

/-- A taker that was just made, called: what lies in a result's cell from before. -/
theorem take_new {b z x : Nat} {t : Tr (Int × Int × ByteArray)} (key : Int) {w0 w : World} (hx : w.heap.size = x) (hE : Ext w0 w) (hz : Box3 w z (0, 0, ⟨#[]⟩)) (hzs : w0.heap.size ≤ z) (ht : TreeAt w0 b t) (hm : t.many < 1000000000) (hs : t.sorted) :
    Calls Try.prog 39 #[.int .i64 key, .pointer (some ⟨x, 0, none⟩)] (w.alloc (.cells #[.pointer (some ⟨b, 0, none⟩)] 61)) fun e w' =>
      e = .returned (.tuple #[.agg #[.int .i64 ((getR t key).1).1, .int .i64 ((getR t key).1).2.1, .string ((getR t key).1).2.2], .bool (getR t key).2]) ∧ Box3 w' z (0, 0, ⟨#[]⟩) ∧ TreeAt w' b (dropped t key) ∧ Mod (fun k => k = b) w0 w' := by
  subst hx
  have hb := treeAt_lt ht
  have hE2 := hE.alloc (.cells #[.pointer (some ⟨b, 0, none⟩)] 61)
  refine (taker1_any key _ (heap_alloc_new w _) (TreeAt.ext hE2 ht) hm hs).mono ?_
  rintro e w' ⟨rfl, h1, h2⟩
  exact ⟨rfl, h2.keep (hz.alloc _) (by omega), h1, (mod_of_ext hE2).trans h2 (fun _ _ h => h)⟩

set_option maxRecDepth 100000 in
set_option maxHeartbeats 1000000 in
theorem popper1_any {b x : Nat} {t : Tr (Int × Int × ByteArray)} (w : World) (hx : w.heap[x]? = some (.cells #[.pointer (some ⟨b, 0, none⟩)] 61 (0, 0))) (ht : TreeAt w b t) (hm : t.many < 1000000000) (hs : t.sorted) (hk : ∀ x ∈ t.list, -9223372036854775808 ≤ x.1) :
    Calls Try.prog 41 #[.pointer (some ⟨x, 0, none⟩)] w fun e w' => e = .returned (.tuple #[.agg #[.int .i64 ((getR t (firstK t.list)).1).1, .int .i64 ((getR t (firstK t.list)).1).2.1, .string ((getR t (firstK t.list)).1).2.2], .bool (getR t (firstK t.list)).2]) ∧ TreeAt w' b (dropped t (firstK t.list)) ∧ Mod (fun k => k = b) w w' := by
  have hne : x ≠ b := by
    rintro rfl
    obtain ⟨p, hp, _⟩ := ht
    rw [hx] at hp
    injection hp with h
    injection h with _ e
    exact absurd e (by decide)
  obtain ⟨v, c, hvc⟩ := firstR_form t.list
  obtain ⟨key, hkey⟩ : ∃ key, firstK t.list = key := ⟨_, rfl⟩
  obtain ⟨gv, hgv⟩ : ∃ gv, getR t key = gv := ⟨_, rfl⟩
  have hE0 : Ext w (w.alloc (.cells #[.int .i64 0, .int .i64 0, .string ⟨#[]⟩] 31)) := (Ext.refl w).alloc _
  have hz0 : Box3 (w.alloc (.cells #[.int .i64 0, .int .i64 0, .string ⟨#[]⟩] 31)) w.heap.size (0, 0, ⟨#[]⟩) := heap_alloc_new w _
  have hfst := first_any _ (TreeAt.ext hE0 ht)
  rw [overL_all hs hk, hvc, hkey] at hfst
  rw [hkey, hgv]
  have x0 := cap_cell hx (mod_of_ext hE0) hne
  have HX := Lib.hid hx
  have HT := Lib.hid ht
  have HE0 := Lib.hid hE0
  have HZ0 := Lib.hid hz0
  have HG := Lib.hid hgv
  clear hx ht hE0 hgv hvc hkey hk hz0
  go_enter Try.func41, Try.ntmps41
  go_wp2_with (first
    | (go_at_call 42; (with_reducible refine hfst.mono ?_); rintro e wf ⟨rfl, hMf⟩; have hEf : Ext (w.alloc (.cells #[.int .i64 0, .int .i64 0, .string ⟨#[]⟩] 31)) wf := (by unfold Ext; exact hMf); have x1 := cap_cell HX.out (mod_of_ext ((HE0.out.trans hEf).alloc (.cells #[.int .i64 v.1, .int .i64 v.2.1, .string v.2.2] 31))) hne)
    | (go_at_call 24; (with_reducible refine (taker_any _).mono ?_); rintro e w' ⟨rfl, rfl⟩))
  have hE2 := (HE0.out.trans hEf).alloc (.cells #[.int .i64 v.1, .int .i64 v.2.1, .string v.2.2] 31)
  have hz2 : Box3 (wf.alloc (.cells #[.int .i64 v.1, .int .i64 v.2.1, .string v.2.2] 31)) w.heap.size (0, 0, ⟨#[]⟩) := Box3.alloc (hEf.keep HZ0.out) _
  refine (take_new key (x := wf.heap.size + 1) (by simp) hE2 hz2 (Nat.le_refl _) HT.out hm hs).mono ?_
  rintro e w2 ⟨rfl, hz3, ht3, hM3⟩
  rw [HG.out]
  obtain ⟨q0, q1, q2, r0, r1, r2⟩ := hz3.cells
  obtain ⟨s0, s1, s2, _, _, _⟩ := (set3_box hz3 gv.1).cells
  have HT3 := Lib.hid (set3_tree hz3 ht3 gv.1)
  have HM3 := Lib.hid (set3_mod hM3 (.inr (Nat.le_refl _)) gv.1)
  have S0 := Lib.hid s0
  have S1 := Lib.hid s1
  have S2 := Lib.hid s2
  clear ht3 hM3 hz3 hz2 hE2 hEf hMf x0 x1 s0 s1 s2 hfst
  go_wp2_with fail
  have s0 := S0.out
  have s1 := S1.out
  have s2 := S2.out
  have h3 := HT3.out
  have h4 := HM3.out
  unfold set3 at s0 s1 s2 h3 h4
  exact bodyPost_ret (v := .tuple #[.agg #[.int .i64 gv.1.1, .int .i64 gv.1.2.1, .string gv.1.2.2], .bool gv.2]) (by simp [results, Try.f41, go_sem, s0, s1, s2]) rfl ⟨rfl, h3, h4⟩

/-- The table: its two trees. -/
structure MAt (w : World) (mb ob gb : Nat) (t u : Tr (Int × Int × ByteArray)) : Prop where
  tab : w.heap[mb]? = some (.cells #[.pointer (some ⟨ob, 0, none⟩), .pointer (some ⟨gb, 0, none⟩)] 64 (0, 0))
  org : TreeAt w ob t
  tgt : TreeAt w gb u
  apart : ob ≠ gb
  st : t.sorted
  su : u.sorted
  kt : ∀ x ∈ t.list, -9223372036854775808 ≤ x.1
  ku : ∀ x ∈ u.list, -9223372036854775808 ≤ x.1

theorem MAt.ext {w w' : World} {mb ob gb : Nat} {t u : Tr (Int × Int × ByteArray)} (h : MAt w mb ob gb t u) (hE : Ext w w') : MAt w' mb ob gb t u :=
  ⟨hE.keep h.tab, TreeAt.ext hE h.org, TreeAt.ext hE h.tgt, h.apart, h.st, h.su, h.kt, h.ku⟩

theorem MAt.cell0 {w : World} {mb ob gb : Nat} {t u : Tr (Int × Int × ByteArray)} (h : MAt w mb ob gb t u) : w.cell? ⟨mb, 0, none⟩ = some (.pointer (some ⟨ob, 0, none⟩)) := by
  have := cell_of_heap h.tab 0
  simpa using this

theorem MAt.cell1 {w : World} {mb ob gb : Nat} {t u : Tr (Int × Int × ByteArray)} (h : MAt w mb ob gb t u) : w.cell? ⟨mb, 1, none⟩ = some (.pointer (some ⟨gb, 0, none⟩)) := by
  have := cell_of_heap h.tab 1
  simpa using this

theorem tree_ne_table {w : World} {mb b : Nat} {t : Tr (Int × Int × ByteArray)} {cs : Array Value} (h : w.heap[mb]? = some (.cells cs 64 (0, 0))) (ht : TreeAt w b t) : mb ≠ b := by
  rintro rfl
  obtain ⟨p, hp, _⟩ := ht
  rw [h] at hp
  injection hp with h
  injection h with _ e
  exact absurd e (by decide)

theorem tree_no_node {w : World} {b : Nat} {t : Tr (Int × Int × ByteArray)} (ht : TreeAt w b t) : ∀ k cs fr, k = b → w.heap[k]? ≠ some (.cells cs 104 fr) := by
  rintro k cs fr rfl hk
  obtain ⟨p, hp, _⟩ := ht
  rw [hp] at hk
  injection hk with h
  injection h with _ e
  exact absurd e (by decide)

theorem MAt.modO {w w' : World} {mb ob gb : Nat} {t u t' : Tr (Int × Int × ByteArray)} (h : MAt w mb ob gb t u) (hM : Mod (fun k => k = ob) w w') (ht : TreeAt w' ob t') (hs : t'.sorted) (hk : ∀ x ∈ t'.list, -9223372036854775808 ≤ x.1) : MAt w' mb ob gb t' u :=
  ⟨hM.keep h.tab (tree_ne_table h.tab h.org), ht, h.tgt.keep hM (tree_no_node h.org) (Ne.symm h.apart), h.apart, hs, h.su, hk, h.ku⟩

theorem MAt.modG {w w' : World} {mb ob gb : Nat} {t u u' : Tr (Int × Int × ByteArray)} (h : MAt w mb ob gb t u) (hM : Mod (fun k => k = gb) w w') (hu : TreeAt w' gb u') (hs : u'.sorted) (hk : ∀ x ∈ u'.list, -9223372036854775808 ≤ x.1) : MAt w' mb ob gb t u' :=
  ⟨hM.keep h.tab (tree_ne_table h.tab h.tgt), h.org.keep hM (tree_no_node h.tgt) h.apart, hu, h.apart, h.st, hs, h.kt, hk⟩

theorem MAt.set3 {W : World} {mb ob gb z : Nat} {t u : Tr (Int × Int × ByteArray)} {y : (Int × Int × ByteArray)} (h : MAt W mb ob gb t u) (hz : Box3 W z y) (x : (Int × Int × ByteArray)) : MAt (set3 W z x) mb ob gb t u := by
  refine ⟨(set3_mod (F := fun k => k = z) (Mod.refl _ W) (.inl rfl) x).keep h.tab ?_, set3_tree hz h.org x, set3_tree hz h.tgt x, h.apart, h.st, h.su, h.kt, h.ku⟩
  rintro rfl
  have := h.tab
  rw [show W.heap[mb]? = _ from hz] at this
  injection this with this
  injection this with _ e
  exact absurd e (by decide)

theorem keys_put {t : Tr (Int × Int × ByteArray)} (hs : t.sorted) (hk : ∀ x ∈ t.list, -9223372036854775808 ≤ x.1) {m : (Int × Int × ByteArray)} (hm : -9223372036854775808 ≤ m.1) : (put1 t m).sorted ∧ ∀ x ∈ (put1 t m).list, -9223372036854775808 ≤ x.1 := by
  unfold put1
  split
  · exact ⟨hs, hk⟩
  · refine ⟨Tr.sorted_put hs _ _, fun x hx => ?_⟩
    rw [Tr.list_put hs, mem_ins (Tr.sorted_rising hs)] at hx
    rcases hx with rfl | hx
    · exact hm
    · exact hk x hx.1

theorem keys_drop {t : Tr (Int × Int × ByteArray)} (hs : t.sorted) (hk : ∀ x ∈ t.list, -9223372036854775808 ≤ x.1) (key : Int) : (dropped t key).sorted ∧ ∀ x ∈ (dropped t key).list, -9223372036854775808 ≤ x.1 := by
  refine ⟨?_, fun x hx => ?_⟩
  · unfold dropped; split
    · exact Tr.sorted_drop hs key
    · exact hs
  · have e := dropped_list hs key
    rw [e, mem_del (Tr.sorted_rising hs)] at hx
    exact hk x hx.1

set_option maxRecDepth 100000 in
set_option maxHeartbeats 1000000 in
theorem watch_any {mb ob gb : Nat} {t u : Tr (Int × Int × ByteArray)} (ref pid : Int) (name : ByteArray) (w : World) (h : MAt w mb ob gb t u) (hm : t.many < 1000000000) (hr : -9223372036854775808 ≤ ref) :
    Calls Try.prog 8 #[.pointer (some ⟨mb, 0, none⟩), .int .i64 ref, .int .i64 pid, .string name] w fun e w' =>
      e = .returned (.int .i64 (if pid < 0 ∨ bad t (ref, pid, name) = true then 1 else 0)) ∧ MAt w' mb ob gb (if pid < 0 then t else put1 t (ref, pid, name)) u ∧ Mod (fun k => k = ob) w w' := by
  have c0 := h.cell0
  have hp := mput_any (ref, pid, name) w h.org hm
  simp only [] at hp
  have H := Lib.hid h
  clear h
  by_cases h1 : pid < 0
  · simp only [h1, true_or, if_true]
    clear hp
    go_enter Try.func8, Try.ntmps8
    go_wp2_with fail
    go_ret
    exact ⟨rfl, H.out, Mod.refl _ w⟩
  · have h1' : decide (pid < 0) = false := decide_eq_false h1
    simp only [h1, false_or, if_false]
    obtain ⟨r, hr'⟩ : ∃ r : Int, (if bad t (ref, pid, name) = true then 1 else 0) = r := ⟨_, rfl⟩
    rw [hr'] at hp ⊢
    clear h1 hr'
    go_enter Try.func8, Try.ntmps8
    go_wp2_with fail
    refine hp.mono ?_
    rintro e w2 ⟨rfl, ht2, hM2⟩
    have hq := keys_put H.out.st H.out.kt (m := (ref, pid, name)) hr
    have HM := Lib.hid (H.out.modO hM2 ht2 hq.1 hq.2)
    have HM2 := Lib.hid hM2
    clear ht2 hM2 hq hp
    go_wp2_with fail
    go_ret
    exact ⟨rfl, HM.out, HM2.out⟩

set_option maxRecDepth 100000 in
set_option maxHeartbeats 1000000 in
theorem onMonitor_any {mb ob gb : Nat} {t u : Tr (Int × Int × ByteArray)} (ref pid : Int) (w : World) (h : MAt w mb ob gb t u) (hm : u.many < 1000000000) (hr : -9223372036854775808 ≤ ref) :
    Calls Try.prog 11 #[.pointer (some ⟨mb, 0, none⟩), .int .i64 ref, .int .i64 pid] w fun e w' =>
      e = .returned (.int .i64 (if pid < 1 ∨ bad u (ref, pid, ⟨#[]⟩) = true then 1 else 0)) ∧ MAt w' mb ob gb t (if pid < 1 then u else put1 u (ref, pid, ⟨#[]⟩)) ∧ Mod (fun k => k = gb) w w' := by
  have c0 := h.cell1
  have hp := mput_any (ref, pid, ⟨#[]⟩) w h.tgt hm
  simp only [] at hp
  have H := Lib.hid h
  clear h
  by_cases h1 : pid < 1
  · simp only [h1, true_or, if_true]
    clear hp
    go_enter Try.func11, Try.ntmps11
    go_wp2_with fail
    go_ret
    exact ⟨rfl, H.out, Mod.refl _ w⟩
  · have h1' : decide (pid < 1) = false := decide_eq_false h1
    simp only [h1, false_or, if_false]
    obtain ⟨r, hr'⟩ : ∃ r : Int, (if bad u (ref, pid, ⟨#[]⟩) = true then 1 else 0) = r := ⟨_, rfl⟩
    rw [hr'] at hp ⊢
    clear h1 hr'
    go_enter Try.func11, Try.ntmps11
    go_wp2_with fail
    refine hp.mono ?_
    rintro e w2 ⟨rfl, ht2, hM2⟩
    have hq := keys_put H.out.su H.out.ku (m := (ref, pid, ⟨#[]⟩)) hr
    have HM := Lib.hid (H.out.modG hM2 ht2 hq.1 hq.2)
    have HM2 := Lib.hid hM2
    clear ht2 hM2 hq hp
    go_wp2_with fail
    go_ret
    exact ⟨rfl, HM.out, HM2.out⟩

set_option maxRecDepth 100000 in
set_option maxHeartbeats 1000000 in
theorem demonitor_any {mb ob gb : Nat} {t u : Tr (Int × Int × ByteArray)} (ref : Int) (w : World) (h : MAt w mb ob gb t u) (hm : t.many < 1000000000) :
    Calls Try.prog 9 #[.pointer (some ⟨mb, 0, none⟩), .int .i64 ref] w fun e w' =>
      e = .returned (.tuple #[.agg #[.int .i64 ((getR t ref).1).1, .int .i64 ((getR t ref).1).2.1, .string ((getR t ref).1).2.2], .bool (getR t ref).2]) ∧ MAt w' mb ob gb (dropped t ref) u ∧ Mod (fun k => k = ob) w w' := by
  have hE0 : Ext w (w.alloc (.cells #[.int .i64 0, .int .i64 0, .string ⟨#[]⟩] 31)) := (Ext.refl w).alloc _
  have hz0 : Box3 (w.alloc (.cells #[.int .i64 0, .int .i64 0, .string ⟨#[]⟩] 31)) w.heap.size (0, 0, ⟨#[]⟩) := heap_alloc_new w _
  have c0 := (h.ext hE0).cell0
  obtain ⟨gv, hgv⟩ : ∃ gv, getR t ref = gv := ⟨_, rfl⟩
  have htk := take_new ref (x := w.heap.size + 1) (by simp) hE0 hz0 (Nat.le_refl _) h.org hm h.st
  rw [hgv] at htk ⊢
  have H := Lib.hid h
  clear h hE0 hgv hz0
  go_enter Try.func9, Try.ntmps9
  go_wp2_with (go_at_call 24; (with_reducible refine (taker_any _).mono ?_); rintro e w' ⟨rfl, rfl⟩)
  refine htk.mono ?_
  rintro e w2 ⟨rfl, hz3, ht3, hM3⟩
  obtain ⟨q0, q1, q2, r0, r1, r2⟩ := hz3.cells
  obtain ⟨s0, s1, s2, _, _, _⟩ := (set3_box hz3 gv.1).cells
  have hM4 := set3_mod hM3 (.inr (Nat.le_refl _)) gv.1
  have hq := keys_drop H.out.st H.out.kt ref
  have HMA := Lib.hid (H.out.modO hM4 (set3_tree hz3 ht3 gv.1) hq.1 hq.2)
  have HM := Lib.hid hM4
  have S0 := Lib.hid s0
  have S1 := Lib.hid s1
  have S2 := Lib.hid s2
  clear ht3 hM3 hz3 s0 s1 s2 htk hq hM4
  go_wp2_with fail
  have s0 := S0.out
  have s1 := S1.out
  have s2 := S2.out
  have h3 := HMA.out
  have h4 := HM.out
  unfold set3 at s0 s1 s2 h3 h4
  exact bodyPost_ret (v := .tuple #[.agg #[.int .i64 gv.1.1, .int .i64 gv.1.2.1, .string gv.1.2.2], .bool gv.2]) (by simp [results, Try.f9, go_sem, s0, s1, s2]) rfl ⟨rfl, h3, h4⟩

set_option maxRecDepth 100000 in
set_option maxHeartbeats 1000000 in
theorem onDown_any {mb ob gb : Nat} {t u : Tr (Int × Int × ByteArray)} (ref : Int) (w : World) (h : MAt w mb ob gb t u) (hm : t.many < 1000000000) :
    Calls Try.prog 10 #[.pointer (some ⟨mb, 0, none⟩), .int .i64 ref] w fun e w' =>
      e = .returned (.tuple #[.agg #[.int .i64 ((getR t ref).1).1, .int .i64 ((getR t ref).1).2.1, .string ((getR t ref).1).2.2], .bool (getR t ref).2]) ∧ MAt w' mb ob gb (dropped t ref) u ∧ Mod (fun k => k = ob) w w' := by
  have hE0 : Ext w (w.alloc (.cells #[.int .i64 0, .int .i64 0, .string ⟨#[]⟩] 31)) := (Ext.refl w).alloc _
  have hz0 : Box3 (w.alloc (.cells #[.int .i64 0, .int .i64 0, .string ⟨#[]⟩] 31)) w.heap.size (0, 0, ⟨#[]⟩) := heap_alloc_new w _
  have hd := demonitor_any ref _ (h.ext hE0) hm
  obtain ⟨gv, hgv⟩ : ∃ gv, getR t ref = gv := ⟨_, rfl⟩
  rw [hgv] at hd ⊢
  have HZ := Lib.hid hz0
  have HE0 := Lib.hid hE0
  have hob := treeAt_lt h.org
  clear h hE0 hgv hz0
  go_enter Try.func10, Try.ntmps10
  go_wp2_with fail
  refine hd.mono ?_
  rintro e w2 ⟨rfl, hA2, hM2⟩
  have hz3 : Box3 w2 w.heap.size (0, 0, ⟨#[]⟩) := hM2.keep HZ.out (by omega)
  have hM3 := (mod_of_ext HE0.out).trans hM2 (fun _ _ h => h)
  obtain ⟨q0, q1, q2, r0, r1, r2⟩ := hz3.cells
  obtain ⟨s0, s1, s2, _, _, _⟩ := (set3_box hz3 gv.1).cells
  have HMA := Lib.hid (hA2.set3 hz3 gv.1)
  have HM := Lib.hid (set3_mod hM3 (.inr (Nat.le_refl _)) gv.1)
  have S0 := Lib.hid s0
  have S1 := Lib.hid s1
  have S2 := Lib.hid s2
  clear hA2 hM3 hM2 hz3 s0 s1 s2 hd
  go_wp2_with fail
  have s0 := S0.out
  have s1 := S1.out
  have s2 := S2.out
  have h3 := HMA.out
  have h4 := HM.out
  unfold Go.Proofs.Ytjgpoggbakanlaa.set3 at s0 s1 s2 h3 h4
  exact bodyPost_ret (v := .tuple #[.agg #[.int .i64 gv.1.1, .int .i64 gv.1.2.1, .string gv.1.2.2], .bool gv.2]) (by simp [results, Try.f10, go_sem, s0, s1, s2]) rfl ⟨rfl, h3, h4⟩

set_option maxRecDepth 100000 in
set_option maxHeartbeats 1000000 in
theorem onDemonitor_any {mb ob gb : Nat} {t u : Tr (Int × Int × ByteArray)} (ref : Int) (w : World) (h : MAt w mb ob gb t u) (hm : u.many < 1000000000) :
    Calls Try.prog 12 #[.pointer (some ⟨mb, 0, none⟩), .int .i64 ref] w fun e w' =>
      e = .returned (.bool (getR u ref).2) ∧ MAt w' mb ob gb t (dropped u ref) ∧ Mod (fun k => k = gb) w w' := by
  have c1 := h.cell1
  obtain ⟨gv, hgv⟩ : ∃ gv, getR u ref = gv := ⟨_, rfl⟩
  have htk := taker1_any ref (w.alloc (.cells #[.pointer (some ⟨gb, 0, none⟩)] 61)) (heap_alloc_new w _) (TreeAt.ext ((Ext.refl w).alloc _) h.tgt) hm h.su
  rw [hgv] at htk ⊢
  have H := Lib.hid h
  clear h hgv
  go_enter Try.func12, Try.ntmps12
  go_wp2_with (go_at_call 24; (with_reducible refine (taker_any _).mono ?_); rintro e w' ⟨rfl, rfl⟩)
  refine htk.mono ?_
  rintro e w2 ⟨rfl, ht3, hM3⟩
  have hM4 : Mod (fun k => k = gb) w w2 := (mod_of_ext ((Ext.refl w).alloc _)).trans hM3 (fun _ _ h => h)
  have hq := keys_drop H.out.su H.out.ku ref
  have HMA := Lib.hid (H.out.modG hM4 ht3 hq.1 hq.2)
  have HM := Lib.hid hM4
  clear ht3 hM3 htk hq hM4
  go_wp2_with fail
  go_ret
  exact ⟨rfl, HMA.out.ext ((Ext.refl w2).alloc _), HM.out.alloc _⟩

set_option maxRecDepth 100000 in
set_option maxHeartbeats 1000000 in
theorem popTarget_any {mb ob gb : Nat} {t u : Tr (Int × Int × ByteArray)} (w : World) (h : MAt w mb ob gb t u) (hm : u.many < 1000000000) :
    Calls Try.prog 13 #[.pointer (some ⟨mb, 0, none⟩)] w fun e w' =>
      e = .returned (.tuple #[.agg #[.int .i64 ((getR u (firstK u.list)).1).1, .int .i64 ((getR u (firstK u.list)).1).2.1, .string ((getR u (firstK u.list)).1).2.2], .bool (getR u (firstK u.list)).2]) ∧ MAt w' mb ob gb t (dropped u (firstK u.list)) ∧ Mod (fun k => k = gb) w w' := by
  have hE0 : Ext w (w.alloc (.cells #[.int .i64 0, .int .i64 0, .string ⟨#[]⟩] 31)) := (Ext.refl w).alloc _
  have hz0 : Box3 (w.alloc (.cells #[.int .i64 0, .int .i64 0, .string ⟨#[]⟩] 31)) w.heap.size (0, 0, ⟨#[]⟩) := heap_alloc_new w _
  have c1 := (h.ext hE0).cell1
  obtain ⟨key, hkey⟩ : ∃ key, firstK u.list = key := ⟨_, rfl⟩
  obtain ⟨gv, hgv⟩ : ∃ gv, getR u key = gv := ⟨_, rfl⟩
  have hE1 := hE0.alloc (.cells #[.pointer (some ⟨gb, 0, none⟩)] 61)
  have hn := heap_alloc_new (w.alloc (.cells #[.int .i64 0, .int .i64 0, .string ⟨#[]⟩] 31)) (.cells #[.pointer (some ⟨gb, 0, none⟩)] 61)
  rw [World.size_alloc] at hn
  have htk := popper1_any _ hn (TreeAt.ext hE1 h.tgt) hm h.su h.ku
  rw [hkey, hgv] at htk
  rw [hkey, hgv]
  have hgb := treeAt_lt h.tgt
  have HZ := Lib.hid (hz0.alloc (.cells #[.pointer (some ⟨gb, 0, none⟩)] 61))
  have HE1 := Lib.hid hE1
  have H := Lib.hid h
  clear h hE0 hgv hz0 hkey hn hE1
  go_enter Try.func13, Try.ntmps13
  go_wp2_with (go_at_call 25; (with_reducible refine (popper_any _).mono ?_); rintro e w' ⟨rfl, rfl⟩)
  refine htk.mono ?_
  rintro e w2 ⟨rfl, ht3, hM3⟩
  have hz3 : Box3 w2 w.heap.size (0, 0, ⟨#[]⟩) := hM3.keep HZ.out (by omega)
  have hM5 : Mod (fun k => k = gb) w w2 := (mod_of_ext HE1.out).trans hM3 (fun _ _ h => h)
  obtain ⟨q0, q1, q2, r0, r1, r2⟩ := hz3.cells
  obtain ⟨s0, s1, s2, _, _, _⟩ := (set3_box hz3 gv.1).cells
  have hM4 := set3_mod hM5 (.inr (Nat.le_refl _)) gv.1
  have hq := keys_drop H.out.su H.out.ku key
  have HMA := Lib.hid (H.out.modG hM4 (set3_tree hz3 ht3 gv.1) hq.1 hq.2)
  have HM := Lib.hid hM4
  have S0 := Lib.hid s0
  have S1 := Lib.hid s1
  have S2 := Lib.hid s2
  clear ht3 hM3 hM5 hz3 s0 s1 s2 htk hq hM4
  go_wp2_with fail
  have s0 := S0.out
  have s1 := S1.out
  have s2 := S2.out
  have h3 := HMA.out
  have h4 := HM.out
  unfold set3 at s0 s1 s2 h3 h4
  exact bodyPost_ret (v := .tuple #[.agg #[.int .i64 gv.1.1, .int .i64 gv.1.2.1, .string gv.1.2.2], .bool gv.2]) (by simp [results, Try.f13, go_sem, s0, s1, s2]) rfl ⟨rfl, h3, h4⟩

set_option maxRecDepth 100000 in
set_option maxHeartbeats 1000000 in
theorem mlen_any {mb ob gb : Nat} {t u : Tr (Int × Int × ByteArray)} (w : World) (h : MAt w mb ob gb t u) :
    Calls Try.prog 14 #[.pointer (some ⟨mb, 0, none⟩)] w fun e w' => e = .returned (.tuple #[.int .i64 t.many, .int .i64 u.many]) ∧ ∃ n, w' = w.drewN n := by
  have c0 := h.cell0
  have c1 := h.cell1
  have hl1 : ∀ k, Calls Try.prog 26 #[.pointer (some ⟨ob, 0, none⟩)] (w.drewN k) fun e w' => e = .returned (.int .i64 t.many) ∧ w.drewN k = w' := fun k => len_any _ (TreeAt.ext ((Ext.refl w).drewN k) h.org)
  have hl2 : ∀ k, Calls Try.prog 26 #[.pointer (some ⟨gb, 0, none⟩)] (w.drewN k) fun e w' => e = .returned (.int .i64 u.many) ∧ w.drewN k = w' := fun k => len_any _ (TreeAt.ext ((Ext.refl w).drewN k) h.tgt)
  clear h
  go_enter Try.func14, Try.ntmps14
  go_wp2_with fail
  go_quiet ((first
    | (go_at_call 26; (with_reducible refine quiet_of_eq (hl1 _)))
    | (go_at_call 26; (with_reducible refine quiet_of_eq (hl2 _)))))
  go_wp2_with fail
  go_ret2
  exact ⟨rfl, _, rfl⟩

set_option maxRecDepth 100000 in
set_option maxHeartbeats 1000000 in
theorem mnew_any (w : World) : Calls Try.prog 7 #[] w fun e w' => ∃ mb ob gb, e = .returned (.pointer (some ⟨mb, 0, none⟩)) ∧ MAt w' mb ob gb .nil .nil ∧ Ext w w' ∧ w.heap.size ≤ mb ∧ w.heap.size ≤ ob ∧ w.heap.size ≤ gb := by
  go_enter Try.func7, Try.ntmps7
  go_wp2_with fail
  refine (new_any _).mono ?_
  rintro e w1 ⟨rfl, ht1, hE1⟩
  go_wp2_with fail
  refine (new_any _).mono ?_
  rintro e w2 ⟨rfl, ht2, hE2⟩
  have HA := Lib.hid (And.intro ht1 (And.intro ht2 (And.intro hE1 hE2)))
  clear ht1 ht2 hE1 hE2
  go_wp2_with fail
  go_ret
  obtain ⟨ht1, ht2, hE1, hE2⟩ := HA.out
  have s1 := Ext.size hE1
  have s2 := Ext.size hE2
  have l1 := treeAt_lt ht1
  have hE3 : Ext w2 (w2.alloc (.cells #[.pointer (some ⟨w.heap.size, 0, none⟩), .pointer (some ⟨w1.heap.size, 0, none⟩)] 64)) := (Ext.refl w2).alloc _
  exact ⟨w2.heap.size, w.heap.size, w1.heap.size, rfl, ⟨heap_alloc_new w2 _, TreeAt.ext (hE2.trans hE3) ht1, TreeAt.ext hE3 ht2, by omega, trivial, trivial, (fun _ h => by cases h), (fun _ h => by cases h)⟩, (hE1.trans hE2).trans hE3, by omega, Nat.le_refl _, s1⟩

end Go.Proofs.Ytjgpoggbakanlaa
