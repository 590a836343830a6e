/- The walks of put, least, drop on nodes. -/
import Derived.Test.YtjgpoggbakanlaaVTreeEven
import Derived.Deep.LoopGhost
namespace Go.Proofs.Ytjgpoggbakanlaa
open Go.RowKit
attribute [local irreducible] Ext

/-- A value in a box. -/
theorem box_cells {w : World} {b : Nat} {x : (Int × Int × ByteArray)} (hb : w.heap[b]? = some (.cells #[.int .i64 x.1, .int .i64 x.2.1, .string x.2.2] 31 (0, 0))) :
    ∀ w', Ext w w' → w'.cell? ⟨b, 0, none⟩ = some (.int .i64 x.1) ∧ w'.cell? ⟨b, 1, none⟩ = some (.int .i64 x.2.1) ∧ w'.cell? ⟨b, 2, none⟩ = some (.string x.2.2) := by
  intro w' hE
  have hb' := hE.keep hb
  simp [cell_of_heap hb']

set_option maxHeartbeats 4000000 in
theorem put_any (key : Int) (x : (Int × Int × ByteArray)) : ∀ (t : Tr (Int × Int × ByteArray)) (p : Option Addr) (w : World), IsTree w p t → t.many < 1000000000 →
    Calls Try.prog 54 #[.pointer p, .int .i64 key, .agg #[.int .i64 x.1, .int .i64 x.2.1, .string x.2.2]] w (Makes (.put key x t) w) := by
  intro t
  induction t with
  | nil =>
    intro p w ht hb
    obtain rfl : p = none := ht
    go_enter Try.func54, Try.ntmps54
    go_wp2_with fail
    go_ret
    have h := heap_alloc_new (w.alloc (.cells #[.int .i64 x.1, .int .i64 x.2.1, .string x.2.2] 31)) (.cells (nodeCells key x none none 1 1) 104)
    rw [World.size_alloc] at h
    exact ⟨_, rfl, ⟨w.heap.size + 1, none, none, rfl, h, rfl, rfl⟩, ((Ext.refl w).alloc _).alloc _⟩
  | node l k v r ihl ihr =>
    intro p w ht hb
    obtain ⟨b, pl, pr, rfl, hb0, hl, hr⟩ := ht
    have hc := node_cells hb0
    have hE1 : Ext w (w.alloc (.cells #[.int .i64 x.1, .int .i64 x.2.1, .string x.2.2] 31)) := (Ext.refl w).alloc _
    have hb1 := heap_alloc_new w (.cells #[.int .i64 x.1, .int .i64 x.2.1, .string x.2.2] 31)
    have c0 := (hc _ hE1).1
    have hm1 := l.many_nonneg
    have hm2 := r.many_nonneg
    have hmm : (Tr.node l k v r).many = 1 + l.many + r.many := rfl
    have hnode : IsNode w b k v := ⟨_, _, _, _, hb0⟩
    by_cases h1 : key < k
    · have hR : Tr.put key x (.node l k v r) = .even k v (.put key x l) r := by simp only [Tr.put, if_pos h1]
      rw [hR]
      have hp := l.many_put key x
      have hw1 : ∀ w', Ext w w' → Calls Try.prog 54 #[.pointer pl, .int .i64 key, .agg #[.int .i64 x.1, .int .i64 x.2.1, .string x.2.2]] w' (Makes (.put key x l) w') := fun w' h => ihl pl w' (hl.ext h) (by omega)
      have hw2 : ∀ w' p1, Ext w w' → IsTree w' p1 (.put key x l) → Calls Try.prog 63 #[.pointer (some ⟨b, 0, none⟩), .pointer p1, .pointer pr] w' (Makes (.even k v (.put key x l) r) w') := fun w' p1 h ht =>
        even_any (hnode.ext h) ht (hr.ext h) (by omega)
      clear hR hp hb0 hl hr hm1 hm2 hmm hnode ihl ihr hb
      go_enter Try.func54, Try.ntmps54
      go_wp2_with fail
      generalize w.alloc (.cells #[.int .i64 x.1, .int .i64 x.2.1, .string x.2.2] 31) = wb at hE1 hb1 ⊢
      have hx := fun w' (h : Ext wb w') => box_cells hb1 w' h
      have hx0 := fun w' h => (hx w' h).1
      have hx1 := fun w' h => (hx w' h).2.1
      have hx2 := fun w' h => (hx w' h).2.2
      have hc2 := fun w' (h : Ext wb w') => (hc w' (hE1.trans h)).2.2.1
      have hc3 := fun w' (h : Ext wb w') => (hc w' (hE1.trans h)).2.2.2.1
      have hv1 := fun w' (h : Ext wb w') => hw1 w' (hE1.trans h)
      have hv2 := fun w' p1 (h : Ext wb w') => hw2 w' p1 (hE1.trans h)
      have hEb := Ext.refl wb
      clear hw1 hw2 hc hx c0 hb1
      go_region_held3 (fun w' => Ext wb w') (first | assumption | (repeat (first | assumption | apply Ext.drew | apply Ext.drewN)))
        (first
          | (go_at_call 54; (with_reducible refine (hv1 _ ?_).mono ?_); assumption; rintro e w1 ⟨p1, rfl, ht1, hF1⟩; have hW1 : Ext wb w1 := Ext.trans (by assumption) hF1)
          | (go_at_call 63; (with_reducible refine (hv2 _ _ ?_ ?_).mono ?_); assumption; assumption; rintro e w2 ⟨p2, rfl, ht2, hF2⟩; have hW2 : Ext wb w2 := Ext.trans (by assumption) hF2))
      go_wp2_with fail
      go_ret
      exact ⟨_, rfl, ht2, hE1.trans hW2⟩
    · by_cases h2 : k < key
      · have hR : Tr.put key x (.node l k v r) = .even k v l (.put key x r) := by simp only [Tr.put, if_neg h1, if_pos h2]
        rw [hR]
        have h1' : k ≤ key := by omega
        clear h1
        have hp := r.many_put key x
        have hw1 : ∀ w', Ext w w' → Calls Try.prog 54 #[.pointer pr, .int .i64 key, .agg #[.int .i64 x.1, .int .i64 x.2.1, .string x.2.2]] w' (Makes (.put key x r) w') := fun w' h => ihr pr w' (hr.ext h) (by omega)
        have hw2 : ∀ w' p1, Ext w w' → IsTree w' p1 (.put key x r) → Calls Try.prog 63 #[.pointer (some ⟨b, 0, none⟩), .pointer pl, .pointer p1] w' (Makes (.even k v l (.put key x r)) w') := fun w' p1 h ht =>
          even_any (hnode.ext h) (hl.ext h) ht (by omega)
        clear hR hp hb0 hl hr hm1 hm2 hmm hnode ihl ihr hb
        go_enter Try.func54, Try.ntmps54
        go_wp2_with fail
        generalize w.alloc (.cells #[.int .i64 x.1, .int .i64 x.2.1, .string x.2.2] 31) = wb at hE1 hb1 ⊢
        have hx := fun w' (h : Ext wb w') => box_cells hb1 w' h
        have hx0 := fun w' h => (hx w' h).1
        have hx1 := fun w' h => (hx w' h).2.1
        have hx2 := fun w' h => (hx w' h).2.2
        have hc2 := fun w' (h : Ext wb w') => (hc w' (hE1.trans h)).2.2.1
        have hc3 := fun w' (h : Ext wb w') => (hc w' (hE1.trans h)).2.2.2.1
        have hv1 := fun w' (h : Ext wb w') => hw1 w' (hE1.trans h)
        have hv2 := fun w' p1 (h : Ext wb w') => hw2 w' p1 (hE1.trans h)
        have hEb := Ext.refl wb
        clear hw1 hw2 hc hx c0 hb1
        go_region_held3 (fun w' => Ext wb w') (first | assumption | (repeat (first | assumption | apply Ext.drew | apply Ext.drewN)))
          (first
            | (go_at_call 54; (with_reducible refine (hv1 _ ?_).mono ?_); assumption; rintro e w1 ⟨p1, rfl, ht1, hF1⟩; have hW1 : Ext wb w1 := Ext.trans (by assumption) hF1)
            | (go_at_call 63; (with_reducible refine (hv2 _ _ ?_ ?_).mono ?_); assumption; assumption; rintro e w2 ⟨p2, rfl, ht2, hF2⟩; have hW2 : Ext wb w2 := Ext.trans (by assumption) hF2))
        go_wp2_with fail
        go_ret
        exact ⟨_, rfl, ht2, hE1.trans hW2⟩
      · obtain rfl : k = key := by omega
        have hR : Tr.put k x (.node l k v r) = .node l k x r := by simp only [Tr.put, Int.lt_irrefl, if_false]
        rw [hR]
        have hw1 : ∀ w' n0, Ext w w' → IsNode w' n0 k x → Calls Try.prog 64 #[.pointer (some ⟨n0, 0, none⟩), .pointer pl, .pointer pr] w' (Makes (.node l k x r) w') := fun w' n0 h hn =>
          with_node hn (hl.ext h) (hr.ext h) (by omega)
        clear hR hb0 hl hr hm1 hm2 hmm hnode ihl ihr hb h1 h2
        go_enter Try.func54, Try.ntmps54
        go_wp2_with fail
        generalize w.alloc (.cells #[.int .i64 x.1, .int .i64 x.2.1, .string x.2.2] 31) = wb at hE1 hb1 ⊢
        have hx := fun w' (h : Ext wb w') => box_cells hb1 w' h
        have hx0 := fun w' h => (hx w' h).1
        have hx1 := fun w' h => (hx w' h).2.1
        have hx2 := fun w' h => (hx w' h).2.2
        have hc2 := fun w' (h : Ext wb w') => (hc w' (hE1.trans h)).2.2.1
        have hc3 := fun w' (h : Ext wb w') => (hc w' (hE1.trans h)).2.2.2.1
        have hv1 := fun w' n0 (h : Ext wb w') => hw1 w' n0 (hE1.trans h)
        have hEb := Ext.refl wb
        clear hw1 hc hx c0 hb1
        go_region_held3 (fun w' => Ext wb w') (first | assumption | (repeat (first | assumption | apply Ext.drew | apply Ext.drewN | apply Ext.alloc)))
          (first
            | (go_at_call 64; (with_reducible refine (hv1 _ _ ?_ ?_).mono ?_); assumption; exact ⟨none, none, 0, 0, heap_alloc_new _ _⟩; rintro e w1 ⟨p1, rfl, ht1, hF1⟩; have hW1 : Ext wb w1 := Ext.trans (by assumption) hF1))
        go_wp2_with fail
        go_ret
        exact ⟨_, rfl, ht1, hE1.trans hW1⟩

def Tr.size {α : Type} : Tr α → Nat
  | .nil => 0
  | .node l _ _ r => 1 + l.size + r.size

/-- What the walk to the least node stands at. -/
def AtLeast (w : World) (d : Int × (Int × Int × ByteArray)) (g : Nat) (s : Value) : Prop :=
  ∃ (d' : Int × (Int × Int × ByteArray)) (l : Tr (Int × Int × ByteArray)) (k : Int) (v : (Int × Int × ByteArray)) (r : Tr (Int × Int × ByteArray)) (p : Option Addr), s = .pointer p ∧ IsTree w p (.node l k v r) ∧ Tr.least d' (.node l k v r) = d ∧ (Tr.node l k v r).size ≤ g

def Finds (w : World) (d : Int × (Int × Int × ByteArray)) (e : Ending) (w' : World) : Prop := ∃ b, e = .returned (.pointer (some ⟨b, 0, none⟩)) ∧ IsNode w b d.1 d.2 ∧ w = w'

set_option maxHeartbeats 1000000 in
theorem least_any (d : Int × (Int × Int × ByteArray)) (l : Tr (Int × Int × ByteArray)) (k : Int) (v : (Int × Int × ByteArray)) (r : Tr (Int × Int × ByteArray)) (p : Option Addr) (w : World) (ht : IsTree w p (.node l k v r)) :
    Calls Try.prog 65 #[.pointer p] w (Finds w (Tr.least d (.node l k v r))) := by
  generalize hD : Tr.least d (.node l k v r) = D
  go_enter Try.func65, Try.ntmps65
  go_wp2_with fail
  go_loopg [0] (Tr.node l k v r).size (fun g s wr => w = wr ∧ AtLeast w D g s)
  case atStart => exact ⟨rfl, d, l, k, v, r, p, rfl, ht, hD, Nat.le_refl _⟩
  case round =>
    clear ht hD
    obtain ⟨rfl, d', l, k, v, r, p, rfl, ht, hD, hg⟩ := hrel
    obtain ⟨b, pl, pr, rfl, hb, hl, hr⟩ := ht
    have hc2 := (node_cells hb w (Ext.refl w)).2.2.1
    have hn : IsNode w b k v := ⟨_, _, _, _, hb⟩
    cases l with
    | nil =>
      obtain rfl : pl = none := hl
      simp only [Tr.least] at hD
      subst hD
      clear hb hr hg
      go_wp2_with fail
      go_ret
      exact ⟨b, rfl, hn, rfl⟩
    | node ll lk lv lr =>
      have hl' := hl
      obtain ⟨b2, pl2, pr2, rfl, _⟩ := hl
      have hg' : (Tr.node ll lk lv lr).size + 1 ≤ gk := by simp only [Tr.size] at hg ⊢; omega
      have HD := Lib.hid hD
      clear hb hr hg hn hD
      go_wp2_with fail
      go_roundg (Tr.node ll lk lv lr).size
      case measure => omega
      case rel => exact ⟨rfl, (k, v), ll, lk, lv, lr, _, rfl, hl', HD.out, Nat.le_refl _⟩

namespace Tr
variable {α : Type}

/-- The key is in the tree, where the walk looks for it. -/
def has (key : Int) : Tr α → Prop
  | .nil => False
  | .node l k _ r => if key < k then l.has key else if k < key then r.has key else True

/-- Each key stands where it is looked for. -/
def sorted : Tr α → Prop
  | .nil => True
  | .node l k _ r => l.sorted ∧ r.sorted ∧ (∀ x ∈ l.list, x.1 < k) ∧ (∀ x ∈ r.list, k < x.1)

theorem least_mem (d : Int × α) (l : Tr α) (k : Int) (v : α) (r : Tr α) : least d (.node l k v r) ∈ (Tr.node l k v r).list := by
  induction l generalizing d k v r with
  | nil => simp [least, list]
  | node ll lk lv lr ihl ihr =>
    have := ihl (k, v) lk lv lr
    simp only [least] at this ⊢
    simp only [list] at this ⊢
    exact List.mem_append_left _ this

theorem has_of_mem {t : Tr α} (hs : t.sorted) {x : Int × α} (hx : x ∈ t.list) : t.has x.1 := by
  induction t with
  | nil => simp [list] at hx
  | node l k v r ihl ihr =>
    obtain ⟨h1, h2, h3, h4⟩ := hs
    simp only [list, List.mem_append, List.mem_cons] at hx
    simp only [has]
    rcases hx with hx | hx | hx
    · rw [if_pos (h3 x hx)]
      exact ihl h1 hx
    · subst hx
      simp
    · have := h4 x hx
      rw [if_neg (by omega), if_pos this]
      exact ihr h2 hx

theorem many_drop (t : Tr α) (key : Int) : (drop t key).many ≤ t.many := by
  induction t generalizing key with
  | nil => simp [drop]
  | node l k v r ihl ihr =>
    have h1 := l.many_nonneg
    have h2 := r.many_nonneg
    simp only [drop]
    split
    · rw [many_even]; have := ihl key; simp only [many]; omega
    · split
      · rw [many_even]; have := ihr key; simp only [many]; omega
      · split
        · simp only [many]; omega
        · split
          · simp only [many]; omega
          · rw [many_even]; have := ihr (least (k, v) r).1; simp only [many]; omega

end Tr

theorem isNil_of {w : World} {t : Tr (Int × Int × ByteArray)} {p : Option Addr} (h : IsTree w p t) : (p = none ∧ t = .nil) ∨ (∃ b, p = some ⟨b, 0, none⟩) ∧ ∃ l k v r, t = .node l k v r := by
  cases t with
  | nil => exact .inl ⟨h, rfl⟩
  | node l k v r =>
    obtain ⟨b, pl, pr, rfl, _⟩ := h
    exact .inr ⟨⟨b, rfl⟩, l, k, v, r, rfl⟩

set_option maxHeartbeats 4000000 in
theorem drop_any : ∀ (t : Tr (Int × Int × ByteArray)) (key : Int) (p : Option Addr) (w : World), IsTree w p t → t.many < 1000000000 → t.sorted → t.has key →
    Calls Try.prog 55 #[.pointer p, .int .i64 key] w (Makes (t.drop key) w) := by
  intro t
  induction t with
  | nil => exact fun _ _ _ _ _ _ h => h.elim
  | node l k v r ihl ihr =>
    intro key p w ht hb hs hh
    obtain ⟨b, pl, pr, rfl, hb0, hl, hr⟩ := ht
    have hc := node_cells hb0
    have hc2 := fun w' h => (hc w' h).2.2.1
    have hc3 := fun w' h => (hc w' h).2.2.2.1
    have hE := Ext.refl w
    have c0 := (hc w hE).1
    have c2 := hc2 w hE
    have c3 := hc3 w hE
    have hm1 := l.many_nonneg
    have hm2 := r.many_nonneg
    have hmm : (Tr.node l k v r).many = 1 + l.many + r.many := rfl
    have hnode : IsNode w b k v := ⟨_, _, _, _, hb0⟩
    obtain ⟨hs1, hs2, hs3, hs4⟩ := hs
    by_cases h1 : key < k
    · have hR : Tr.drop (.node l k v r) key = .even k v (l.drop key) r := by simp only [Tr.drop, if_pos h1]
      have hh' : l.has key := by simpa only [Tr.has, if_pos h1] using hh
      rw [hR]
      have hp := l.many_drop key
      have hw1 : ∀ w', Ext w w' → Calls Try.prog 55 #[.pointer pl, .int .i64 key] w' (Makes (l.drop key) w') := fun w' h => ihl key pl w' (hl.ext h) (by omega) hs1 hh'
      have hw2 : ∀ w' p1, Ext w w' → IsTree w' p1 (l.drop key) → Calls Try.prog 63 #[.pointer (some ⟨b, 0, none⟩), .pointer p1, .pointer pr] w' (Makes (.even k v (l.drop key) r) w') := fun w' p1 h ht =>
        even_any (hnode.ext h) ht (hr.ext h) (by omega)
      clear hR hp hc hb0 hl hr hm1 hm2 hmm hnode ihl ihr hb hs1 hs2 hs3 hs4 hh hh' c2 c3
      go_enter Try.func55, Try.ntmps55
      go_wp2_with fail
      go_region_held3 (fun w' => Ext w w') (first | assumption | (repeat (first | assumption | apply Ext.drew | apply Ext.drewN)))
        (first
          | (go_at_call 55; (with_reducible refine (hw1 _ ?_).mono ?_); assumption; rintro e w1 ⟨p1, rfl, ht1, hE1⟩; have hW1 : Ext w w1 := Ext.trans (by assumption) hE1)
          | (go_at_call 63; (with_reducible refine (hw2 _ _ ?_ ?_).mono ?_); assumption; assumption; rintro e w2 ⟨p2, rfl, ht2, hE2⟩; have hW2 : Ext w w2 := Ext.trans (by assumption) hE2))
      go_wp2_with fail
      go_ret
      exact ⟨_, rfl, ht2, hW2⟩
    · by_cases h2 : k < key
      · have hR : Tr.drop (.node l k v r) key = .even k v l (r.drop key) := by simp only [Tr.drop, if_neg h1, if_pos h2]
        have hh' : r.has key := by simpa only [Tr.has, if_neg h1, if_pos h2] using hh
        rw [hR]
        have hp := r.many_drop key
        have hw1 : ∀ w', Ext w w' → Calls Try.prog 55 #[.pointer pr, .int .i64 key] w' (Makes (r.drop key) w') := fun w' h => ihr key pr w' (hr.ext h) (by omega) hs2 hh'
        have hw2 : ∀ w' p1, Ext w w' → IsTree w' p1 (r.drop key) → Calls Try.prog 63 #[.pointer (some ⟨b, 0, none⟩), .pointer pl, .pointer p1] w' (Makes (.even k v l (r.drop key)) w') := fun w' p1 h ht =>
          even_any (hnode.ext h) (hl.ext h) ht (by omega)
        have h1' : k ≤ key := by omega
        clear hR hp hc hb0 hl hr hm1 hm2 hmm hnode ihl ihr hb hs1 hs2 hs3 hs4 hh hh' c2 c3 h1
        go_enter Try.func55, Try.ntmps55
        go_wp2_with fail
        go_region_held3 (fun w' => Ext w w') (first | assumption | (repeat (first | assumption | apply Ext.drew | apply Ext.drewN)))
          (first
            | (go_at_call 55; (with_reducible refine (hw1 _ ?_).mono ?_); assumption; rintro e w1 ⟨p1, rfl, ht1, hE1⟩; have hW1 : Ext w w1 := Ext.trans (by assumption) hE1)
            | (go_at_call 63; (with_reducible refine (hw2 _ _ ?_ ?_).mono ?_); assumption; assumption; rintro e w2 ⟨p2, rfl, ht2, hE2⟩; have hW2 : Ext w w2 := Ext.trans (by assumption) hE2))
        go_wp2_with fail
        go_ret
        exact ⟨_, rfl, ht2, hW2⟩
      · obtain rfl : k = key := by omega
        clear h1 h2 hh
        rcases isNil_of hl with ⟨rfl, rfl⟩ | ⟨⟨bl, rfl⟩, ll, lk, lv, lr, rfl⟩
        · have hR : Tr.drop (.node .nil k v r) k = r := by simp only [Tr.drop, Int.lt_irrefl, if_false, Tr.isNil, if_true]
          rw [hR]
          clear hR hc hb0 hl hm1 hm2 hmm hnode ihl ihr hb hs1 hs2 hs3 hs4 hc2 hc3
          go_enter Try.func55, Try.ntmps55
          go_wp2_with fail
          go_ret
          exact ⟨_, rfl, hr, hE⟩
        · rcases isNil_of hr with ⟨rfl, rfl⟩ | ⟨⟨br, rfl⟩, rl, rk, rv, rr, rfl⟩
          · have hR : Tr.drop (.node (.node ll lk lv lr) k v .nil) k = .node ll lk lv lr := by simp only [Tr.drop, Int.lt_irrefl, if_false, Tr.isNil, Bool.false_eq_true, if_true]
            rw [hR]
            clear hR hc hb0 hr hm1 hm2 hmm hnode ihl ihr hb hs1 hs2 hs3 hs4 hc2 hc3
            go_enter Try.func55, Try.ntmps55
            go_wp2_with fail
            go_ret
            exact ⟨_, rfl, hl, hE⟩
          · have hle := least_any (k, v) rl rk rv rr _ w hr
            have hmem := Tr.least_mem (k, v) rl rk rv rr
            have hhas := Tr.has_of_mem hs2 hmem
            generalize hT : Tr.node rl rk rv rr = T at *
            generalize hT2 : Tr.node ll lk lv lr = T2 at *
            have hR : Tr.drop (.node T2 k v T) k = .even (Tr.least (k, v) T).1 (Tr.least (k, v) T).2 T2 (T.drop (Tr.least (k, v) T).1) := by
              rw [← hT, ← hT2]
              simp only [Tr.drop, Int.lt_irrefl, if_false, Tr.isNil, Bool.false_eq_true]
            rw [hR]
            generalize Tr.least (k, v) T = m at *
            have hp := T.many_drop m.1
            have hw1 : ∀ w', Ext w w' → Calls Try.prog 55 #[.pointer (some ⟨br, 0, none⟩), .int .i64 m.1] w' (Makes (T.drop m.1) w') := fun w' h => ihr m.1 _ w' (hr.ext h) (by omega) hs2 hhas
            clear hR hc hb0 hnode ihl ihr hs1 hs2 hs3 hs4 hT hT2 hmem hhas
            go_enter Try.func55, Try.ntmps55
            go_wp2_with (go_at_call 65; (with_reducible refine hle.mono ?_); rintro e w' ⟨nb, rfl, hn, rfl⟩)
            have hn0 := hn
            obtain ⟨npl, npr, nh, nn, hnb⟩ := hn
            have hn1 := fun w' h => (node_cells hnb w' h).1
            have hw2 : ∀ w' p1, Ext w w' → IsTree w' p1 (T.drop m.1) → Calls Try.prog 63 #[.pointer (some ⟨nb, 0, none⟩), .pointer (some ⟨bl, 0, none⟩), .pointer p1] w' (Makes (.even m.1 m.2 T2 (T.drop m.1)) w') := fun w' p1 h ht =>
              even_any (hn0.ext h) (hl.ext h) ht (by omega)
            clear hl hr hm1 hm2 hmm hb hle hn0 hnb hp
            go_region_held3 (fun w' => Ext w w') (first | assumption | (repeat (first | assumption | apply Ext.drew | apply Ext.drewN)))
              (first
                | (go_at_call 55; (with_reducible refine (hw1 _ ?_).mono ?_); assumption; rintro e w1 ⟨p1, rfl, ht1, hE1⟩; have hW1 : Ext w w1 := Ext.trans (by assumption) hE1)
                | (go_at_call 63; (with_reducible refine (hw2 _ _ ?_ ?_).mono ?_); assumption; assumption; rintro e w2 ⟨p2, rfl, ht2, hE2⟩; have hW2 : Ext w w2 := Ext.trans (by assumption) hE2))
            go_wp2_with fail
            go_ret
            exact ⟨_, rfl, ht2, hW2⟩

end Go.Proofs.Ytjgpoggbakanlaa
