/- Plain: the balanced tree is a rising list; how many keys a height wants. -/
import Derived.Test.YtjgpoggbakanlaaVTreeFirst
namespace Go.Proofs.Ytjgpoggbakanlaa

/-- The document's list: keys that rise. -/
def Rising {α : Type} (L : List (Int × α)) : Prop := L.Pairwise (fun a b => a.1 < b.1)

/-- A key put into a rising list. -/
def ins {α : Type} (key : Int) (x : α) : List (Int × α) → List (Int × α)
  | [] => [(key, x)]
  | a :: L => if a.1 < key then a :: ins key x L else if a.1 = key then (key, x) :: L else (key, x) :: a :: L

/-- A key taken out of a rising list. -/
def del {α : Type} (key : Int) : List (Int × α) → List (Int × α)
  | [] => []
  | a :: L => if a.1 < key then a :: del key L else if a.1 = key then L else a :: L

/-- What a key has. -/
def look {α : Type} (key : Int) : List (Int × α) → Option α
  | [] => none
  | a :: L => if a.1 = key then some a.2 else look key L

theorem Rising.cons {α : Type} {a : Int × α} {L : List (Int × α)} (h : Rising (a :: L)) : (∀ b ∈ L, a.1 < b.1) ∧ Rising L := List.pairwise_cons.1 h

theorem rising_append {α : Type} {A B : List (Int × α)} {k : Int} {v : α} (hA : Rising A) (hB : Rising B) (h1 : ∀ x ∈ A, x.1 < k) (h2 : ∀ x ∈ B, k < x.1) : Rising (A ++ (k, v) :: B) := by
  refine List.pairwise_append.2 ⟨hA, List.pairwise_cons.2 ⟨fun b hb => h2 b hb, hB⟩, ?_⟩
  intro a ha b hb
  have := h1 a ha
  rcases List.mem_cons.1 hb with rfl | hb
  · exact this
  · have := h2 b hb; omega

theorem rising_parts {α : Type} {A B : List (Int × α)} {k : Int} {v : α} (h : Rising (A ++ (k, v) :: B)) : Rising A ∧ Rising B ∧ (∀ x ∈ A, x.1 < k) ∧ (∀ x ∈ B, k < x.1) := by
  obtain ⟨hA, hB, hAB⟩ := List.pairwise_append.1 h
  obtain ⟨h1, h2⟩ := List.pairwise_cons.1 hB
  exact ⟨hA, h2, fun x hx => hAB x hx _ (List.mem_cons_self ..), h1⟩

theorem mem_ins {α : Type} {key : Int} {x : α} {L : List (Int × α)} (h : Rising L) (y : Int × α) : y ∈ ins key x L ↔ y = (key, x) ∨ (y ∈ L ∧ y.1 ≠ key) := by
  induction L with
  | nil => simp [ins]
  | cons a L ih =>
    obtain ⟨h1, h2⟩ := h.cons
    simp only [ins]
    split
    · rename_i ha
      simp only [List.mem_cons, ih h2]
      constructor
      · rintro (rfl | h | h)
        · exact .inr ⟨.inl rfl, by omega⟩
        · exact .inl h
        · exact .inr ⟨.inr h.1, h.2⟩
      · rintro (h | ⟨rfl | h, hk⟩)
        · exact .inr (.inl h)
        · exact .inl rfl
        · exact .inr (.inr ⟨h, hk⟩)
    · split
      · rename_i ha hb
        simp only [List.mem_cons]
        constructor
        · rintro (h | h)
          · exact .inl h
          · exact .inr ⟨.inr h, by have := h1 y h; omega⟩
        · rintro (h | ⟨rfl | h, hk⟩)
          · exact .inl h
          · exact absurd hb hk
          · exact .inr h
      · rename_i ha hb
        simp only [List.mem_cons]
        constructor
        · rintro (h | rfl | h)
          · exact .inl h
          · exact .inr ⟨.inl rfl, hb⟩
          · exact .inr ⟨.inr h, by have := h1 y h; omega⟩
        · rintro (h | ⟨rfl | h, hk⟩)
          · exact .inl h
          · exact .inr (.inl rfl)
          · exact .inr (.inr h)

theorem rising_ins {α : Type} {key : Int} {x : α} {L : List (Int × α)} (h : Rising L) : Rising (ins key x L) := by
  induction L with
  | nil => simp [ins, Rising]
  | cons a L ih =>
    obtain ⟨h1, h2⟩ := h.cons
    simp only [ins]
    split
    · rename_i ha
      refine List.pairwise_cons.2 ⟨fun b hb => ?_, ih h2⟩
      rcases (mem_ins h2 b).1 hb with rfl | ⟨hb, _⟩
      · exact ha
      · exact h1 b hb
    · split
      · rename_i ha hb
        exact List.pairwise_cons.2 ⟨fun b hb' => by have := h1 b hb'; show key < b.1; omega, h2⟩
      · rename_i ha hb
        refine List.pairwise_cons.2 ⟨fun b hb' => ?_, h⟩
        rcases List.mem_cons.1 hb' with rfl | hb'
        · show key < b.1; omega
        · have := h1 b hb'; show key < b.1; omega

theorem mem_del {α : Type} {key : Int} {L : List (Int × α)} (h : Rising L) (y : Int × α) : y ∈ del key L ↔ y ∈ L ∧ y.1 ≠ key := by
  induction L with
  | nil => simp [del]
  | cons a L ih =>
    obtain ⟨h1, h2⟩ := h.cons
    simp only [del]
    split
    · rename_i ha
      simp only [List.mem_cons, ih h2]
      constructor
      · rintro (rfl | h)
        · exact ⟨.inl rfl, by omega⟩
        · exact ⟨.inr h.1, h.2⟩
      · rintro ⟨rfl | h, hk⟩
        · exact .inl rfl
        · exact .inr ⟨h, hk⟩
    · split
      · rename_i ha hb
        simp only [List.mem_cons]
        constructor
        · exact fun h => ⟨.inr h, by have := h1 y h; omega⟩
        · rintro ⟨rfl | h, hk⟩
          · exact absurd hb hk
          · exact h
      · rename_i ha hb
        simp only [List.mem_cons]
        constructor
        · rintro (rfl | h)
          · exact ⟨.inl rfl, hb⟩
          · exact ⟨.inr h, by have := h1 y h; omega⟩
        · exact fun h => h.1

theorem rising_del {α : Type} {key : Int} {L : List (Int × α)} (h : Rising L) : Rising (del key L) := by
  induction L with
  | nil => simp [del, Rising]
  | cons a L ih =>
    obtain ⟨h1, h2⟩ := h.cons
    simp only [del]
    split
    · refine List.pairwise_cons.2 ⟨fun b hb => h1 b ((mem_del h2 b).1 hb).1, ih h2⟩
    · split
      · exact h2
      · exact h

theorem look_mem {α : Type} {key : Int} {L : List (Int × α)} {v : α} (h : look key L = some v) : (key, v) ∈ L := by
  induction L with
  | nil => simp [look] at h
  | cons a L ih =>
    simp only [look] at h
    split at h
    · rename_i ha
      injection h with h
      subst h ha
      exact List.mem_cons_self ..
    · exact List.mem_cons_of_mem _ (ih h)

theorem look_of_mem {α : Type} {L : List (Int × α)} (hL : Rising L) {y : Int × α} (h : y ∈ L) : look y.1 L = some y.2 := by
  induction L with
  | nil => cases h
  | cons a L ih =>
    obtain ⟨h1, h2⟩ := hL.cons
    simp only [look]
    rcases List.mem_cons.1 h with rfl | h
    · simp
    · have := h1 y h
      rw [if_neg (by omega)]
      exact ih h2 h

theorem look_none {α : Type} {key : Int} {L : List (Int × α)} (h : ∀ y ∈ L, y.1 ≠ key) : look key L = none := by
  induction L with
  | nil => rfl
  | cons a L ih =>
    simp only [look]
    rw [if_neg (h a (List.mem_cons_self ..))]
    exact ih fun y hy => h y (List.mem_cons_of_mem _ hy)

theorem look_append {α : Type} {key : Int} {A B : List (Int × α)} : look key (A ++ B) = (look key A).or (look key B) := by
  induction A with
  | nil => simp [look]
  | cons a A ih =>
    simp only [List.cons_append, look]
    split
    · rfl
    · exact ih

/-- Two rising lists of the same members are one. -/
theorem rising_eq {α : Type} {A B : List (Int × α)} (hA : Rising A) (hB : Rising B) (h : ∀ y, y ∈ A ↔ y ∈ B) : A = B := by
  induction A generalizing B with
  | nil =>
    cases B with
    | nil => rfl
    | cons b B => exact absurd ((h b).2 (List.mem_cons_self ..)) (by simp)
  | cons a A ih =>
    cases B with
    | nil => exact absurd ((h a).1 (List.mem_cons_self ..)) (by simp)
    | cons b B =>
      obtain ⟨a1, a2⟩ := hA.cons
      obtain ⟨b1, b2⟩ := hB.cons
      have hab : a = b := by
        rcases List.mem_cons.1 ((h a).1 (List.mem_cons_self ..)) with e | e
        · exact e
        · rcases List.mem_cons.1 ((h b).2 (List.mem_cons_self ..)) with e' | e'
          · exact e'.symm
          · have := b1 a e; have := a1 b e'; omega
      subst hab
      congr 1
      refine ih a2 b2 fun y => ?_
      constructor
      · intro hy
        rcases List.mem_cons.1 ((h y).1 (List.mem_cons_of_mem _ hy)) with e | e
        · subst e; have := a1 _ hy; omega
        · exact e
      · intro hy
        rcases List.mem_cons.1 ((h y).2 (List.mem_cons_of_mem _ hy)) with e | e
        · subst e; have := b1 _ hy; omega
        · exact e

theorem ins_low {α : Type} {key k : Int} {x v : α} {A B : List (Int × α)} (h : key < k) : ins key x (A ++ (k, v) :: B) = ins key x A ++ (k, v) :: B := by
  induction A with
  | nil =>
    simp only [List.nil_append, ins]
    rw [if_neg (by omega), if_neg (by omega)]
    rfl
  | cons a A ih =>
    simp only [List.cons_append, ins]
    split
    · rw [ih]; rfl
    · split
      · rfl
      · rfl

theorem ins_skip {α : Type} {key : Int} {x : α} {A B : List (Int × α)} (h : ∀ y ∈ A, y.1 < key) : ins key x (A ++ B) = A ++ ins key x B := by
  induction A with
  | nil => rfl
  | cons a A ih =>
    simp only [List.cons_append, ins]
    rw [if_pos (h a (List.mem_cons_self ..)), ih fun y hy => h y (List.mem_cons_of_mem _ hy)]

theorem del_low {α : Type} {key k : Int} {v : α} {A B : List (Int × α)} (h : key < k) : del key (A ++ (k, v) :: B) = del key A ++ (k, v) :: B := by
  induction A with
  | nil =>
    simp only [List.nil_append, del]
    rw [if_neg (by omega), if_neg (by omega)]
  | cons a A ih =>
    simp only [List.cons_append, del]
    split
    · rw [ih]; rfl
    · split
      · rfl
      · rfl

theorem del_skip {α : Type} {key : Int} {A B : List (Int × α)} (h : ∀ y ∈ A, y.1 < key) : del key (A ++ B) = A ++ del key B := by
  induction A with
  | nil => rfl
  | cons a A ih =>
    simp only [List.cons_append, del]
    rw [if_pos (h a (List.mem_cons_self ..)), ih fun y hy => h y (List.mem_cons_of_mem _ hy)]

namespace Tr
variable {α : Type}

theorem sorted_rising {t : Tr α} (h : t.sorted) : Rising t.list := by
  induction t with
  | nil => simp [list, Rising]
  | node l k v r ihl ihr => exact rising_append (ihl h.1) (ihr h.2.1) h.2.2.1 h.2.2.2

theorem sorted_of_rising {t : Tr α} (h : Rising t.list) : t.sorted := by
  induction t with
  | nil => trivial
  | node l k v r ihl ihr =>
    obtain ⟨h1, h2, h3, h4⟩ := rising_parts h
    exact ⟨ihl h1, ihr h2, h3, h4⟩

theorem many_list (t : Tr α) : t.many = t.list.length := by
  induction t with
  | nil => rfl
  | node l k v r ihl ihr =>
    simp only [many, list, List.length_append, List.length_cons, ihl, ihr]
    omega

theorem list_even (k : Int) (v : α) (l r : Tr α) : (even k v l r).list = l.list ++ (k, v) :: r.list := by
  unfold even
  split
  · cases l with
    | nil => simp [list]
    | node ll lk lv lr =>
      simp only []
      split
      · cases lr with
        | nil => simp [list]
        | node a b c d => simp [list]
      · simp [list]
  · split
    · cases r with
      | nil => simp [list]
      | node rl rk rv rr =>
        simp only []
        split
        · cases rl with
          | nil => simp [list]
          | node a b c d => simp [list]
        · simp [list]
    · simp [list]

theorem list_put {key : Int} {x : α} {t : Tr α} (h : t.sorted) : (put key x t).list = ins key x t.list := by
  induction t with
  | nil => rfl
  | node l k v r ihl ihr =>
    obtain ⟨h1, h2, h3, h4⟩ := h
    simp only [put]
    split
    · rename_i hk
      rw [list_even, ihl h1]
      simp only [list]
      rw [ins_low hk]
    · split
      · rename_i hk hk2
        rw [list_even, ihr h2]
        simp only [list]
        rw [ins_skip (fun y hy => by have := h3 y hy; omega)]
        simp only [ins, hk2, if_true]
      · obtain rfl : k = key := by omega
        simp only [list]
        rw [ins_skip h3]
        simp [ins]

theorem list_least (d : Int × α) (l : Tr α) (k : Int) (v : α) (r : Tr α) : ∃ tl, (node l k v r).list = least d (node l k v r) :: tl := by
  induction l generalizing d k v r with
  | nil => exact ⟨r.list, by simp [least, list]⟩
  | node ll lk lv lr ihl ihr =>
    obtain ⟨tl, h⟩ := ihl (k, v) lk lv lr
    refine ⟨tl ++ (k, v) :: r.list, ?_⟩
    have e : (node (node ll lk lv lr) k v r).list = (node ll lk lv lr).list ++ (k, v) :: r.list := rfl
    rw [e, h]
    rfl

theorem list_drop {t : Tr α} (key : Int) (h : t.sorted) : (drop t key).list = del key t.list := by
  induction t generalizing key with
  | nil => rfl
  | node l k v r ihl ihr =>
    obtain ⟨h1, h2, h3, h4⟩ := h
    simp only [drop]
    split
    · rename_i hk
      rw [list_even, ihl key h1]
      simp only [list]
      rw [del_low hk]
    · split
      · rename_i hk hk2
        rw [list_even, ihr key h2]
        simp only [list]
        rw [del_skip (fun y hy => by have := h3 y hy; omega)]
        simp only [del, hk2, if_true]
      · obtain rfl : k = key := by omega
        simp only [list]
        rw [del_skip h3]
        simp only [del, Int.lt_irrefl, if_false, if_true]
        cases l with
        | nil => simp [isNil, list]
        | node ll lk lv lr =>
          cases r with
          | nil => simp [isNil, list]
          | node rl rk rv rr =>
            simp only [isNil, Bool.false_eq_true, if_false]
            rw [list_even, ihr _ h2]
            obtain ⟨tl, e⟩ := list_least (k, v) rl rk rv rr
            rw [e]
            simp [del]

theorem get_look {t : Tr α} (key : Int) (h : t.sorted) : t.get key = look key t.list := by
  induction t with
  | nil => rfl
  | node l k v r ihl ihr =>
    obtain ⟨h1, h2, h3, h4⟩ := h
    simp only [get, list]
    rw [look_append]
    split
    · rename_i hk
      rw [ihl h1]
      simp only [look]
      rw [if_neg (by omega), look_none (key := key) (L := r.list) (fun y hy => by have := h4 y hy; omega)]
      simp
    · rename_i hk
      rw [look_none (key := key) (L := l.list) (fun y hy => by have := h3 y hy; omega)]
      simp only [Option.none_or, look]
      split
      · rename_i hk2
        rw [if_neg (by omega), ihr h2]
      · rw [if_pos (by omega)]

/-- Balanced. -/
def bal : Tr α → Prop
  | .nil => True
  | .node l _ _ r => l.bal ∧ r.bal ∧ l.high - r.high ≤ 1 ∧ r.high - l.high ≤ 1

theorem bal_even {k : Int} {v : α} {l r : Tr α} (hl : l.bal) (hr : r.bal) (h1 : l.high - r.high ≤ 2) (h2 : r.high - l.high ≤ 2) :
    (even k v l r).bal ∧ max l.high r.high ≤ (even k v l r).high ∧ (even k v l r).high ≤ max l.high r.high + 1 ∧ (l.high - r.high ≤ 1 → r.high - l.high ≤ 1 → (even k v l r).high = max l.high r.high + 1) := by
  unfold even
  split
  · rename_i hd
    cases l with
    | nil => have := r.high_nonneg; simp only [high] at hd; omega
    | node ll lk lv lr =>
      obtain ⟨b1, b2, b3, b4⟩ := hl
      simp only []
      split
      · rename_i hlt
        cases lr with
        | nil => have := ll.high_nonneg; simp only [high] at hlt; omega
        | node a b c d =>
          obtain ⟨c1, c2, c3, c4⟩ := b2
          simp only [high] at *
          refine ⟨⟨⟨b1, c1, ?_, ?_⟩, ⟨c2, hr, ?_, ?_⟩, ?_, ?_⟩, ?_, ?_, ?_⟩ <;> ((try simp only [high]); omega)
      · simp only [high] at *
        refine ⟨⟨b1, ⟨b2, hr, ?_, ?_⟩, ?_, ?_⟩, ?_, ?_, ?_⟩ <;> ((try simp only [high]); omega)
  · split
    · rename_i hd0 hd
      cases r with
      | nil => have := l.high_nonneg; simp only [high] at hd; omega
      | node rl rk rv rr =>
        obtain ⟨b1, b2, b3, b4⟩ := hr
        simp only []
        split
        · rename_i hlt
          cases rl with
          | nil => have := rr.high_nonneg; simp only [high] at hlt; omega
          | node a b c d =>
            obtain ⟨c1, c2, c3, c4⟩ := b1
            simp only [high] at *
            refine ⟨⟨⟨hl, c1, ?_, ?_⟩, ⟨c2, b2, ?_, ?_⟩, ?_, ?_⟩, ?_, ?_, ?_⟩ <;> ((try simp only [high]); omega)
        · simp only [high] at *
          refine ⟨⟨⟨hl, b1, ?_, ?_⟩, b2, ?_, ?_⟩, ?_, ?_, ?_⟩ <;> ((try simp only [high]); omega)
    · rename_i hd0 hd
      simp only [high]
      refine ⟨⟨hl, hr, ?_, ?_⟩, ?_, ?_, ?_⟩ <;> omega

theorem bal_put {key : Int} {x : α} {t : Tr α} (h : t.bal) : (put key x t).bal ∧ t.high ≤ (put key x t).high ∧ (put key x t).high ≤ t.high + 1 := by
  induction t with
  | nil => simp [put, bal, high]
  | node l k v r ihl ihr =>
    obtain ⟨b1, b2, b3, b4⟩ := h
    simp only [put]
    split
    · obtain ⟨i1, i2, i3⟩ := ihl b1
      obtain ⟨e1, e2, e3, e4⟩ := bal_even (k := k) (v := v) i1 b2 (by omega) (by omega)
      refine ⟨e1, ?_, ?_⟩ <;> ((try simp only [high]); omega)
    · split
      · obtain ⟨i1, i2, i3⟩ := ihr b2
        obtain ⟨e1, e2, e3, e4⟩ := bal_even (k := k) (v := v) b1 i1 (by omega) (by omega)
        refine ⟨e1, ?_, ?_⟩ <;> ((try simp only [high]); omega)
      · exact ⟨⟨b1, b2, b3, b4⟩, by simp only [high]; omega, by simp only [high]; omega⟩

theorem bal_drop {t : Tr α} (key : Int) (h : t.bal) : (drop t key).bal ∧ (drop t key).high ≤ t.high ∧ t.high - 1 ≤ (drop t key).high := by
  induction t generalizing key with
  | nil => simp [drop, bal, high]
  | node l k v r ihl ihr =>
    obtain ⟨b1, b2, b3, b4⟩ := h
    simp only [drop]
    split
    · obtain ⟨i1, i2, i3⟩ := ihl key b1
      obtain ⟨e1, e2, e3, e4⟩ := bal_even (k := k) (v := v) i1 b2 (by omega) (by omega)
      refine ⟨e1, ?_, ?_⟩ <;> ((try simp only [high]); omega)
    · split
      · obtain ⟨i1, i2, i3⟩ := ihr key b2
        obtain ⟨e1, e2, e3, e4⟩ := bal_even (k := k) (v := v) b1 i1 (by omega) (by omega)
        refine ⟨e1, ?_, ?_⟩ <;> ((try simp only [high]); omega)
      · split
        · rename_i hn
          cases l with
          | nil => have := r.high_nonneg; simp only [high] at *; exact ⟨b2, by omega, by omega⟩
          | node a b c d => cases hn
        · split
          · rename_i hn
            cases r with
            | nil => have := l.high_nonneg; simp only [high] at *; exact ⟨b1, by omega, by omega⟩
            | node a b c d => cases hn
          · obtain ⟨i1, i2, i3⟩ := ihr (least (k, v) r).1 b2
            obtain ⟨e1, e2, e3, e4⟩ := bal_even (k := (least (k, v) r).1) (v := (least (k, v) r).2) b1 i1 (by omega) (by omega)
            refine ⟨e1, ?_, ?_⟩ <;> ((try simp only [high]); omega)

/-- How many keys a height wants at least. -/
def want : Nat → Int
  | 0 => 0
  | 1 => 1
  | n + 2 => 1 + want (n + 1) + want n

theorem want_step (n : Nat) : 0 ≤ want n ∧ want n ≤ want (n + 1) := by
  induction n with
  | zero => simp [want]
  | succ n ih => simp only [want]; omega

theorem want_mono {a b : Nat} (h : a ≤ b) : want a ≤ want b := by
  induction h with
  | refl => omega
  | step h ih => exact Int.le_trans ih (want_step _).2

theorem want_many {t : Tr α} (h : t.bal) : want t.high.toNat ≤ t.many := by
  induction t with
  | nil => simp [high, want, many]
  | node l k v r ihl ihr =>
    obtain ⟨b1, b2, b3, b4⟩ := h
    have i1 := ihl b1
    have i2 := ihr b2
    have n1 := l.high_nonneg
    have n2 := r.high_nonneg
    have m1 := l.many_nonneg
    have m2 := r.many_nonneg
    simp only [high, many]
    obtain ⟨a, ha⟩ : ∃ a : Nat, l.high = a := ⟨l.high.toNat, by omega⟩
    obtain ⟨b, hb⟩ : ∃ b : Nat, r.high = b := ⟨r.high.toNat, by omega⟩
    rw [ha] at b3 b4 i1 ⊢
    rw [hb] at b3 b4 i2 ⊢
    simp only [Int.toNat_natCast] at i1 i2
    have key : ∀ m : Nat, (a = m ∧ b = m ∨ a = m + 1 ∧ b = m ∨ a = m ∧ b = m + 1) → want (1 + max (a : Int) (b : Int)).toNat ≤ 1 + l.many + r.many := by
      rintro m (⟨rfl, rfl⟩ | ⟨rfl, rfl⟩ | ⟨rfl, rfl⟩)
      · have e : (1 + max (b : Int) (b : Int)).toNat = b + 1 := by omega
        rw [e]
        cases b with
        | zero => simp only [want]; omega
        | succ m => simp only [want] at *; have := want_step m; omega
      · have e : (1 + max ((b + 1 : Nat) : Int) (b : Int)).toNat = b + 2 := by omega
        rw [e]
        simp only [want]
        omega
      · have e : (1 + max (a : Int) ((a + 1 : Nat) : Int)).toNat = a + 2 := by omega
        rw [e]
        simp only [want]
        omega
    exact key (min a b) (by omega)

theorem high_most {t : Tr α} (h : t.bal) (hm : t.many ≤ 1000000) : t.high ≤ 64 := by
  have h1 := want_many h
  have h0 := t.high_nonneg
  refine Int.le_of_not_gt fun hh => ?_
  have h2 : want 65 ≤ want t.high.toNat := want_mono (by omega)
  have h3 : want 65 = 44945570212852 := by decide +kernel
  omega

end Tr
end Go.Proofs.Ytjgpoggbakanlaa
