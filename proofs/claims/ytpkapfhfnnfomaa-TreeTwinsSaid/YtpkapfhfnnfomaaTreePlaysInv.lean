/- TreePlays: the tree and the document's list side by side. -/
import Derived.Test.YtpkapfhfnnfomaaTreeAll
import Derived.Test.YtpkapfhfnnfomaaArgAct
namespace Go.Proofs.Ytpkapfhfnnfomaa
open Go.RowKit Go.Shelf
attribute [local irreducible] Ext

/-- The tree at tb, the document's list at rb, an act in a box at xb; whatever lay at w lies as it lay. -/
structure PInv (w wr : World) (tb rb : Nat) (t : Tr Int) (L : List (Int × Int)) : Prop where
  tree : TreeAt wr tb t
  doc : ∃ kv vv, RefAt wr rb kv vv L ∧ ∀ k, kv.ownBlock = some k ∨ vv.ownBlock = some k → w.heap.size ≤ k
  below : Below w.heap.size w wr
  htb : w.heap.size ≤ tb
  hrb : w.heap.size ≤ rb
  sorted : t.sorted
  bal : t.bal
  keys : ∀ x ∈ t.list, -9223372036854775808 ≤ x.1

theorem PInv.ext {w wr w' : World} {tb rb : Nat} {t : Tr Int} {L : List (Int × Int)} (h : PInv w wr tb rb t L) (hE : Ext wr w') : PInv w w' tb rb t L := by
  obtain ⟨kv, vv, h1, h2⟩ := h.doc
  have hE' := hE
  unfold Ext at hE'
  exact ⟨TreeAt.ext hE h.tree, ⟨kv, vv, h1.keep hE' (fun h => h) (fun _ _ h => h) (fun _ _ h => h), h2⟩, h.below.trans (hE.below.mono h.below.size), h.htb, h.hrb, h.sorted, h.bal, h.keys⟩

theorem PInv.drewN {w wr : World} {tb rb : Nat} {t : Tr Int} {L : List (Int × Int)} (h : PInv w wr tb rb t L) (n : Nat) : PInv w (wr.drewN n) tb rb t L := h.ext ((Ext.refl wr).drewN n)
theorem PInv.drew {w wr : World} {tb rb : Nat} {t : Tr Int} {L : List (Int × Int)} (h : PInv w wr tb rb t L) : PInv w wr.drew tb rb t L := h.ext ((Ext.refl wr).drew)

/-- The tree's block alone is written. -/
theorem PInv.modT {w wr w' : World} {tb rb : Nat} {t t' : Tr Int} {L : List (Int × Int)} (h : PInv w wr tb rb t L) (hM : Mod (fun k => k = tb) wr w') (ht : TreeAt w' tb t') (hs : t'.sorted) (hb : t'.bal) (hk : ∀ x ∈ t'.list, -9223372036854775808 ≤ x.1) : PInv w w' tb rb t' L := by
  obtain ⟨kv, vv, h1, h2⟩ := h.doc
  obtain ⟨p, hp⟩ := h.tree.blk
  refine ⟨ht, ⟨kv, vv, h1.keep hM ?_ ?_ ?_, h2⟩, h.below.trans (hM.below h.below.size (fun k e => by have := h.htb; omega)), h.htb, h.hrb, hs, hb, hk⟩
  · intro e
    have := h1.blk
    rw [e, hp] at this
    injection this with this
    injection this with _ e2
    exact absurd e2 (by decide)
  · intro k hk e
    exact own_ne_elem h1.keys hp (by decide) (by rw [hk, e])
  · intro k hk e
    exact own_ne_elem h1.vals hp (by decide) (by rw [hk, e])

/-- The document's blocks alone are written. -/
theorem PInv.modD {w wr w' : World} {tb rb : Nat} {t : Tr Int} {L L' : List (Int × Int)} {kv vv : Value} (h : PInv w wr tb rb t L) (hd : RefAt wr rb kv vv L) (hown : ∀ k, kv.ownBlock = some k ∨ vv.ownBlock = some k → w.heap.size ≤ k) (hP : RefPost wr w' rb kv vv L') : PInv w w' tb rb t L' := by
  obtain ⟨kv', vv', h1, hM, h3⟩ := hP
  have hno : ∀ k cs T fr, (k = rb ∨ some k = kv.ownBlock ∨ some k = vv.ownBlock) → wr.heap[k]? = some (.cells cs T fr) → T = 38 ∨ T = 3 := by
    rintro k cs T fr (rfl | e | e) hk
    · have := hd.blk
      rw [hk] at this
      injection this with this
      injection this with _ e2
      exact .inl e2
    · obtain ⟨cur, hc⟩ := own_blk hd.keys e.symm
      rw [hk] at hc
      injection hc with hc
      injection hc with _ e2
      exact .inr e2
    · obtain ⟨cur, hc⟩ := own_blk hd.vals e.symm
      rw [hk] at hc
      injection hc with hc
      injection hc with _ e2
      exact .inr e2
  have hnode : ∀ k cs fr, (k = rb ∨ some k = kv.ownBlock ∨ some k = vv.ownBlock) → wr.heap[k]? ≠ some (.cells cs 55 fr) := by
    intro k cs fr hk hh
    rcases hno k cs _ fr hk hh with e | e
    · exact absurd e (by decide)
    · exact absurd e (by decide)
  have htb : ¬ (tb = rb ∨ some tb = kv.ownBlock ∨ some tb = vv.ownBlock) := by
    intro hk
    obtain ⟨p, hp⟩ := h.tree.blk
    rcases hno tb _ _ _ hk hp with e | e
    · exact absurd e (by decide)
    · exact absurd e (by decide)
  have hge : ∀ k, (k = rb ∨ some k = kv.ownBlock ∨ some k = vv.ownBlock) → w.heap.size ≤ k := by
    rintro k (rfl | e | e)
    · exact h.hrb
    · exact hown k (.inl e.symm)
    · exact hown k (.inr e.symm)
  refine ⟨h.tree.keep hM hnode htb, ⟨kv', vv', h1, fun k hk => ?_⟩, h.below.trans (hM.below h.below.size hge), h.htb, h.hrb, h.sorted, h.bal, h.keys⟩
  rcases h3 k hk with e | e | e
  · exact hown k (.inl e.symm)
  · exact hown k (.inr e.symm)
  · exact Nat.le_trans h.below.size e

/-- What a writing call keeps besides: an act's box. -/
def ActAt (wr : World) (xb : Nat) (op key val : Int) : Prop := wr.heap[xb]? = some (.cells #[.int .i64 op, .int .i64 key, .int .i64 val] 40 (0, 0))

theorem ActAt.modT {wr w' : World} {tb xb : Nat} {t : Tr Int} {op key val : Int} (h : ActAt wr xb op key val) (ht : TreeAt wr tb t) (hM : Mod (fun k => k = tb) wr w') : ActAt w' xb op key val := by
  refine hM.keep h (fun e => ?_)
  obtain ⟨p, hp⟩ := ht.blk
  have h' : wr.heap[xb]? = _ := h
  rw [e, hp] at h'
  injection h' with h'
  injection h' with _ e2
  exact absurd e2 (by decide)

theorem ActAt.modD {wr w' : World} {rb xb : Nat} {L : List (Int × Int)} {kv vv : Value} {op key val : Int} (h : ActAt wr xb op key val) (hd : RefAt wr rb kv vv L) (hM : Mod (fun k => k = rb ∨ some k = kv.ownBlock ∨ some k = vv.ownBlock) wr w') : ActAt w' xb op key val := by
  refine hM.keep h ?_
  rintro (e | e | e)
  · have h' : wr.heap[xb]? = _ := h
    rw [e, hd.blk] at h'
    injection h' with h'
    injection h' with _ e2
    exact absurd e2 (by decide)
  · exact own_ne_elem hd.keys h (by decide) e.symm
  · exact own_ne_elem hd.vals h (by decide) e.symm

theorem ActAt.ext {wr w' : World} {xb : Nat} {op key val : Int} (h : ActAt wr xb op key val) (hE : Ext wr w') : ActAt w' xb op key val := hE.keep h

/-- Both, with the act. -/
structure PAct (w wr : World) (tb rb xb : Nat) (t : Tr Int) (L : List (Int × Int)) (op key val : Int) : Prop where
  inv : PInv w wr tb rb t L
  act : ActAt wr xb op key val

theorem put_pt {w wr : World} {tb rb xb : Nat} {t : Tr Int} {L : List (Int × Int)} {op key val : Int} (h : PAct w wr tb rb xb t L op key val) (k x : Int) (hm : t.many < 1000000000) (hk : -9223372036854775808 ≤ k) :
    Calls Try.prog 9 #[.pointer (some ⟨tb, 0, none⟩), .int .i64 k, .int .i64 x] wr fun e w' => e = .returned (.bool (!(getR t k).2)) ∧ PAct w w' tb rb xb (.put k x t) L op key val := by
  refine (putT_any k x wr h.inv.tree hm).mono ?_
  rintro e w' ⟨rfl, ht, hM⟩
  exact ⟨rfl, h.inv.modT hM ht (Tr.sorted_put h.inv.sorted k x) (Tr.bal_put h.inv.bal).1 (by
    intro y hy
    rw [Tr.list_put h.inv.sorted, mem_ins (Tr.sorted_rising h.inv.sorted)] at hy
    rcases hy with rfl | hy
    · exact hk
    · exact h.inv.keys y hy.1), h.act.modT h.inv.tree hM⟩

theorem drop_pt {w wr : World} {tb rb xb : Nat} {t : Tr Int} {L : List (Int × Int)} {op key val : Int} (h : PAct w wr tb rb xb t L op key val) (k : Int) (hm : t.many < 1000000000) :
    Calls Try.prog 13 #[.pointer (some ⟨tb, 0, none⟩), .int .i64 k] wr fun e w' => e = .returned (.bool (getR t k).2) ∧ PAct w w' tb rb xb (dropped t k) L op key val := by
  refine (dropT_any k wr h.inv.tree hm h.inv.sorted).mono ?_
  rintro e w' ⟨rfl, ht, hM⟩
  refine ⟨rfl, h.inv.modT hM ht ?_ ?_ ?_, h.act.modT h.inv.tree hM⟩
  · unfold dropped; split
    · exact Tr.sorted_drop h.inv.sorted k
    · exact h.inv.sorted
  · unfold dropped; split
    · exact (Tr.bal_drop k h.inv.bal).1
    · exact h.inv.bal
  · intro y hy
    have e := dropped_list h.inv.sorted k
    rw [e, mem_del (Tr.sorted_rising h.inv.sorted)] at hy
    exact h.inv.keys y hy.1

theorem put_pd {w wr : World} {tb rb xb : Nat} {t : Tr Int} {L : List (Int × Int)} {op key val : Int} (h : PAct w wr tb rb xb t L op key val) (k x : Int) (hl : L.length ≤ 1000000) (hr : Rising L) :
    Calls Try.prog 15 #[.pointer (some ⟨rb, 0, none⟩), .int .i64 k, .int .i64 x] wr fun e w' => e = .returned (.bool (!(lookR L k).2)) ∧ PAct w w' tb rb xb t (ins k x L) op key val := by
  obtain ⟨kv, vv, h1, h2⟩ := h.inv.doc
  refine (putL_any k x wr h1 hl hr).mono ?_
  rintro e w' ⟨rfl, hP⟩
  have hP' := hP
  obtain ⟨_, _, _, hM, _⟩ := hP'
  exact ⟨rfl, h.inv.modD h1 h2 hP, h.act.modD h1 hM⟩

theorem drop_pd {w wr : World} {tb rb xb : Nat} {t : Tr Int} {L : List (Int × Int)} {op key val : Int} (h : PAct w wr tb rb xb t L op key val) (k : Int) (hl : L.length ≤ 1000000) (hr : Rising L) :
    Calls Try.prog 16 #[.pointer (some ⟨rb, 0, none⟩), .int .i64 k] wr fun e w' => e = .returned (.bool (lookR L k).2) ∧ PAct w w' tb rb xb t (del k L) op key val := by
  obtain ⟨kv, vv, h1, h2⟩ := h.inv.doc
  refine (dropL_any k wr h1 hl hr).mono ?_
  rintro e w' ⟨rfl, hP⟩
  have hP' := hP
  obtain ⟨_, _, _, hM, _⟩ := hP'
  exact ⟨rfl, h.inv.modD h1 h2 hP, h.act.modD h1 hM⟩

theorem get_same {t : Tr Int} {L : List (Int × Int)} (hs : t.sorted) (hL : t.list = L) (k : Int) : getR t k = lookR L k := by
  unfold getR lookR
  rw [Tr.get_look k hs, hL]
  cases look k L <;> rfl

end Go.Proofs.Ytpkapfhfnnfomaa
