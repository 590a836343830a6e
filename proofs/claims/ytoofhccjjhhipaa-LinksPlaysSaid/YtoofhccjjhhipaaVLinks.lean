/- The table of half-links. -/
import Derived.Test.YtoofhccjjhhipaaVRef14e
import Derived.Deep.RegionLaw
namespace Go.Proofs.Ytoofhccjjhhipaa
open Go.RowKit
attribute [local irreducible] Ext

/-- A tree that holds a rising list. -/
def TK (w : World) (tb : Nat) (K : List (Int × (Int × Int × Int))) : Prop := ∃ t, TreeAt w tb t ∧ t.sorted ∧ t.list = K

theorem TK.ext {w w' : World} {tb : Nat} {K : List (Int × (Int × Int × Int))} (h : TK w tb K) (hE : Ext w w') : TK w' tb K := by
  obtain ⟨t, h1, h2, h3⟩ := h
  exact ⟨t, TreeAt.ext hE h1, h2, h3⟩

theorem TK.rising {w : World} {tb : Nat} {K : List (Int × (Int × Int × Int))} (h : TK w tb K) : Rising K := by
  obtain ⟨t, _, h2, h3⟩ := h
  exact h3 ▸ Tr.sorted_rising h2

theorem getR_lookR {t : Tr (Int × Int × Int)} (hs : t.sorted) (key : Int) : getR t key = lookR t.list key := by
  unfold getR lookR
  rw [Tr.get_look key hs]
  cases look key t.list <;> rfl

theorem tk_get {tb : Nat} {K : List (Int × (Int × Int × Int))} (key : Int) (w : World) (h : TK w tb K) :
    Calls Try.prog 12 #[.pointer (some ⟨tb, 0, none⟩), .int .i64 key] w fun e w' => e = .returned (.tuple #[.agg #[.int .i64 ((lookR K key).1).1, .int .i64 ((lookR K key).1).2.1, .int .i64 ((lookR K key).1).2.2], .bool (lookR K key).2]) ∧ Ext w w' := by
  obtain ⟨t, h1, h2, rfl⟩ := h
  rw [← getR_lookR h2]
  exact get_any key w h1

theorem tk_put {tb : Nat} {K : List (Int × (Int × Int × Int))} (key : Int) (x : (Int × Int × Int)) (w : World) (h : TK w tb K) (hm : K.length ≤ 1000000) :
    Calls Try.prog 39 #[.pointer (some ⟨tb, 0, none⟩), .int .i64 key, .agg #[.int .i64 x.1, .int .i64 x.2.1, .int .i64 x.2.2]] w fun e w' => (∃ u, e = .returned u) ∧ TK w' tb (ins key x K) ∧ Mod (fun k => k = tb) w w' := by
  obtain ⟨t, h1, h2, rfl⟩ := h
  refine (putT_any key x w h1 (by rw [Tr.many_list]; omega)).mono ?_
  rintro e w' ⟨rfl, h3, h4⟩
  exact ⟨⟨_, rfl⟩, ⟨_, h3, Tr.sorted_put h2 key x, Tr.list_put h2⟩, h4⟩

theorem tk_drop {tb : Nat} {K : List (Int × (Int × Int × Int))} (key : Int) (w : World) (h : TK w tb K) (hm : K.length ≤ 1000000) :
    Calls Try.prog 41 #[.pointer (some ⟨tb, 0, none⟩), .int .i64 key] w fun e w' => e = .returned (.bool (lookR K key).2) ∧ TK w' tb (del key K) ∧ Mod (fun k => k = tb) w w' := by
  obtain ⟨t, h1, h2, rfl⟩ := h
  rw [← getR_lookR h2, ← dropped_list h2 key]
  refine (dropT_any key w h1 (by rw [Tr.many_list]; omega) h2).mono ?_
  rintro e w' ⟨rfl, h3, h4⟩
  refine ⟨rfl, ⟨_, h3, ?_, rfl⟩, h4⟩
  split
  · exact Tr.sorted_drop h2 key
  · exact h2

theorem tk_first {tb : Nat} {K : List (Int × (Int × Int × Int))} (w : World) (h : TK w tb K) (hk : ∀ x ∈ K, -9223372036854775808 ≤ x.1) :
    Calls Try.prog 51 #[.pointer (some ⟨tb, 0, none⟩)] w fun e w' => e = .returned (firstR K) ∧ Ext w w' := by
  obtain ⟨t, h1, h2, rfl⟩ := h
  have := first_any w h1
  rw [overL_all h2 hk] at this
  refine this.mono ?_
  rintro e w' ⟨rfl, hM⟩
  exact ⟨rfl, by unfold Ext; exact hM⟩

theorem tk_len {tb : Nat} {K : List (Int × (Int × Int × Int))} (w : World) (h : TK w tb K) :
    Calls Try.prog 15 #[.pointer (some ⟨tb, 0, none⟩)] w fun e w' => e = .returned (.int .i64 K.length) ∧ w = w' := by
  obtain ⟨t, h1, h2, rfl⟩ := h
  rw [← Tr.many_list]
  exact len_any w h1

/-- The table. -/
structure LT (w : World) (lb tb : Nat) (K : List (Int × (Int × Int × Int))) (ids : Int) : Prop where
  blk : w.heap[lb]? = some (.cells #[.pointer (some ⟨tb, 0, none⟩), .int .i64 ids] 41 (0, 0))
  tree : TK w tb K

theorem LT.ext {w w' : World} {lb tb : Nat} {K : List (Int × (Int × Int × Int))} {ids : Int} (h : LT w lb tb K ids) (hE : Ext w w') : LT w' lb tb K ids := ⟨hE.keep h.blk, h.tree.ext hE⟩

theorem LT.cells {w : World} {lb tb : Nat} {K : List (Int × (Int × Int × Int))} {ids : Int} (h : LT w lb tb K ids) : w.cell? ⟨lb, 0, none⟩ = some (.pointer (some ⟨tb, 0, none⟩)) ∧ w.cell? ⟨lb, 1, none⟩ = some (.int .i64 ids) ∧ w.frozen? ⟨lb, 1, none⟩ = false :=
  ⟨by simp [cell_of_heap h.blk], by simp [cell_of_heap h.blk], free_of_heap h.blk 1⟩

theorem LT.ne {w : World} {lb tb : Nat} {K : List (Int × (Int × Int × Int))} {ids : Int} (h : LT w lb tb K ids) : lb ≠ tb := by
  rintro rfl
  obtain ⟨t, ⟨p, hp, _⟩, _⟩ := h.tree
  rw [h.blk] at hp
  injection hp with h
  injection h with _ e
  exact absurd e (by decide)

theorem LT.modT {w w' : World} {lb tb : Nat} {K K' : List (Int × (Int × Int × Int))} {ids : Int} (h : LT w lb tb K ids) (hM : Mod (fun k => k = tb) w w') (ht : TK w' tb K') : LT w' lb tb K' ids := ⟨hM.keep h.blk h.ne, ht⟩

theorem LT.setIds {w : World} {lb tb : Nat} {K : List (Int × (Int × Int × Int))} {ids : Int} (h : LT w lb tb K ids) (n : Int) : LT (w.setCell ⟨lb, 1, none⟩ (.int .i64 n)) lb tb K n := by
  have hM : Mod (fun k => k = lb) w (w.setCell ⟨lb, 1, none⟩ (.int .i64 n)) := Mod.setCell (F := fun k => k = lb) (Mod.refl _ w) (p := ⟨lb, 1, none⟩) (.inl rfl) _
  refine ⟨by simpa using heap_set (o := 1) h.blk (.int .i64 n), ?_⟩
  obtain ⟨t, h1, h2, h3⟩ := h.tree
  refine ⟨t, h1.keep hM ?_ (Ne.symm h.ne), h2, h3⟩
  rintro k cs fr rfl hk
  rw [h.blk] at hk
  injection hk with hk
  injection hk with _ e
  exact absurd e (by decide)

/-- What a call of the table leaves. -/
def LPost (w w' : World) (lb tb : Nat) (K' : List (Int × (Int × Int × Int))) (ids' : Int) : Prop := LT w' lb tb K' ids' ∧ Mod (fun k => k = lb ∨ k = tb) w w'

theorem LPost.same {w w' : World} {lb tb : Nat} {K : List (Int × (Int × Int × Int))} {ids : Int} (h : LT w lb tb K ids) (hE : Ext w w') : LPost w w' lb tb K ids := ⟨h.ext hE, mod_of_ext hE⟩

theorem LPost.ahead {w wa w' : World} {lb tb : Nat} {K : List (Int × (Int × Int × Int))} {ids : Int} (h : LPost wa w' lb tb K ids) (hE : Ext w wa) : LPost w w' lb tb K ids := ⟨h.1, (mod_of_ext hE).trans h.2 (fun _ _ h => h)⟩

theorem LPost.after {w wa w' : World} {lb tb : Nat} {K : List (Int × (Int × Int × Int))} {ids : Int} (h : LPost w wa lb tb K ids) (hE : Ext wa w') : LPost w w' lb tb K ids := ⟨h.1.ext hE, h.2.trans (mod_of_ext hE) (fun _ _ h => h)⟩

theorem LPost.tree {w wa w' : World} {lb tb : Nat} {K K' : List (Int × (Int × Int × Int))} {ids : Int} (h : LT wa lb tb K ids) (hE : Ext w wa) (hM : Mod (fun k => k = tb) wa w') (ht : TK w' tb K') : LPost w w' lb tb K' ids :=
  ⟨h.modT hM ht, (mod_of_ext hE).trans hM (fun _ _ h => .inr h)⟩

theorem state_there {K : List (Int × (Int × Int × Int))} {pid : Int} {n : Int} (h : (lookR K pid).1.2.1 = n) (h0 : n ≠ 0) : (lookR K pid).2 = true := by
  unfold lookR at h ⊢
  cases hl : look pid K with
  | none => rw [hl] at h; exact absurd h.symm h0
  | some v => rfl

set_option maxRecDepth 100000 in
set_option maxHeartbeats 1000000 in
theorem lset_any {lb tb : Nat} {K : List (Int × (Int × Int × Int))} {ids : Int} (pid : Int) (w : World) (h : LT w lb tb K ids) (hm : K.length ≤ 1000000) :
    Calls Try.prog 34 #[.pointer (some ⟨lb, 0, none⟩), .int .i64 pid] w fun e w' => (∃ u, e = .returned u) ∧ LPost w w' lb tb (ins pid (pid, 1, 0) K) ids := by
  obtain ⟨c0, _, _⟩ := h.cells
  have hp := tk_put pid (pid, 1, 0) w h.tree hm
  go_enter Try.func34, Try.ntmps34
  go_wp2_with fail
  refine hp.mono ?_
  rintro e w2 ⟨⟨u, rfl⟩, ht, hM⟩
  have HP := Lib.hid (LPost.tree h (Ext.refl w) hM ht)
  clear hM ht
  go_wp2_with fail
  go_end0
  exact ⟨⟨_, rfl⟩, HP.out⟩

set_option maxRecDepth 100000 in
set_option maxHeartbeats 1000000 in
theorem linked_any {lb tb : Nat} {K : List (Int × (Int × Int × Int))} {ids : Int} (pid : Int) (w : World) (h : LT w lb tb K ids) :
    Calls Try.prog 38 #[.pointer (some ⟨lb, 0, none⟩), .int .i64 pid] w fun e w' => e = .returned (.bool (decide ((lookR K pid).1.2.1 = 1))) ∧ Ext w w' := by
  obtain ⟨c0, _, _⟩ := h.cells
  have hg := tk_get pid w h.tree
  obtain ⟨gv, hgv⟩ : ∃ gv, (lookR K pid) = gv := ⟨_, rfl⟩
  rw [hgv] at hg ⊢
  clear hgv h
  go_enter Try.func38, Try.ntmps38
  go_wp2_with (go_at_call 12; (with_reducible refine hg.mono ?_); rintro e wa ⟨rfl, hEa⟩; obtain ⟨r0, r1, r2, e0, e1, e2⟩ := Box3.cells (Box3.new wa gv.1); have HEa := Lib.hid hEa; clear hEa)
  go_ret
  exact ⟨by rw [← Bool.beq_eq_decide_eq]; rfl, HEa.out.alloc _⟩

end Go.Proofs.Ytoofhccjjhhipaa
