/- The law's 'done': puts and drops on both. -/
import Derived.Test.YtpkapfhfnnfomaaTreePlaysInv
import Derived.StillTailTactics
namespace Go.Proofs.Ytpkapfhfnnfomaa
open Go.RowKit Go.Shelf
attribute [local irreducible] Ext

/-- From w0 on, only the blocks of F (and new ones) were written; a tree and the document's list, of the same keys. -/
structure DInv (F : Nat → Prop) (w0 wr : World) (tb rb : Nat) (t : Tr Int) (L : List (Int × Int)) : Prop where
  tree : TreeAt wr tb t
  doc : ∃ kv vv, RefAt wr rb kv vv L ∧ ∀ k, kv.ownBlock = some k ∨ vv.ownBlock = some k → F k ∨ w0.heap.size ≤ k
  mod : Mod F w0 wr
  ftb : F tb ∨ w0.heap.size ≤ tb
  frb : F rb ∨ w0.heap.size ≤ rb
  sorted : t.sorted
  bal : t.bal
  keys : ∀ x ∈ t.list, -9223372036854775808 ≤ x.1

theorem DInv.drew {F : Nat → Prop} {w0 wr : World} {tb rb : Nat} {t : Tr Int} {L : List (Int × Int)} (h : DInv F w0 wr tb rb t L) : DInv F w0 wr.drew tb rb t L := by
  obtain ⟨kv, vv, h1, h2⟩ := h.doc
  exact ⟨TreeAt.ext ((Ext.refl wr).drew) h.tree, ⟨kv, vv, h1.drewN 1, h2⟩, h.mod.drew, h.ftb, h.frb, h.sorted, h.bal, h.keys⟩

theorem DInv.modT {F : Nat → Prop} {w0 wr w' : World} {tb rb : Nat} {t t' : Tr Int} {L : List (Int × Int)} (h : DInv F w0 wr tb rb t L) (hM : Mod (fun k => k = tb) wr w') (ht : TreeAt w' tb t') (hs : t'.sorted) (hb : t'.bal) (hk : ∀ x ∈ t'.list, -9223372036854775808 ≤ x.1) : DInv F w0 w' tb rb t' L := by
  obtain ⟨kv, vv, h1, h2⟩ := h.doc
  obtain ⟨p, hp⟩ := h.tree.blk
  refine ⟨ht, ⟨kv, vv, h1.keep hM ?_ ?_ ?_, h2⟩, h.mod.trans hM ?_, h.ftb, h.frb, hs, hb, hk⟩
  · intro e
    have := h1.blk
    rw [e, hp] at this
    injection this with this
    injection this with _ e2
    exact absurd e2 (by decide)
  · intro k hk e
    exact own_ne_elem h1.keys hp (by decide) (by rw [hk, e])
  · intro k hk e
    exact own_ne_elem h1.vals hp (by decide) (by rw [hk, e])
  · intro i hi e
    rcases h.ftb with h | h
    · exact e ▸ h
    · omega

theorem DInv.modD {F : Nat → Prop} {w0 wr w' : World} {tb rb : Nat} {t : Tr Int} {L L' : List (Int × Int)} {kv vv : Value} (h : DInv F w0 wr tb rb t L) (hd : RefAt wr rb kv vv L) (hown : ∀ k, kv.ownBlock = some k ∨ vv.ownBlock = some k → F k ∨ w0.heap.size ≤ k) (hP : RefPost wr w' rb kv vv L') : DInv F w0 w' tb rb t L' := by
  obtain ⟨kv', vv', h1, hM, h3⟩ := hP
  have hno : ∀ k cs T fr, (k = rb ∨ some k = kv.ownBlock ∨ some k = vv.ownBlock) → wr.heap[k]? = some (.cells cs T fr) → T = 38 ∨ T = 3 := by
    rintro k cs T fr (rfl | e | e) hk
    · have := hd.blk
      rw [hk] at this
      injection this with this
      injection this with _ e2
      exact .inl e2
    · obtain ⟨cur, hc⟩ := own_blk hd.keys e.symm
      rw [hk] at hc
      injection hc with hc
      injection hc with _ e2
      exact .inr e2
    · obtain ⟨cur, hc⟩ := own_blk hd.vals e.symm
      rw [hk] at hc
      injection hc with hc
      injection hc with _ e2
      exact .inr e2
  have hnode : ∀ k cs fr, (k = rb ∨ some k = kv.ownBlock ∨ some k = vv.ownBlock) → wr.heap[k]? ≠ some (.cells cs 55 fr) := by
    intro k cs fr hk hh
    rcases hno k cs _ fr hk hh with e | e
    · exact absurd e (by decide)
    · exact absurd e (by decide)
  have htb : ¬ (tb = rb ∨ some tb = kv.ownBlock ∨ some tb = vv.ownBlock) := by
    intro hk
    obtain ⟨p, hp⟩ := h.tree.blk
    rcases hno tb _ _ _ hk hp with e | e
    · exact absurd e (by decide)
    · exact absurd e (by decide)
  refine ⟨h.tree.keep hM hnode htb, ⟨kv', vv', h1, fun k hk => ?_⟩, h.mod.trans hM ?_, h.ftb, h.frb, h.sorted, h.bal, h.keys⟩
  · rcases h3 k hk with e | e | e
    · exact hown k (.inl e.symm)
    · exact hown k (.inr e.symm)
    · exact .inr (Nat.le_trans h.mod.size e)
  · rintro i hi (e | e | e)
    · rcases h.frb with h | h
      · exact e ▸ h
      · omega
    · rcases hown i (.inl e.symm) with h | h
      · exact h
      · omega
    · rcases hown i (.inr e.symm) with h | h
      · exact h
      · omega

theorem put_dt {F : Nat → Prop} {w0 wr : World} {tb rb : Nat} {t : Tr Int} {L : List (Int × Int)} (h : DInv F w0 wr tb rb t L) (k x : Int) (hm : t.many < 1000000000) (hk : -9223372036854775808 ≤ k) :
    Calls Try.prog 9 #[.pointer (some ⟨tb, 0, none⟩), .int .i64 k, .int .i64 x] wr fun e w' => e = .returned (.bool (!(getR t k).2)) ∧ DInv F w0 w' tb rb (.put k x t) L := by
  refine (putT_any k x wr h.tree hm).mono ?_
  rintro e w' ⟨rfl, ht, hM⟩
  exact ⟨rfl, h.modT hM ht (Tr.sorted_put h.sorted k x) (Tr.bal_put h.bal).1 (by
    intro y hy
    rw [Tr.list_put h.sorted, mem_ins (Tr.sorted_rising h.sorted)] at hy
    rcases hy with rfl | hy
    · exact hk
    · exact h.keys y hy.1)⟩

theorem drop_dt {F : Nat → Prop} {w0 wr : World} {tb rb : Nat} {t : Tr Int} {L : List (Int × Int)} (h : DInv F w0 wr tb rb t L) (k : Int) (hm : t.many < 1000000000) :
    Calls Try.prog 13 #[.pointer (some ⟨tb, 0, none⟩), .int .i64 k] wr fun e w' => e = .returned (.bool (getR t k).2) ∧ DInv F w0 w' tb rb (dropped t k) L := by
  refine (dropT_any k wr h.tree hm h.sorted).mono ?_
  rintro e w' ⟨rfl, ht, hM⟩
  refine ⟨rfl, h.modT hM ht ?_ ?_ ?_⟩
  · unfold dropped; split
    · exact Tr.sorted_drop h.sorted k
    · exact h.sorted
  · unfold dropped; split
    · exact (Tr.bal_drop k h.bal).1
    · exact h.bal
  · intro y hy
    have e := dropped_list h.sorted k
    rw [e, mem_del (Tr.sorted_rising h.sorted)] at hy
    exact h.keys y hy.1

theorem put_dd {F : Nat → Prop} {w0 wr : World} {tb rb : Nat} {t : Tr Int} {L : List (Int × Int)} (h : DInv F w0 wr tb rb t L) (k x : Int) (hl : L.length ≤ 1000000) (hr : Rising L) :
    Calls Try.prog 15 #[.pointer (some ⟨rb, 0, none⟩), .int .i64 k, .int .i64 x] wr fun e w' => e = .returned (.bool (!(lookR L k).2)) ∧ DInv F w0 w' tb rb t (ins k x L) := by
  obtain ⟨kv, vv, h1, h2⟩ := h.doc
  refine (putL_any k x wr h1 hl hr).mono ?_
  rintro e w' ⟨rfl, hP⟩
  exact ⟨rfl, h.modD h1 h2 hP⟩

theorem drop_dd {F : Nat → Prop} {w0 wr : World} {tb rb : Nat} {t : Tr Int} {L : List (Int × Int)} (h : DInv F w0 wr tb rb t L) (k : Int) (hl : L.length ≤ 1000000) (hr : Rising L) :
    Calls Try.prog 16 #[.pointer (some ⟨rb, 0, none⟩), .int .i64 k] wr fun e w' => e = .returned (.bool (lookR L k).2) ∧ DInv F w0 w' tb rb t (del k L) := by
  obtain ⟨kv, vv, h1, h2⟩ := h.doc
  refine (dropL_any k wr h1 hl hr).mono ?_
  rintro e w' ⟨rfl, hP⟩
  exact ⟨rfl, h.modD h1 h2 hP⟩

/-- The acts' cells, while their block is not written. -/
theorem ArgActs.keep {F : Nat → Prop} {B : Nat} {w w' : World} {v : Value} {l : List (Int × Int × Int)} (h : ArgActs B w v l) (hM : Mod F w w') (hF : ∀ k, F k → B ≤ k) : ArgActs B w' v l := by
  obtain ⟨so, cap, rfl, hc⟩ := h
  refine ⟨so, cap, rfl, fun i x hx => ?_⟩
  obtain ⟨b, o, e, hb, h0, h1, h2⟩ := hc i x hx
  have hlt := World.block_lt_of_cell? _ _ h0
  have hk : w'.heap[b]? = w.heap[b]? := hM.block b hlt (fun f => by have := hF b f; omega)
  refine ⟨b, o, e, hb, ?_, ?_, ?_⟩
  · rw [World.cell?_of_block (a := ⟨b, o + i * 3, none⟩) hk]; exact h0
  · rw [World.cell?_of_block (a := ⟨b, o + i * 3 + 1, none⟩) hk]; exact h1
  · rw [World.cell?_of_block (a := ⟨b, o + i * 3 + 2, none⟩) hk]; exact h2

end Go.Proofs.Ytpkapfhfnnfomaa
