/- TreeTwins: a tree and its document, apart from another pair; what lies still. -/
import Derived.Test.YtpkapfhfnnfomaaTreeDone2
import Derived.Maps.AppendAt
namespace Go.Proofs.Ytpkapfhfnnfomaa
open Go.RowKit Go.Shelf
attribute [local irreducible] Ext

/-- The blocks of a tree and its document. -/
def Blk (tb rb : Nat) (kv vv : Value) (k : Nat) : Prop := k = tb ∨ k = rb ∨ some k = kv.ownBlock ∨ some k = vv.ownBlock

structure Pair (B : Nat) (w : World) (tb rb : Nat) (kv vv : Value) (t : Tr Int) : Prop where
  tree : TreeAt w tb t
  doc : RefAt w rb kv vv t.list
  base : ∀ k, Blk tb rb kv vv k → B ≤ k
  sorted : t.sorted
  bal : t.bal
  keys : ∀ x ∈ t.list, -9223372036854775808 ≤ x.1

theorem Pair.lt {B : Nat} {w : World} {tb rb : Nat} {kv vv : Value} {t : Tr Int} (h : Pair B w tb rb kv vv t) : ∀ k, Blk tb rb kv vv k → k < w.heap.size := by
  rintro k (rfl | rfl | e | e)
  · obtain ⟨p, hp⟩ := h.tree.blk
    exact heap_lt hp
  · exact heap_lt h.doc.blk
  · obtain ⟨cur, hc⟩ := own_blk h.doc.keys e.symm
    exact heap_lt hc
  · obtain ⟨cur, hc⟩ := own_blk h.doc.vals e.symm
    exact heap_lt hc

theorem Pair.no_node {B : Nat} {w : World} {tb rb : Nat} {kv vv : Value} {t : Tr Int} (h : Pair B w tb rb kv vv t) : ∀ k cs fr, Blk tb rb kv vv k → w.heap[k]? ≠ some (.cells cs 55 fr) := by
  intro k cs fr hk hh
  have key : ∀ {cs' : Array Value} {T : TypeId} {fr' : Nat × Nat}, w.heap[k]? = some (.cells cs' T fr') → T = 55 := by
    intro cs' T fr' h'
    rw [hh] at h'
    injection h' with h'
    injection h' with _ e
    exact e.symm
  rcases hk with rfl | rfl | e | e
  · obtain ⟨p, hp⟩ := h.tree.blk
    exact absurd (key hp) (by decide)
  · exact absurd (key h.doc.blk) (by decide)
  · obtain ⟨cur, hc⟩ := own_blk h.doc.keys e.symm
    exact absurd (key hc) (by decide)
  · obtain ⟨cur, hc⟩ := own_blk h.doc.vals e.symm
    exact absurd (key hc) (by decide)

theorem Pair.keep {B : Nat} {w w' : World} {tb rb : Nat} {kv vv : Value} {t : Tr Int} {F : Nat → Prop} (h : Pair B w tb rb kv vv t) (hM : Mod F w w') (hF : ∀ k, Blk tb rb kv vv k → ¬ F k) (hn : ∀ k cs fr, F k → w.heap[k]? ≠ some (.cells cs 55 fr)) : Pair B w' tb rb kv vv t :=
  ⟨h.tree.keep hM hn (hF _ (.inl rfl)), h.doc.keep hM (hF _ (.inr (.inl rfl))) (fun _ hk => hF _ (.inr (.inr (.inl hk.symm)))) (fun _ hk => hF _ (.inr (.inr (.inr hk.symm)))), h.base, h.sorted, h.bal, h.keys⟩

theorem Pair.ext {B : Nat} {w w' : World} {tb rb : Nat} {kv vv : Value} {t : Tr Int} (h : Pair B w tb rb kv vv t) (hE : Ext w w') : Pair B w' tb rb kv vv t := by
  unfold Ext at hE
  exact h.keep hE (fun _ _ h => h) (fun _ _ _ h => h.elim)

/-- 'done' on a pair. -/
theorem done_pair {B : Nat} {w : World} {tb rb : Nat} {kv vv : Value} {t : Tr Int} (h : Pair B w tb rb kv vv t) {A : Nat} (hA : A ≤ B) {a0 : Option Addr} {cap : Nat} {l : List (Int × Int × Int)} (ha : ArgActs A w (.slice a0 l.length cap) l)
    (hl : ∀ x ∈ l, -9223372036854775808 ≤ x.2.1 ∧ x.2.1 ≤ 9223372036854775807) (hlen : l.length ≤ 1000) (hmt : t.many ≤ 100000) :
    Calls Try.prog 21 #[.pointer (some ⟨tb, 0, none⟩), .pointer (some ⟨rb, 0, none⟩), .slice a0 l.length cap] w fun e w' => (∃ v, e = .returned v) ∧ ∃ kv' vv' t', Pair B w' tb rb kv' vv' t' ∧ t'.many ≤ t.many + l.length ∧
      Mod (Blk tb rb kv vv) w w' ∧ ∀ k, Blk tb rb kv' vv' k → Blk tb rb kv vv k ∨ w.heap.size ≤ k := by
  have hI : DInv (Blk tb rb kv vv) w w tb rb t t.list :=
    ⟨h.tree, ⟨kv, vv, h.doc, fun k hk => .inl (.inr (.inr (hk.elim (fun e => .inl e.symm) (fun e => .inr e.symm))))⟩, Mod.refl _ _, .inl (.inl rfl), .inl (.inr (.inl rfl)), h.sorted, h.bal, h.keys⟩
  refine (done_any a0 cap l hI (fun k hk => Nat.le_trans hA (h.base k hk)) ha hl hlen hmt).mono ?_
  rintro e w' ⟨hv, t', hD, hm⟩
  obtain ⟨kv', vv', hd, hown⟩ := hD.doc
  have hb : ∀ k, Blk tb rb kv' vv' k → Blk tb rb kv vv k ∨ w.heap.size ≤ k := by
    rintro k (rfl | rfl | e | e)
    · exact .inl (.inl rfl)
    · exact .inl (.inr (.inl rfl))
    · exact hown k (.inl e.symm)
    · exact hown k (.inr e.symm)
  refine ⟨hv, kv', vv', t', ⟨hD.tree, hd, fun k hk => ?_, hD.sorted, hD.bal, hD.keys⟩, hm, hD.mod, hb⟩
  rcases hb k hk with h1 | h1
  · exact h.base k h1
  · have := h.base tb (.inl rfl)
    have := h.lt tb (.inl rfl)
    omega

/-- A sequence that was told of a tree. -/
structure SeqAt (w : World) (Bk Bt : Nat) (p : Option Addr) (t : Tr Int) : Prop where
  key : w.heap[Bk]? = some (.cells #[.int .i64 (-9223372036854775808)] 3 (0, 0))
  ptr : w.heap[Bt]? = some (.cells #[.pointer p] 48 (0, 0))
  tree : IsTree w p t

theorem SeqAt.keep {w w' : World} {Bk Bt : Nat} {p : Option Addr} {t : Tr Int} {F : Nat → Prop} (h : SeqAt w Bk Bt p t) (hM : Mod F w w') (h1 : ¬ F Bk) (h2 : ¬ F Bt) (hn : ∀ k cs fr, F k → w.heap[k]? ≠ some (.cells cs 55 fr)) : SeqAt w' Bk Bt p t :=
  ⟨hM.keep h.key h1, hM.keep h.ptr h2, h.tree.keep hM hn⟩

theorem SeqAt.ext {w w' : World} {Bk Bt : Nat} {p : Option Addr} {t : Tr Int} (h : SeqAt w Bk Bt p t) (hE : Ext w w') : SeqAt w' Bk Bt p t := by
  unfold Ext at hE
  exact h.keep hE (fun h => h) (fun h => h) (fun _ _ _ h => h.elim)

theorem SeqAt.stops (n : Nat) {w : World} {Bk Bt : Nat} {p : Option Addr} {t : Tr Int} (h : SeqAt w Bk Bt p t) :
    SeqStopsK Fence.wide n Try.prog 34 #[.pointer (some ⟨Bt, 0, none⟩), .pointer (some ⟨Bk, 0, none⟩)] enc2 KeepT (fun ys => ys = overL (-9223372036854775808) t) (fun pre => pre <+: overL (-9223372036854775808) t) (overL (-9223372036854775808) t).length w :=
  from_stops n (by simp [cell_of_heap h.ptr]) (by simp [cell_of_heap h.key]) h.tree

/-- The end of a law: the result is set; the result's box lies anywhere. -/
theorem ret_at0 {w W : World} {rb : Nat} {tmps : Array Value} {fn : Func} {F : Fence} {n : Nat} {bx : Nat} {v : Value} (hr : Boxed W rb 4 v) (hfn : fn.results = #[.cell bx 4])
    (hB : Below w.heap.size w W) (hrb : w.heap.size ≤ rb) (ht : tmps[bx]? = some (.pointer (some ⟨rb, 0, none⟩)) := by rfl) :
    bodyPostM F n Try.prog fn (fun e w' => e = .returned (.bool true) ∧ Below w.heap.size w w') .ret { tmps := tmps, defers := [] } (W.setCell ⟨rb, 0, none⟩ (.bool true)) := by
  have hr2 : Boxed (W.setCell ⟨rb, 0, none⟩ (.bool true)) rb 4 (.bool true) := hr.set _
  have c0 := hr2.cell
  refine ⟨.bool true, ?_, rfl, hB.setCell (p := ⟨rb, 0, none⟩) hrb _⟩
  simp [results, hfn, go_sem, c0, ht]

/-- With two that were deferred. -/
theorem ret_at2 {w W : World} {D E rb : Nat} {tmps : Array Value} {fn : Func} {F : Fence} {n : Nat} {bx : Nat} {v : Value} (hr : Boxed W rb 4 v) (hfn : fn.results = #[.cell bx 4])
    (hB : Below w.heap.size w W) (hrb : w.heap.size ≤ rb) (hK : W.heap[D]? = some (.deferred (some []))) (hD : w.heap.size < D) (hK2 : W.heap[E]? = some (.deferred (some []))) (hE : w.heap.size < E) (hne : D ≠ E) (ht : tmps[bx]? = some (.pointer (some ⟨rb, 0, none⟩)) := by rfl) :
    bodyPostM F n Try.prog fn (fun e w' => e = .returned (.bool true) ∧ Below w.heap.size w w') .ret { tmps := tmps, defers := [{ target := .collected D, args := #[] }, { target := .collected E, args := #[] }] } (W.setCell ⟨rb, 0, none⟩ (.bool true)) := by
  have hr2 : Boxed (W.setCell ⟨rb, 0, none⟩ (.bool true)) rb 4 (.bool true) := hr.set _
  have hB2 : Below w.heap.size w (W.setCell ⟨rb, 0, none⟩ (.bool true)) := hB.setCell (p := ⟨rb, 0, none⟩) hrb _
  have hKa : (W.setCell ⟨rb, 0, none⟩ (.bool true)).heap[D]? = some (.deferred (some [])) := (KeepsOthers.setCell W ⟨rb, 0, none⟩ (.bool true)).same D _ hK rfl
  have hKb : (W.setCell ⟨rb, 0, none⟩ (.bool true)).heap[E]? = some (.deferred (some [])) := (KeepsOthers.setCell W ⟨rb, 0, none⟩ (.bool true)).same E _ hK2 rfl
  generalize (W.setCell ⟨rb, 0, none⟩ (.bool true)) = W2 at hr2 hB2 hKa hKb ⊢
  have hr3 := boxed_own (β := Unit) rb 4 (fun _ => .bool true) () _ _ _ hr2 (grownBy_putObj' W2 D (.deferred none)) (fun r e => by cases e; exact ⟨_, hKa, rfl⟩)
  have hB3 := hB2.trans (belowK_b (w := w) (Nat.le_refl _) W2 D _ (.deferred none) (by omega) hKa rfl rfl)
  have hKc : (W2.putObj D (.deferred none)).heap[E]? = some (.deferred (some [])) := (World.putObj_heap_other (Ne.symm hne)).trans hKb
  refine ⟨by simp, .inl ⟨_, _, rfl, run_takeDeferred hKa, ?_⟩⟩
  generalize W2.putObj D (.deferred none) = W3 at hr3 hB3 hKc ⊢
  refine ⟨by simp, .inl ⟨_, _, rfl, run_takeDeferred hKc, ?_⟩⟩
  have hr4 := boxed_own (β := Unit) rb 4 (fun _ => .bool true) () _ _ _ hr3 (grownBy_putObj' W3 E (.deferred none)) (fun r e => by cases e; exact ⟨_, hKc, rfl⟩)
  have hB4 := hB3.trans (belowK_b (w := w) (Nat.le_refl _) W3 E _ (.deferred none) (by omega) hKc rfl rfl)
  have c0 := hr4.cell
  refine ⟨.bool true, ?_, rfl, hB4⟩
  simp [results, hfn, go_sem, c0, ht]

/-- What a range over the sequence carries along: the turn, n. -/
def TwI (w : World) (xb nb : Nat) (T q : Int) (W : World) : Prop := (Boxed W xb 3 (.int .i64 T) ∧ Boxed W nb 3 (.int .i64 q)) ∧ Below w.heap.size w W

theorem TwI.step {w W : World} {xb nb : Nat} {T q : Int} (h : TwI w xb nb T q W) (hn : w.heap.size ≤ nb) (h1 : xb ≠ nb) (q' : Int) : TwI w xb nb T q' (W.setCell ⟨nb, 0, none⟩ (.int .i64 q')) ∧ KeepT W (W.setCell ⟨nb, 0, none⟩ (.int .i64 q')) := by
  obtain ⟨⟨h3, h4⟩, h6⟩ := h
  have hM : Mod (fun k => k = nb) W (W.setCell ⟨nb, 0, none⟩ (.int .i64 q')) := (Mod.refl (fun k => k = nb) W).setCell (p := ⟨nb, 0, none⟩) (.inl rfl) _
  refine ⟨⟨⟨h3.other h1 _, h4.set _⟩, h6.setCell (p := ⟨nb, 0, none⟩) hn _⟩, keepT_mod hM ?_⟩
  rintro k rfl
  exact ⟨_, _, h4, by decide⟩

theorem twI_own {β : Type} (w : World) (xb nb : Nat) (T : Int) (q : β → Int) {B : Nat} (hB : w.heap.size ≤ B) : OwnFrom B (fun s W => TwI w xb nb T (q s) W) := by
  intro s A C row hs hg hr
  have hr' : ∀ r, row = some r → ∃ o : Obj, A.heap[r]? = some o ∧ o.isCells = false := fun r e => (hr r e).2
  obtain ⟨⟨h3, h4⟩, h6⟩ := hs
  exact ⟨⟨boxed_own (β := β) xb _ (fun _ => _) s A C row h3 hg hr', boxed_own nb _ (fun s => .int .i64 (q s)) s A C row h4 hg hr'⟩, ownFrom_below (β := β) (Nat.le_refl _) hB s A C row h6 hg hr⟩

theorem TwI.drewN {w W : World} {xb nb : Nat} {T q : Int} (h : TwI w xb nb T q W) (n : Nat) : TwI w xb nb T q (W.drewN n) :=
  ⟨h.1, ⟨h.2.os, h.2.tape, h.2.output, h.2.size, h.2.block⟩⟩

theorem alloc_at (w : World) (o : Obj) (k : Nat) : (w.alloc o).heap[k]? = if k = w.heap.size then some o else w.heap[k]? := by
  show (w.heap.push o)[k]? = _
  rw [Array.getElem?_push]

theorem drew_size (w : World) : w.drew.heap.size = w.heap.size := rfl

theorem drew_at (w : World) (k : Nat) : w.drew.heap[k]? = w.heap[k]? := rfl

/-- A variable that was just made. -/
def VarAt (W : World) (k : Nat) : Prop := W.heap[k]? = some (.cells #[.pointer none] 36 (0, 0))

theorem VarAt.new {W : World} {k : Nat} (h : VarAt W k) : W.cell? ⟨k, 0, none⟩ = some (.pointer none) ∧ W.frozen? ⟨k, 0, none⟩ = false ∧ k ≠ W.heap.size ∧ ∀ o, (W.alloc o).cell? ⟨k, 0, none⟩ = some (.pointer none) ∧ (W.alloc o).frozen? ⟨k, 0, none⟩ = false := by
  have c := cell_of_heap h 0
  have f := free_of_heap h 0
  have hl := heap_lt h
  simp only [List.getElem?_toArray, List.getElem?_cons_zero] at c
  have h2 : ∀ o, VarAt (W.alloc o) k := fun o => (Below.heap_alloc _ _ _ hl).trans h
  refine ⟨c, f, by omega, fun o => ⟨?_, free_of_heap (h2 o) 0⟩⟩
  have c2 := cell_of_heap (h2 o) 0
  simpa using c2

theorem VarAt.mod {W W' : World} {k g : Nat} (h : VarAt W k) (hM : Mod (fun i => i = g) W W') (hne : k ≠ g) : VarAt W' k := hM.keep h hne

theorem Ext.setCell {a b : World} (h : Ext a b) {p : Addr} (hp : a.heap.size ≤ p.block) (v : Value) : Ext a (b.setCell p v) := by
  unfold Ext at h ⊢
  exact Mod.setCell h (.inr hp) v

/-- The copy of a document, in a variable. -/
def CopyAt (wa : World) (L : List (Int × Int)) (v : Value) (wx : World) : Prop :=
  ∃ vb wb kw vw, v = .pointer (some ⟨vb, 0, none⟩) ∧ Ext wa wx ∧ Boxed wx vb 36 (.pointer (some ⟨wb, 0, none⟩)) ∧ RefAt wx wb kw vw L ∧ wa.heap.size ≤ vb ∧ ∀ k, Blk wb wb kw vw k → wa.heap.size ≤ k

theorem own_zero {w : World} {base n : Nat} {e : TypeId} {v : Value} {xs : List Value} (ho : w.ownsRow base e 1 v n xs) : w.ownsRow 0 e 1 v n xs := by
  refine ⟨ho.1, ?_⟩
  rcases ho.2 with h | ⟨g, cap, cur, e, _, r⟩
  · exact .inl h
  · exact .inr ⟨g, cap, cur, e, Nat.zero_le _, r⟩

theorem copy_end {wa w2 X : World} {L : List (Int × Int)} {vb wb : Nat} {kw vw : Value}
    (hk : w2.ownsRow wa.heap.size 3 1 kw L.length (L.map fun x => .int .i64 x.1)) (hv : w2.ownsRow wa.heap.size 3 1 vw L.length (L.map fun x => .int .i64 x.2)) (ha : ∀ k, kw.ownBlock = some k → vw.ownBlock ≠ some k)
    (hE : Ext wa w2) (hX : Ext w2 X) (hvar : VarAt X vb) (hbox : X.heap[wb]? = some (.cells #[kw, vw] 38 (0, 0))) (h1 : wa.heap.size ≤ vb) (h2 : wa.heap.size ≤ wb) :
    CopyAt wa L (.pointer (some ⟨vb, 0, none⟩)) (X.setCell ⟨vb, 0, none⟩ (.pointer (some ⟨wb, 0, none⟩))) := by
  have hX' := hX
  unfold Ext at hX'
  have hk' := own_keep hX' hk (fun _ _ h => h)
  have hv' := own_keep hX' hv (fun _ _ h => h)
  have hM : Mod (fun k => k = vb) X (X.setCell ⟨vb, 0, none⟩ (.pointer (some ⟨wb, 0, none⟩))) := (Mod.refl (fun k => k = vb) X).setCell (p := ⟨vb, 0, none⟩) (.inl rfl) _
  have hne : wb ≠ vb := by
    rintro rfl
    rw [show X.heap[wb]? = _ from hvar] at hbox
    injection hbox with h
    injection h with _ e
    exact absurd e (by decide)
  refine ⟨vb, wb, kw, vw, rfl, (hE.trans hX).setCell h1 _, by simpa [Boxed] using heap_set (o := 0) (show X.heap[vb]? = _ from hvar) (.pointer (some ⟨wb, 0, none⟩)), ⟨hM.keep hbox hne, ?_, ?_, ha⟩, h1, ?_⟩
  · exact own_zero (own_keep hM hk' (fun k hk2 e => own_ne_elem hk' (show X.heap[vb]? = _ from hvar) (by decide) (by rw [hk2, e])))
  · exact own_zero (own_keep hM hv' (fun k hk2 e => own_ne_elem hv' (show X.heap[vb]? = _ from hvar) (by decide) (by rw [hk2, e])))
  · rintro k (rfl | rfl | e | e)
    · exact h2
    · exact h2
    · exact own_base hk e
    · exact own_base hv e

theorem copy_end0 {wa w2 X : World} {L : List (Int × Int)} {vb wb : Nat} {kw vw : Value}
    (hk : w2.ownsRow wa.heap.size 3 1 kw L.length (L.map fun x => .int .i64 x.1)) (hv : w2.ownsRow wa.heap.size 3 1 vw L.length (L.map fun x => .int .i64 x.2)) (ha : ∀ k, kw.ownBlock = some k → vw.ownBlock ≠ some k)
    (hE : Ext wa w2) (hX : Ext w2 X) (hvar : X.heap[vb]? = some (.cells #[.pointer (some ⟨wb, 0, none⟩)] 36 (0, 0))) (hbox : X.heap[wb]? = some (.cells #[kw, vw] 38 (0, 0))) (h1 : wa.heap.size ≤ vb) (h2 : wa.heap.size ≤ wb) :
    CopyAt wa L (.pointer (some ⟨vb, 0, none⟩)) X := by
  have hX' := hX
  unfold Ext at hX'
  have hk' := own_keep hX' hk (fun _ _ h => h)
  have hv' := own_keep hX' hv (fun _ _ h => h)
  refine ⟨vb, wb, kw, vw, rfl, hE.trans hX, hvar, ⟨hbox, own_zero hk', own_zero hv', ha⟩, h1, ?_⟩
  rintro k (rfl | rfl | e | e)
  · exact h2
  · exact h2
  · exact own_base hk e
  · exact own_base hv e

theorem copy_i {wa w2 : World} {L : List (Int × Int)} {vb : Nat} {kw vw : Value}
    (hk : w2.ownsRow wa.heap.size 3 1 kw L.length (L.map fun x => .int .i64 x.1)) (hv : w2.ownsRow wa.heap.size 3 1 vw L.length (L.map fun x => .int .i64 x.2)) (ha : ∀ k, kw.ownBlock = some k → vw.ownBlock ≠ some k) (hE : Ext wa w2) (hu : VarAt w2 vb) (h1 : wa.heap.size ≤ vb) :
    CopyAt wa L (.pointer (some ⟨vb, 0, none⟩)) ((w2.alloc (.cells #[kw, vw] 38)).setCell ⟨vb, 0, none⟩ (.pointer (some ⟨w2.heap.size, 0, none⟩))) :=
  copy_end hk hv ha hE ((Ext.refl w2).alloc _) ((Below.heap_alloc _ _ _ (heap_lt hu)).trans hu) (heap_alloc_new _ _) h1 (Ext.size hE)

theorem copy_ii {wa w2 : World} {L : List (Int × Int)} {kw vw : Value}
    (hk : w2.ownsRow wa.heap.size 3 1 kw L.length (L.map fun x => .int .i64 x.1)) (hv : w2.ownsRow wa.heap.size 3 1 vw L.length (L.map fun x => .int .i64 x.2)) (ha : ∀ k, kw.ownBlock = some k → vw.ownBlock ≠ some k) (hE : Ext wa w2) :
    CopyAt wa L (.pointer (some ⟨w2.heap.size + 1, 0, none⟩)) ((w2.alloc (.cells #[kw, vw] 38)).alloc (.cells #[.pointer (some ⟨w2.heap.size, 0, none⟩)] 36)) := by
  have hs := Ext.size hE
  have h1 := heap_alloc_new (w2.alloc (.cells #[kw, vw] 38)) (.cells #[.pointer (some ⟨w2.heap.size, 0, none⟩)] 36)
  rw [World.size_alloc] at h1
  exact copy_end0 hk hv ha hE (((Ext.refl w2).alloc _).alloc _) h1 ((Below.heap_alloc _ _ _ (by simp)).trans (heap_alloc_new _ _)) (by omega) hs

theorem copy_iii {wa w2 : World} {L : List (Int × Int)} {kw vw : Value}
    (hk : w2.ownsRow wa.heap.size 3 1 kw L.length (L.map fun x => .int .i64 x.1)) (hv : w2.ownsRow wa.heap.size 3 1 vw L.length (L.map fun x => .int .i64 x.2)) (ha : ∀ k, kw.ownBlock = some k → vw.ownBlock ≠ some k) (hE : Ext wa w2) :
    CopyAt wa L (.pointer (some ⟨w2.heap.size, 0, none⟩)) ((w2.alloc (.cells #[.pointer (some ⟨w2.heap.size + 1, 0, none⟩)] 36)).alloc (.cells #[kw, vw] 38)) := by
  have hs := Ext.size hE
  have h1 := heap_alloc_new (w2.alloc (.cells #[.pointer (some ⟨w2.heap.size + 1, 0, none⟩)] 36)) (.cells #[kw, vw] 38)
  rw [World.size_alloc] at h1
  exact copy_end0 hk hv ha hE (((Ext.refl w2).alloc _).alloc _) ((Below.heap_alloc _ _ _ (by simp)).trans (heap_alloc_new _ _)) h1 hs (by omega)

/-- The copy of a document, in a new block. -/
def FreshAt (wa : World) (L : List (Int × Int)) (v : Value) (wx : World) : Prop :=
  ∃ wb kw vw, v = .pointer (some ⟨wb, 0, none⟩) ∧ Ext wa wx ∧ RefAt wx wb kw vw L ∧ ∀ k, Blk wb wb kw vw k → wa.heap.size ≤ k

theorem fresh_i {wa w2 : World} {L : List (Int × Int)} {kw vw : Value}
    (hk : w2.ownsRow wa.heap.size 3 1 kw L.length (L.map fun x => .int .i64 x.1)) (hv : w2.ownsRow wa.heap.size 3 1 vw L.length (L.map fun x => .int .i64 x.2)) (ha : ∀ k, kw.ownBlock = some k → vw.ownBlock ≠ some k) (hE : Ext wa w2) :
    FreshAt wa L (.pointer (some ⟨w2.heap.size, 0, none⟩)) (w2.alloc (.cells #[kw, vw] 38)) := by
  refine ⟨w2.heap.size, kw, vw, rfl, hE.alloc _, ⟨heap_alloc_new _ _, own_zero (hk.alloc _), own_zero (hv.alloc _), ha⟩, ?_⟩
  have hs := Ext.size hE
  rintro k (rfl | rfl | e | e)
  · exact hs
  · exact hs
  · exact own_base hk e
  · exact own_base hv e

/-- A range over a function that ends or is broken off: one way behind it. -/
theorem rangeF_mid {F : Fence} {n : Nat} {P : Program} {α : Type} {g : Operand} {ps : Array Tmp} {assign body : Code} {Q : Exit → Act → World → Prop} {a : Act} {w : World}
    (hro : F.round = none) (h1 : 1 ≤ n) {gf : Nat} {lb : Array Value} (hg : a.eval g = .func (.func gf) #[] lb) (hFg : F.fn gf) (eg : ∀ args w, (callFunc gf args).run P w = .ok (.enter gf args) w)
    {encs : α → Array Value} {Kp : World → World → Prop} {S Sp : List α → Prop} {N : Nat} {w0 : World} (hseq : SeqStopsK F (n - 1) P gf lb encs Kp S Sp N w0)
    (hKt : ∀ {A B C : World}, Kp A B → Kp B C → Kp A C) (hKb : ∀ (W : World) (l : Nat) (o o' : Obj), w.heap.size ≤ l → W.heap[l]? = some o → o.isCells = false → o.isWalk = false → Kp W (W.putObj l o')) (hb0 : Below w0.heap.size w0 w) (hps : ∀ x, (encs x).size = ps.size)
    (I : List α → World → Prop) (id : Nat) (X : World → Prop) (Z : List α → Prop) (R : World → Prop) (hI : OwnFrom w.heap.size I) (hX : OwnFrom w.heap.size (fun (_ : List α) W => X W)) (h0 : I [] w)
    (hex : ∃ a₁ : α → Act, (∀ (l : Nat) (x : α) (W : World) (K : Act → World → Prop), K (a₁ x) W →
      assign.wpIn (F.inRound l) (n - 1 - 1) P (Exit.then K (fun _ _ _ => False)) { tmps := (ps.zip (encs x)).foldl (fun t (p, v) => t.setIfInBounds p v) a.tmps, defers := [] } W) ∧
      (∀ (l : Nat) (pre : List α) (x : α) (W : World), I pre W → pre.length < N → body.wpIn (F.inRound l) (n - 1 - 1) P (ownPostK Kp I (fun c pre W => (c = .exit id ∧ X W) ∨ (c = .ret ∧ Z pre)) (pre ++ [x]) W) (a₁ x) W))
    (hdone : ∀ xs W, S xs → I xs W → R W) (hstop : ∀ W, X W → R W) (hZ : ∀ pre, Sp pre → ¬ Z pre) (hbrk : ∀ a' W, Q .normal a' W → Q (.exit id) a' W)
    (hnext : ∀ (D : Nat) (W : World), w.heap.size ≤ D → R W → W.heap[D]? = some (.deferred (some [])) → Q .normal { a with defers := { target := .collected D, args := #[] } :: a.defers } W) :
    (Code.rangeFunc g ps assign body).wpIn F n P Q a w := by
  obtain ⟨a₁, ha, hb⟩ := hex
  refine wpIn_rangeFunc_ownF hro h1 hg hFg eg hseq hKt hKb hb0 hps I (fun c pre W => (c = .exit id ∧ X W) ∨ (c = .ret ∧ Z pre)) hI ?_ h0 a₁ ha hb ?_ ?_
  · intro c s A C row hs hgr hr
    rcases hs with ⟨e, h⟩ | ⟨e, h⟩
    · exact .inl ⟨e, hX s A C row h hgr hr⟩
    · exact .inr ⟨e, h⟩
  · intro D xs W hD hS hI hK
    exact hnext D W hD (hdone xs W hS hI) hK
  · rintro D c pre W hD hSp (⟨rfl, hx⟩ | ⟨_, hz⟩) hK
    · exact wpIn_exit (hbrk _ _ (hnext D W hD (hstop W hx) hK))
    · exact absurd hz (hZ pre hSp)

theorem boxed_later {W W' : World} {B : Nat} {t : TypeId} {v : Value} (h : Boxed W B t v) (hB : Below W.heap.size W W') : Boxed W' B t v := (hB.block B h.lt).trans h

/-- A row that was just made, of no elements. -/
theorem fresh_at {X : World} {g base : Nat} {e : TypeId} (hb : base ≤ g) (h : X.heap[g]? = some (.cells #[] e (0, 0))) : X.ownsRow base e 1 (.slice (some ⟨g, 0, none⟩) 0 0) 0 [] :=
  ⟨rfl, .inr ⟨g, 0, #[], rfl, hb, h, by simp⟩⟩

theorem run_append_nil_src {P : Program} (w : World) (t ty e : TypeId) (i : TypeInfo) (ht : P.underlying t = some (.slice e)) (hi : P.info? e = some i) (g : Nat) :
    (Builtin.append_ #[t, t] ty #[.slice (some ⟨g, 0, none⟩) 0 0, .slice none 0 0]).run P w = .ok (.slice (some ⟨g, 0, none⟩) 0 0) w := by
  simp [Builtin.append_, run_underlying ht, sizeOf, typeInfo, hi, Builtin.lenOf, Builtin.firstCells, storeCells]

/-- 'append([]T{}, x..)' at a step of a region that draws: the copy of a row. -/
theorem step_copy {P : Program} {w : World} {ops : Array Oper} {o : Oper} {a : Act} {K : Act → World → Prop} {Q : Exit → Act → World → Prop} {E : Prop} (hgd : o.guard = none) (s x : Operand) (t : TypeId)
    (ho : o.op = .call { callee := .builtin .append, args := #[s, x], argTypes := #[t, t] })
    (e : TypeId) (i : TypeInfo) (z : Value) (bytes : Nat) (ht : P.underlying t = some (.slice e)) (hi : P.info? e = some i) (hz : i.zero = some z)
    (hsize : i.size = 1) (hby : i.bytes = bytes) (hzs : z.cells.size = 1)
    {wa : World} {kv : Value} {n : Nat} {xs : List Value} (hsrc : wa.ownsRow 0 e 1 kv n xs) (hE : Ext wa w) (g : Nat) (hs : a.eval s = .slice (some ⟨g, 0, none⟩) 0 0) (hg : wa.heap.size ≤ g) (hf : w.heap[g]? = some (.cells #[] e (0, 0)))
    (hx : a.eval x = kv) (h1 : ∀ u ∈ xs, u.oneCell' = true) (h63 : n ≤ 1000000000) (hbytes : bytes ≤ 1000)
    (h : ∀ so sc w', w'.ownsRow wa.heap.size e 1 (.slice so n sc) n xs → Mod (fun k => k = g) w w' → Ext wa w' → (∀ k, (Value.slice so n sc).ownBlock = some k → (k = g ∨ w.heap.size ≤ k) ∧ k < w'.heap.size) → K (a.put o.dst (.slice so n sc)) w') :
    if Region.wanted o (yielded ops a.tmps) = true then Oper.wp P o a w K Q else E := by
  have hw : Region.wanted o (yielded ops a.tmps) = true := by simp [Region.wanted, hgd]
  rw [if_pos hw]
  have hsz := Ext.size hE
  have hlen := hsrc.1
  rw [Nat.mul_one] at hlen
  rcases hsrc.2 with ⟨rfl, rfl⟩ | ⟨gs, cap, cur, rfl, _, hgs, _⟩
  · obtain rfl : xs = [] := List.length_eq_zero_iff.1 hlen
    have hr := run_append_nil_src (P := P) w t o.type e i ht hi g
    unfold Oper.wp execOp
    simp only [ho, resolve, invoke, builtin, Sem.run_bind, Sem.run_pure, Result.andThen_ok, List.map_toArray, List.map_cons, List.map_nil, hs, hx, hr]
    refine h _ _ w (fresh_at hg hf) (Mod.refl _ w) hE (fun k hk => ?_)
    obtain rfl := Option.some.inj hk
    exact ⟨.inl rfl, heap_lt hf⟩
  · have hnews : ∀ j u, xs[j]? = some u → w.cell? ((⟨gs, 0, none⟩ : Addr).add j) = some u := by
      intro j u hu
      have hj := (List.getElem?_eq_some_iff.1 hu).1
      obtain ⟨g', cap', x0, he, hx0, hc, _⟩ := own_cell hsrc (j := j) (by omega)
      injection he with e1
      injection e1 with e1
      injection e1 with e1
      subst e1
      rw [hu] at hx0
      obtain rfl := Option.some.inj hx0
      have e : (⟨gs, 0, none⟩ : Addr).add j = ⟨gs, j, none⟩ := by unfold Addr.add; split <;> simp_all
      rw [e]
      exact hE.cell hc
    have hbb : (0 + n) * bytes ≤ 140737488355328 := by
      rw [Nat.zero_add]
      exact Nat.le_trans (Nat.mul_le_mul h63 hbytes) (by omega)
    obtain ⟨v', w', hr, h2, h3, _, h5⟩ := run_append_own_at (P := P) w wa.heap.size t o.type e i z 1 bytes ht hi hz hsize hby hzs (by decide) _ 0 [] (fresh_at hg hf) ⟨gs, 0, none⟩ n cap xs (by omega) hnews h1 (by simp only [maxLen]; omega) hbb (by omega)
    rw [Nat.zero_add, List.nil_append] at h2
    obtain ⟨so, sc, rfl⟩ := own_slice h2
    have hM : Mod (fun k => k = g) w w' := (Mod.of_grown h3).mono (fun k _ e => Option.some.inj e)
    unfold Oper.wp execOp
    simp only [ho, resolve, invoke, builtin, Sem.run_bind, Sem.run_pure, Result.andThen_ok, List.map_toArray, List.map_cons, List.map_nil, hs, hx, hr]
    refine h so sc w' h2 hM (ext_of_mod hE hM (fun k e => e ▸ hg)) (fun k hk => ?_)
    obtain ⟨cur', hc'⟩ := own_blk h2 hk
    refine ⟨?_, heap_lt hc'⟩
    rcases h5 with h5 | h5
    · rw [hk] at h5
      exact .inl (Option.some.inj h5)
    · rw [hk] at h5
      exact .inr (Nat.le_of_eq (Option.some.inj h5).symm)

end Go.Proofs.Ytpkapfhfnnfomaa
