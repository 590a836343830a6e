/- Rows of terms that are one's own; a term more. -/
import Derived.Test.YtdimmomjildpcaaAppRow
import Derived.Test.YtdimmomjildpcaaTmTwin
namespace Go.Proofs.Ytdimmomjildpcaa
open Go.RowKit
attribute [local irreducible] Ext

/-- A term with where its elements lie. -/
abbrev El := Tm × Option Addr × Nat

def elC (e : El) : List Value := [.int .i64 e.1.kind, .int .i64 e.1.n, .float .f64 e.1.f, .string e.1.s, .slice e.2.1 e.1.l.length e.2.2]

def fl5 (es : List El) : List Value := es.flatMap elC

theorem fl5_nil : fl5 [] = [] := rfl
theorem fl5_cons (e : El) (es : List El) : fl5 (e :: es) = elC e ++ fl5 es := by simp [fl5]
theorem fl5_append (es fs : List El) : fl5 (es ++ fs) = fl5 es ++ fl5 fs := by simp [fl5]
theorem fl5_one (e : El) : fl5 [e] = elC e := by simp [fl5]

theorem fl5_length (es : List El) : (fl5 es).length = es.length * 5 := by
  induction es with
  | nil => rfl
  | cons x L ih =>
    rw [fl5_cons, List.length_append, ih]
    simp [elC]
    omega

theorem fl5_at {L : List El} {i : Nat} {x : El} (h : L[i]? = some x) (j : Nat) (hj : j < 5) : (fl5 L)[i * 5 + j]? = (elC x)[j]? := by
  induction L generalizing i with
  | nil => simp at h
  | cons y L ih =>
    rw [fl5_cons]
    cases i with
    | zero =>
      obtain rfl : y = x := by simpa using h
      rw [List.getElem?_append_left (by simp [elC]; omega)]
      congr 1
      omega
    | succ i =>
      have h' := ih (i := i) (by simpa using h)
      rw [List.getElem?_append_right (by simp [elC]; omega), ← h']
      congr 1
      simp [elC]
      omega

theorem elC_ones (e : El) : ∀ u ∈ elC e, u.oneCell' = true := by
  intro u hu
  simp [elC] at hu
  rcases hu with rfl | rfl | rfl | rfl | rfl <;> rfl

theorem fl5_ones (es : List El) : ∀ u ∈ fl5 es, u.oneCell' = true := by
  intro u hu
  obtain ⟨e, _, h⟩ := List.mem_flatMap.1 hu
  exact elC_ones e u h

/-- A row of terms that is one's own; what they have lies in blocks of S, apart from the row. -/
structure TRow (w : World) (S : Nat → Prop) (v : Value) (es : List El) : Prop where
  own : w.ownsRow 0 25 5 v es.length (fl5 es)
  mine : ∀ k, v.ownBlock = some k → S k
  sub : ∀ e ∈ es, RowIn w true (fun k => S k ∧ some k ≠ v.ownBlock) e.1.l e.2.1 0

theorem TRow.nil (w : World) (S : Nat → Prop) : TRow w S (.slice none 0 0) [] := ⟨World.ownsRow_nil _ _ _ _, (fun k h => by cases h), (fun e h => by cases h)⟩

theorem TRow.slice {w : World} {S : Nat → Prop} {v : Value} {es : List El} (h : TRow w S v es) : ∃ so cap, v = .slice so es.length cap := own_slice h.own

/-- A row of terms keeps to blocks of terms. -/
theorem RowIn.typed {w : World} {G : Nat → Prop} : ∀ (t : Tm) (b o : Nat), TmIn w true G t b o → TmIn w true (fun k => G k ∧ ∃ cur, w.heap[k]? = some (.cells cur 25 (0, 0))) t b o := by
  intro t
  induction t using Tm.ind with
  | h t ih =>
    intro b o h
    obtain ⟨h0, h1, h2, h3, so, cap, h4, hr⟩ := h.cells
    refine TmIn.mk' ⟨h0, h1, h2, h3, so, cap, h4, RowIn.of_get fun j x hx => ?_⟩
    obtain ⟨b', o', e, g, ob, hi⟩ := hr.get hx
    exact ⟨b', o', e, ⟨g, ob rfl⟩, ob, ih x (List.mem_of_getElem? hx) b' _ hi⟩

theorem RowIn.types {w : World} {G : Nat → Prop} {l : List Tm} {so : Option Addr} {i : Nat} (h : RowIn w true G l so i) : RowIn w true (fun k => G k ∧ ∃ cur, w.heap[k]? = some (.cells cur 25 (0, 0))) l so i :=
  RowIn.of_get fun _ _ hx => by
    obtain ⟨b', o', e, g, ob, hi⟩ := h.get hx
    exact ⟨b', o', e, ⟨g, ob rfl⟩, ob, RowIn.typed _ _ _ hi⟩

/-- Is a block of another kind? -/
def Other (w : World) (k : Nat) : Prop := ∀ cur, w.heap[k]? ≠ some (.cells cur 25 (0, 0))

theorem TRow.keep {F : Nat → Prop} {w w' : World} {S : Nat → Prop} {v : Value} {es : List El} (h : TRow w S v es) (hM : Mod F w w') (hF : ∀ k, F k → ¬ S k ∨ Other w k) : TRow w' S v es := by
  have key : ∀ k cur, S k → w.heap[k]? = some (.cells cur 25 (0, 0)) → ¬ F k := by
    intro k cur hs hc hf
    rcases hF k hf with h | h
    · exact h hs
    · exact h cur hc
  refine ⟨own_keep hM h.own (fun k hk hf => ?_), h.mine, fun e he => ?_⟩
  · obtain ⟨cur, hc⟩ := own_blk h.own hk
    exact key k cur (h.mine k hk) hc hf
  · exact ((h.sub e he).types.keep hM (fun k hk => by obtain ⟨⟨a, _⟩, cur, hc⟩ := hk; exact key k cur a hc)).mono (fun k hk => hk.1)

theorem TRow.ext {w w' : World} {S : Nat → Prop} {v : Value} {es : List El} (h : TRow w S v es) (hE : Ext w w') : TRow w' S v es := by
  refine h.keep (F := fun _ => False) ?_ (fun _ h => h.elim)
  unfold Ext at hE
  exact hE

theorem TRow.mono {w : World} {S S' : Nat → Prop} {v : Value} {es : List El} (h : TRow w S v es) (hS : ∀ k, S k → S' k) : TRow w S' v es :=
  ⟨h.own, fun k hk => hS k (h.mine k hk), fun e he => (h.sub e he).mono (fun k hk => ⟨hS k hk.1, hk.2⟩)⟩

theorem TRow.own_lt {w : World} {S : Nat → Prop} {v : Value} {es : List El} (h : TRow w S v es) {k : Nat} (hk : v.ownBlock = some k) : k < w.heap.size := by
  obtain ⟨cur, hc⟩ := own_blk h.own hk
  exact heap_lt hc

theorem TRow.bound {w : World} {S : Nat → Prop} {v : Value} {es : List El} (h : TRow w S v es) : TRow w (fun k => S k ∧ k < w.heap.size) v es :=
  ⟨h.own, fun k hk => ⟨h.mine k hk, h.own_lt hk⟩, fun e he => (h.sub e he).bound.mono (fun _ hk => ⟨⟨hk.1.1, hk.2⟩, hk.1.2⟩)⟩

/-- One of them. -/
theorem TRow.at_ {w : World} {S : Nat → Prop} {v : Value} {es : List El} (h : TRow w S v es) {i : Nat} {e : El} (he : es[i]? = some e) :
    ∃ g cap cur, v = .slice (some ⟨g, 0, none⟩) es.length cap ∧ es.length ≤ cap ∧ S g ∧ w.heap[g]? = some (.cells cur 25 (0, 0)) ∧ w.cell? ⟨g, i * 5, none⟩ = some (.int .i64 e.1.kind) ∧ w.cell? ⟨g, i * 5 + 1, none⟩ = some (.int .i64 e.1.n) ∧ w.cell? ⟨g, i * 5 + 2, none⟩ = some (.float .f64 e.1.f) ∧ w.cell? ⟨g, i * 5 + 3, none⟩ = some (.string e.1.s) ∧
      w.cell? ⟨g, i * 5 + 4, none⟩ = some (.slice e.2.1 e.1.l.length e.2.2) := by
  have hi := (List.getElem?_eq_some_iff.1 he).1
  rcases h.own.2 with ⟨_, h0⟩ | ⟨g, cap, cur, rfl, hb, hg, hn, _⟩
  · omega
  · have key : ∀ j, j < 5 → w.cell? ⟨g, i * 5 + j, none⟩ = (elC e)[j]? := by
      intro j hj
      rw [World.ownsRow.cellAt (w := w) h.own (i * 5 + j) (by omega), fl5_at he j hj]
    refine ⟨g, cap, cur, rfl, hn, h.mine g rfl, hg, ?_, ?_, ?_, ?_, ?_⟩
    · have := key 0 (by decide); rw [Nat.add_zero] at this; exact this
    · exact key 1 (by decide)
    · exact key 2 (by decide)
    · exact key 3 (by decide)
    · exact key 4 (by decide)

/-- As terms that lie in memory. -/
theorem TRow.row {w : World} {S : Nat → Prop} {so : Option Addr} {n cap : Nat} {es : List El} (h : TRow w S (.slice so n cap) es) : RowIn w true (fun k => S k ∧ k < w.heap.size) (es.map Prod.fst) so 0 := by
  refine RowIn.of_get fun j x hx => ?_
  rw [List.getElem?_map] at hx
  cases he : es[j]? with
  | none => rw [he] at hx; simp at hx
  | some e =>
    rw [he] at hx
    obtain rfl : e.1 = x := by simpa using hx
    obtain ⟨g, cap', cur, hv, hc, hb, hg, c0, c1, c2, c3, c4⟩ := h.at_ he
    injection hv with hv
    subst hv
    refine ⟨g, 0, rfl, ⟨hb, heap_lt hg⟩, fun _ => ⟨cur, hg⟩, ?_⟩
    rw [Nat.zero_add, Nat.zero_add]
    exact TmIn.mk' ⟨c0, c1, c2, c3, _, _, c4, (h.sub e (List.mem_of_getElem? he)).bound.mono (fun _ hk => ⟨hk.1.1, hk.2⟩)⟩

/-- One more. -/
theorem TRow.push {wA wB w' : World} {S : Nat → Prop} {v v' : Value} {es : List El} {e : El} {tmp : Obj} (h : TRow wA S v es) (hE : Ext wA wB) (hx : RowIn wB true (fun k => wA.heap.size ≤ k) e.1.l e.2.1 0)
    (hown : w'.ownsRow 0 25 5 v' (es.length + 1) (fl5 es ++ elC e)) (hM : Mod (fun k => some k = v.ownBlock) (wB.alloc tmp) w') (hb : v'.ownBlock = v.ownBlock ∨ v'.ownBlock = some (wB.alloc tmp).heap.size) : TRow w' (fun k => S k ∨ wA.heap.size ≤ k) v' (es ++ [e]) := by
  have hs := hE.size
  have hs2 : (wB.alloc tmp).heap.size = wB.heap.size + 1 := by simp
  have hs3 := hM.size
  rw [hs2] at hb hs3
  have hEt : Ext wB (wB.alloc tmp) := (Ext.refl wB).alloc tmp
  refine ⟨?_, fun k hk => ?_, fun d hd => ?_⟩
  · rw [List.length_append, fl5_append, fl5_one]
    exact hown
  · rcases hb with hb | hb
    · exact .inl (h.mine k (by rw [← hb]; exact hk))
    · rw [hb] at hk
      have := Option.some.inj hk
      exact .inr (by omega)
  · rcases List.mem_append.1 hd with hd | hd
    · have h1 := (((h.sub d hd).bound).ext hE).ext hEt
      refine (h1.keep hM (fun k hk => hk.1.2)).mono (fun k hk => ⟨.inl hk.1.1, ?_⟩)
      rcases hb with hb | hb
      · rw [hb]; exact hk.1.2
      · rw [hb]
        intro e
        have := Option.some.inj e
        omega
    · obtain rfl : d = e := by simpa using hd
      have h1 := (hx.bound.ext hEt)
      refine (h1.keep hM (fun k hk e => ?_)).mono (fun k hk => ⟨.inr hk.1, ?_⟩)
      · have := h.own_lt e.symm; omega
      · rcases hb with hb | hb
        · rw [hb]
          intro e
          have := h.own_lt e.symm; omega
        · rw [hb]
          intro e
          have := Option.some.inj e
          omega

/-- One term's cells in a block of their own. -/
theorem src_el {w : World} {g : Nat} (e : El) (h : w.heap[g]? = some (.cells (elC e).toArray 25 (0, 0))) : Src w (some ⟨g, 0, none⟩) (elC e) := by
  intro j u hu
  refine ⟨_, rfl, ?_⟩
  have e1 : (⟨g, 0, none⟩ : Addr).add j = ⟨g, j, none⟩ := by unfold Addr.add; split <;> simp_all
  rw [e1, cell_of_heap h j, ← hu]
  simp

theorem info5 : (Try.prog.info? 25).map (fun i => (i.zero, i.size, i.bytes)) = some (some (.agg #[.int .i64 0, .int .i64 0, .float .f64 0, .string ⟨#[]⟩, .slice none 0 0]), 5, 64) := by kernel_rfl

end Go.Proofs.Ytdimmomjildpcaa
