/- An inbox: Put. -/
import Derived.Test.YteiognkbkpidiaaInBox3
namespace Go.Proofs.Yteiognkbkpidiaa
open Go.RowKit
attribute [local irreducible] Ext
attribute [local go_sem] run_store_float

/-- A term's cells are stored at a place. -/
def set5o (W : World) (B o : Nat) (e : El) : World :=
  ((((W.setCell ⟨B, o, none⟩ (.int .i64 e.1.kind)).setCell ⟨B, o + 1, none⟩ (.int .i64 e.1.n)).setCell ⟨B, o + 2, none⟩ (.float .f64 e.1.f)).setCell ⟨B, o + 3, none⟩ (.string e.1.s)).setCell ⟨B, o + 4, none⟩ (.slice e.2.1 e.1.l.length e.2.2)

theorem set5o_mod {F : Nat → Prop} {w W : World} {B : Nat} (h : Mod F w W) (hz : F B ∨ w.heap.size ≤ B) (o : Nat) (e : El) : Mod F w (set5o W B o e) :=
  ((((h.setCell (p := ⟨B, o, none⟩) hz _).setCell (p := ⟨B, o + 1, none⟩) hz _).setCell (p := ⟨B, o + 2, none⟩) hz _).setCell (p := ⟨B, o + 3, none⟩) hz _).setCell (p := ⟨B, o + 4, none⟩) hz _

theorem fl5_set (L : List El) {i : Nat} (x : El) (hi : i < L.length) : (((((fl5 L).set (i * 5) (.int .i64 x.1.kind)).set (i * 5 + 1) (.int .i64 x.1.n)).set (i * 5 + 2) (.float .f64 x.1.f)).set (i * 5 + 3) (.string x.1.s)).set (i * 5 + 4) (.slice x.2.1 x.1.l.length x.2.2) = fl5 (L.set i x) := by
  induction L generalizing i with
  | nil => simp at hi
  | cons y L ih =>
    cases i with
    | zero => simp [fl5_cons, elC]
    | succ i =>
      have h := ih (i := i) (by simpa using hi)
      rw [show (i + 1) * 5 = i * 5 + 1 + 1 + 1 + 1 + 1 by omega]
      rw [fl5_cons, List.set_cons_succ, fl5_cons, ← h]
      simp [elC]

/-- One of a row is written over. -/
theorem TRow.set {w : World} {S : Nat → Prop} {g n cap : Nat} {es : List El} (h : TRow w S (.slice (some ⟨g, 0, none⟩) n cap) es) (hn : n = es.length) {i : Nat} (hi : i < es.length) (x : El) (hx : RowIn w true (fun k => S k ∧ k ≠ g) x.1.l x.2.1 0) :
    TRow (set5o w g (i * 5) x) S (.slice (some ⟨g, 0, none⟩) n cap) (es.set i x) := by
  have ho := h.own
  subst hn
  have hM : Mod (fun k => k = g) w (set5o w g (i * 5) x) := set5o_mod (F := fun k => k = g) (Mod.refl _ w) (.inl rfl) _ x
  refine ⟨?_, h.mine, fun e he => ?_⟩
  · rw [List.length_set, ← fl5_set es x hi]
    exact own_setN (own_setN (own_setN (own_setN (own_setN ho (i * 5) _) (i * 5 + 1) _) (i * 5 + 2) _) (i * 5 + 3) _) (i * 5 + 4) _
  · rcases List.mem_or_eq_of_mem_set he with he | rfl
    · exact (h.sub e he).keep hM (fun k hk e => hk.2 (congrArg some e))
    · exact (hx.keep hM (fun k hk e => hk.2 e)).mono (fun k hk => ⟨hk.1, fun e => hk.2 (Option.some.inj e)⟩)

theorem set_last (es : List El) (z x : El) : (es ++ [z]).set es.length x = es ++ [x] := by
  rw [List.set_append_right _ _ (Nat.le_refl _), Nat.sub_self]
  rfl

def zEl : El := (.mk 0 0 0 ⟨#[]⟩ [], none, 0)

/-- A copy was made first, then the row grew by a zero. -/
theorem push_late {wA wB w' : World} {S : Nat → Prop} {v : Value} {es : List El} {x : El} {tmp : Obj} {g cap : Nat} (h : TRow wA S v es) (hE : Ext wA wB) (hx : RowIn wB true (fun k => wA.heap.size ≤ k) x.1.l x.2.1 0)
    (hown : w'.ownsRow 0 27 5 (.slice (some ⟨g, 0, none⟩) (es.length + 1) cap) (es.length + 1) (fl5 es ++ zeroEl)) (hM : Mod (fun k => some k = v.ownBlock) (wB.alloc tmp) w') (hb : (Value.slice (some ⟨g, 0, none⟩) (es.length + 1) cap).ownBlock = v.ownBlock ∨ (Value.slice (some ⟨g, 0, none⟩) (es.length + 1) cap).ownBlock = some (wB.alloc tmp).heap.size) :
    TRow (set5o w' g (es.length * 5) x) (fun k => S k ∨ wA.heap.size ≤ k) (.slice (some ⟨g, 0, none⟩) (es.length + 1) cap) (es ++ [x]) := by
  have h1 : TRow w' (fun k => S k ∨ wA.heap.size ≤ k) (.slice (some ⟨g, 0, none⟩) (es.length + 1) cap) (es ++ [zEl]) := h.push (e := zEl) hE trivial hown hM hb
  have hs := hE.size
  have hs2 : (wB.alloc tmp).heap.size = wB.heap.size + 1 := by simp
  have hx1 := ((hx.bound.ext ((Ext.refl wB).alloc tmp)).keep hM (fun k hk e => by have := h.own_lt e.symm; omega)).mono (G' := fun k => (S k ∨ wA.heap.size ≤ k) ∧ k ≠ g) (fun k hk => ⟨.inr hk.1, fun e => by
    subst e
    rcases hb with hb | hb
    · have := h.own_lt (k := k) (by rw [← hb]; rfl); omega
    · have := Option.some.inj hb; rw [hs2] at this; have e2 : k = wB.heap.size + 1 := this; omega⟩)
  have := h1.set (by simp) (i := es.length) (by simp) x hx1
  rw [set_last] at this
  exact this

/-- The row grew by a zero first, then a copy was made. -/
theorem push_early {wA w1 w2 : World} {S : Nat → Prop} {v : Value} {es : List El} {x : El} {tmp : Obj} {g cap : Nat} (h : TRow wA S v es)
    (hown : w1.ownsRow 0 27 5 (.slice (some ⟨g, 0, none⟩) (es.length + 1) cap) (es.length + 1) (fl5 es ++ zeroEl)) (hM : Mod (fun k => some k = v.ownBlock) (wA.alloc tmp) w1) (hb : (Value.slice (some ⟨g, 0, none⟩) (es.length + 1) cap).ownBlock = v.ownBlock ∨ (Value.slice (some ⟨g, 0, none⟩) (es.length + 1) cap).ownBlock = some (wA.alloc tmp).heap.size)
    (hE : Ext w1 w2) (hx : RowIn w2 true (fun k => w1.heap.size ≤ k) x.1.l x.2.1 0) :
    TRow (set5o w2 g (es.length * 5) x) (fun k => S k ∨ wA.heap.size ≤ k) (.slice (some ⟨g, 0, none⟩) (es.length + 1) cap) (es ++ [x]) := by
  have h1 : TRow w1 (fun k => S k ∨ wA.heap.size ≤ k) (.slice (some ⟨g, 0, none⟩) (es.length + 1) cap) (es ++ [zEl]) := h.push (e := zEl) (Ext.refl wA) trivial hown hM hb
  have hg := h1.own_lt (k := g) rfl
  have hs2 : (wA.alloc tmp).heap.size = wA.heap.size + 1 := by simp
  have hs3 := hM.size
  have := (h1.ext hE).set (by simp) (i := es.length) (by simp) x (hx.mono (fun k hk => ⟨.inr (by omega), fun e => by omega⟩))
  rw [set_last] at this
  exact this

end Go.Proofs.Yteiognkbkpidiaa
