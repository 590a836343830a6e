/- One inbox in a law; acts that are made. -/
import Derived.Test.YteiognkbkpidiaaInFew
namespace Go.Proofs.Yteiognkbkpidiaa
open Go.RowKit
attribute [local irreducible] Ext
attribute [local go_sem] run_store_float

/-- The law's box: what it has was made behind the law's beginning. -/
def Bx (W0 w : World) (b : Nat) (words place : Int) (l : List Tm) : Prop :=
  ∃ S v es, BoxV w S b 16777216 words place v es ∧ es.map Prod.fst = l ∧ (∀ k, S k → W0.heap.size ≤ k) ∧ Ext W0 w

theorem ext_mod' {W0 w w' : World} {S : Nat → Prop} (hE : Ext W0 w) (hM : Mod S w w') (hS : ∀ k, S k → W0.heap.size ≤ k) : Ext W0 w' := ext_of_mod hE hM hS

section
variable {W0 w w' : World} {b : Nat} {words place : Int} {l : List Tm}

theorem Bx.old (h : Bx W0 w b words place l) : Ext W0 w := by
  obtain ⟨_, _, _, _, _, _, hE⟩ := h
  exact hE

theorem Bx.ext (h : Bx W0 w b words place l) (hE : Ext w w') : Bx W0 w' b words place l := by
  obtain ⟨S, v, es, hb, h1, h2, h3⟩ := h
  exact ⟨S, v, es, hb.ext hE, h1, h2, h3.trans hE⟩

theorem bx_new (hE : Ext W0 w) : Bx W0 (w.alloc (.cells #[.int .i64 16777216, .int .i64 0, .slice none 0 0, .int .i64 0] 59)) w.heap.size 0 0 [] :=
  ⟨fun k => k = w.heap.size, _, [], box_new w (fun k => k = w.heap.size) rfl 16777216, rfl, fun k e => by have := hE.size; omega, hE.alloc _⟩

theorem bx_put (h : Bx W0 w b words place l) {own : Bool} {G : Nat → Prop} {xv : Value} {x : Tm} (hx : TmV w own G xv x) (hG : ∀ k, G k → k < W0.heap.size) (hc : cntT x ≤ 100000000) (hok : okT x) (he : checkT x = 0) (hl : l.length ≤ 1000) (hw0 : 0 ≤ words) (hw1 : words + (wordsT x + 2) ≤ 16777216) :
    Calls Try.prog 10 #[.pointer (some ⟨b, 0, none⟩), xv] w fun e w' => e = .returned (.int .i64 0) ∧ Bx W0 w' b (words + (wordsT x + 2)) place (l ++ [x]) := by
  obtain ⟨S, v, es, hb, h1, h2, h3⟩ := h
  have hlen : es.length ≤ 100000000 := by have := congrArg List.length h1; rw [List.length_map] at this; omega
  have hwr := words_range x
  refine (put_ok w hb hx (fun k hk hs => by have := hG k hk; have := h2 k hs; omega) hc hok he hlen hw0 (by omega) (by omega)).mono ?_
  rintro e w' ⟨rfl, v', so, cap, hb', hM⟩
  have hs := h3.size
  exact ⟨rfl, _, v', _, hb', by simp [h1], fun k hk => by rcases hk with hk | hk; exact h2 k hk; omega, ext_mod' h3 hM h2⟩

def BxNext (W0 : World) (b : Nat) (words place : Int) (l : List Tm) (x : Tm) (e : Ending) (w' : World) : Prop :=
  ∃ so cap, e = .returned (.tuple #[elV x so cap, .bool true]) ∧ RowIn w' true (fun k => W0.heap.size ≤ k) x.l so 0 ∧ Bx W0 w' b words place l

theorem bx_next (h : Bx W0 w b words place l) {p : Nat} {x : Tm} (hp : place = (p : Int)) (hx : l[p]? = some x) (hl : l.length ≤ 1000) (hc : cntT x ≤ 100000000) :
    Calls Try.prog 11 #[.pointer (some ⟨b, 0, none⟩)] w fun e w' => BxNext W0 b words ((p : Int) + 1) l x e w' := by
  obtain ⟨S, v, es, hb, h1, h2, h3⟩ := h
  subst hp
  have hlen : es.length ≤ 100000000 := by have := congrArg List.length h1; rw [List.length_map] at this; omega
  have hs := h3.size
  rw [← h1, List.getElem?_map] at hx
  cases hy : es[p]? with
  | none => rw [hy] at hx; simp at hx
  | some y =>
    rw [hy] at hx
    obtain rfl : y.1 = x := by simpa using hx
    refine (next_some w hb hy hlen hc).mono ?_
    rintro e w' ⟨so, cap, rfl, hr, hb', hM⟩
    exact ⟨so, cap, rfl, hr.mono (fun k hk => by omega), S, v, es, hb', h1, h2, ext_mod' h3 hM h2⟩

theorem bx_none (h : Bx W0 w b words place l) (hp : place = (l.length : Int)) :
    Calls Try.prog 11 #[.pointer (some ⟨b, 0, none⟩)] w fun e w' => e = .returned (.tuple #[.agg #[.int .i64 0, .int .i64 0, .float .f64 0, .string ⟨#[]⟩, .slice none 0 0], .bool false]) ∧ Ext w w' := by
  obtain ⟨S, v, es, hb, h1, h2, h3⟩ := h
  have hlen : (es.length : Int) = place := by rw [hp, ← h1, List.length_map]
  subst hlen
  exact next_none w hb

def BxTake (W0 : World) (b : Nat) (words : Int) (l : List Tm) (x : Tm) (e : Ending) (w' : World) : Prop :=
  ∃ so cap, e = .returned (.tuple #[elV x so cap, .int .i64 0]) ∧ RowIn w' true (fun k => W0.heap.size ≤ k) x.l so 0 ∧ Bx W0 w' b words 0 l

theorem bx_take (h : Bx W0 w b words place l) {p : Nat} {x : Tm} (hp : place = (p : Int) + 1) (hx : l[p]? = some x) (hl : l.length ≤ 1000) (hc : cntT x ≤ 100000000) (hok : okT x) (hw0 : 0 ≤ words) (hw1 : words ≤ 16777216) :
    Calls Try.prog 13 #[.pointer (some ⟨b, 0, none⟩)] w fun e w' => BxTake W0 b (words - (wordsT x + 2)) (l.eraseIdx p) x e w' := by
  obtain ⟨S, v, es, hb, h1, h2, h3⟩ := h
  subst hp
  have hlen : es.length ≤ 100000000 := by have := congrArg List.length h1; rw [List.length_map] at this; omega
  have hx0 := hx
  rw [← h1, List.getElem?_map] at hx
  cases hy : es[p]? with
  | none => rw [hy] at hx; simp at hx
  | some y =>
    rw [hy] at hx
    obtain rfl : y.1 = x := by simpa using hx
    refine (take_some w hb hy hlen hc hok (by omega) (by omega)).mono ?_
    rintro e w' ⟨rfl, v', hb', hr, hM⟩
    exact ⟨y.2.1, y.2.2, rfl, hr.mono (fun k hk => h2 k hk.1), S, v', _, hb', by rw [eb_erase, h1], h2, ext_mod' h3 hM h2⟩

theorem bx_len (h : Bx W0 w b words place l) : Calls Try.prog 14 #[.pointer (some ⟨b, 0, none⟩)] w fun e w' => e = .returned (.int .i64 l.length) ∧ w = w' := by
  obtain ⟨S, v, es, hb, h1, h2, h3⟩ := h
  subst h1
  rw [List.length_map]
  exact blen_any hb
end

/-- An act's six cells. -/
def acC (e : Int × El) : List Value := .int .i64 e.1 :: elC e.2

def fl6 (es : List (Int × El)) : List Value := es.flatMap acC

theorem fl6_cons (e : Int × El) (es : List (Int × El)) : fl6 (e :: es) = acC e ++ fl6 es := by simp [fl6]
theorem fl6_append (es fs : List (Int × El)) : fl6 (es ++ fs) = fl6 es ++ fl6 fs := by simp [fl6]
theorem fl6_one (e : Int × El) : fl6 [e] = acC e := by simp [fl6]

theorem fl6_at {L : List (Int × El)} {i : Nat} {x : Int × El} (h : L[i]? = some x) (j : Nat) (hj : j < 6) : (fl6 L)[i * 6 + j]? = (acC x)[j]? := by
  induction L generalizing i with
  | nil => simp at h
  | cons y L ih =>
    rw [fl6_cons]
    cases i with
    | zero =>
      obtain rfl : y = x := by simpa using h
      rw [List.getElem?_append_left (by simp [acC, elC]; omega)]
      congr 1
      omega
    | succ i =>
      have h' := ih (i := i) (by simpa using h)
      rw [List.getElem?_append_right (by simp [acC, elC]; omega), ← h']
      congr 1
      simp [acC, elC]
      omega

theorem acC_ones (e : Int × El) : ∀ u ∈ acC e, u.oneCell' = true := by
  intro u hu
  simp [acC, elC] at hu
  rcases hu with rfl | rfl | rfl | rfl | rfl | rfl <;> rfl

/-- Acts that the law makes, of an argument's terms. -/
structure ARow (W0 w : World) (v : Value) (es : List (Int × El)) : Prop where
  own : w.ownsRow W0.heap.size 29 6 v es.length (fl6 es)
  sub : ∀ e ∈ es, RowIn W0 false (fun k => k < W0.heap.size) e.2.1.l e.2.2.1 0

section
variable {W0 w w' : World} {v : Value} {es : List (Int × El)}

theorem ARow.nil (W0 w : World) : ARow W0 w (.slice none 0 0) [] := ⟨World.ownsRow_nil _ _ _ _, fun _ h => by cases h⟩

theorem ARow.slice (h : ARow W0 w v es) : ∃ so cap, v = .slice so es.length cap := own_slice h.own

theorem ARow.ext (h : ARow W0 w v es) (hE : Ext w w') : ARow W0 w' v es := by
  refine ⟨own_keep (F := fun _ => False) ?_ h.own (fun _ _ h => h), h.sub⟩
  unfold Ext at hE
  exact hE

theorem ARow.acts {so : Option Addr} {n cap : Nat} (h : ARow W0 w (.slice so n cap) es) (hE : Ext W0 w) : ActsAt w false (fun k => k < W0.heap.size) (es.map fun e => (e.1, e.2.1)) so := by
  intro k x hx
  rw [List.getElem?_map] at hx
  cases hy : es[k]? with
  | none => rw [hy] at hx; simp at hx
  | some y =>
    rw [hy] at hx
    obtain rfl : (y.1, y.2.1) = x := by simpa using hx
    have hk := (List.getElem?_eq_some_iff.1 hy).1
    rcases h.own.2 with ⟨_, h0⟩ | ⟨g, cap', cur, he, hb, hg, hn, _⟩
    · omega
    · injection he with e1 e2 e3
      subst e1 e2 e3
      have key : ∀ j, j < 6 → w.cell? ⟨g, k * 6 + j, none⟩ = (acC y)[j]? := by
        intro j hj
        rw [World.ownsRow.cellAt (w := w) h.own (k * 6 + j) (by omega), fl6_at hy j hj]
      have k0 := key 0 (by decide)
      rw [Nat.add_zero] at k0
      refine ⟨g, 0, y.2.2.1, y.2.2.2, rfl, ?_⟩
      rw [Nat.zero_add]
      exact ⟨k0, key 1 (by decide), key 2 (by decide), key 3 (by decide), key 4 (by decide), key 5 (by decide), y.2.2.1, y.2.2.2, rfl, (h.sub y (List.mem_of_getElem? hy)).ext hE⟩

theorem info6 : (Try.prog.info? 29).map (fun i => (i.zero, i.size, i.bytes)) = some (some (.agg #[.int .i64 0, .int .i64 0, .int .i64 0, .float .f64 0, .string ⟨#[]⟩, .slice none 0 0]), 6, 72) := by kernel_rfl

/-- One act's cells in a block of their own. -/
theorem src_act {g : Nat} (e : Int × El) (h : w.heap[g]? = some (.cells (acC e).toArray 29 (0, 0))) : Src w (some ⟨g, 0, none⟩) (acC e) := by
  intro j u hu
  refine ⟨_, rfl, ?_⟩
  have e1 : (⟨g, 0, none⟩ : Addr).add j = ⟨g, j, none⟩ := by unfold Addr.add; split <;> simp_all
  rw [e1, cell_of_heap h j, ← hu]
  simp

/-- One more. -/
theorem ARow.push {v' : Value} {e : Int × El} (h : ARow W0 w v es) (hx : RowIn W0 false (fun k => k < W0.heap.size) e.2.1.l e.2.2.1 0)
    (hown : w'.ownsRow W0.heap.size 29 6 v' (es.length + 1) (fl6 es ++ acC e)) : ARow W0 w' v' (es ++ [e]) := by
  refine ⟨?_, fun d hd => ?_⟩
  · rw [List.length_append, fl6_append, fl6_one]
    exact hown
  · rcases List.mem_append.1 hd with hd | hd
    · exact h.sub d hd
    · obtain rfl : d = e := by simpa using hd
      exact hx
end

end Go.Proofs.Yteiognkbkpidiaa
