/- Rows of elements of three cells; appending to them. -/
import Derived.Test.YtjgpoggbakanlaaVPlace
import Derived.Maps.AppendAt
import Derived.Deep.AppendLies
import Derived.Deep.RegionHeld3
import Derived.Deep.RegionLaw
import Derived.StillTailTactics
namespace Go.Proofs.Ytjgpoggbakanlaa
open Go.RowKit
attribute [local irreducible] Ext

/-- The cells of a row, one behind the other. -/
def fl (L : List (Int × Int × ByteArray)) : List Value := L.flatMap fun x => [.int .i64 x.1, .int .i64 x.2.1, .string x.2.2]

theorem fl_cons (x : (Int × Int × ByteArray)) (L : List (Int × Int × ByteArray)) : fl (x :: L) = [.int .i64 x.1, .int .i64 x.2.1, .string x.2.2] ++ fl L := by simp [fl]
theorem fl_append (L M : List (Int × Int × ByteArray)) : fl (L ++ M) = fl L ++ fl M := by simp [fl]

theorem fl_length (L : List (Int × Int × ByteArray)) : (fl L).length = L.length * 3 := by
  induction L with
  | nil => rfl
  | cons x L ih =>
    rw [fl_cons, List.length_append, ih]
    simp
    omega

theorem fl_at {L : List (Int × Int × ByteArray)} {i : Nat} {x : (Int × Int × ByteArray)} (h : L[i]? = some x) : (fl L)[i * 3]? = some (.int .i64 x.1) ∧ (fl L)[i * 3 + 1]? = some (.int .i64 x.2.1) ∧ (fl L)[i * 3 + 2]? = some (.string x.2.2) := by
  induction L generalizing i with
  | nil => simp at h
  | cons y L ih =>
    rw [fl_cons]
    cases i with
    | zero =>
      obtain rfl : y = x := by simpa using h
      simp
    | succ i =>
      have h' := ih (i := i) (by simpa using h)
      rw [show (i + 1) * 3 = i * 3 + 1 + 1 + 1 by omega]
      simpa using h'

theorem fl_ones (L : List (Int × Int × ByteArray)) : ∀ u ∈ fl L, u.oneCell' = true := by
  intro u hu
  obtain ⟨x, _, hx⟩ := List.mem_flatMap.1 hu
  simp at hx
  rcases hx with rfl | rfl | rfl <;> rfl

/-- A row of elements: it lies from its block's head on, or there is none. -/
def Row3 (w : World) (v : Value) (L : List (Int × Int × ByteArray)) : Prop := w.ownsRow 0 31 3 v L.length (fl L)

theorem Row3.at_ {w : World} {v : Value} {L : List (Int × Int × ByteArray)} (h : Row3 w v L) {i : Nat} {x : (Int × Int × ByteArray)} (hx : L[i]? = some x) :
    ∃ g cap, v = .slice (some ⟨g, 0, none⟩) L.length cap ∧ L.length ≤ cap ∧ w.cell? ⟨g, i * 3, none⟩ = some (.int .i64 x.1) ∧ w.cell? ⟨g, i * 3 + 1, none⟩ = some (.int .i64 x.2.1) ∧ w.cell? ⟨g, i * 3 + 2, none⟩ = some (.string x.2.2) := by
  have hi := (List.getElem?_eq_some_iff.1 hx).1
  obtain ⟨f0, f1, f2⟩ := fl_at hx
  rcases h.2 with ⟨_, h0⟩ | ⟨g, cap, cur, rfl, hb, hg, hn, _⟩
  · omega
  · refine ⟨g, cap, rfl, hn, ?_, ?_, ?_⟩
    · rw [World.ownsRow.cellAt (w := w) h (i * 3) (by omega), f0]
    · rw [World.ownsRow.cellAt (w := w) h (i * 3 + 1) (by omega), f1]
    · rw [World.ownsRow.cellAt (w := w) h (i * 3 + 2) (by omega), f2]

theorem Row3.slice {w : World} {v : Value} {L : List (Int × Int × ByteArray)} (h : Row3 w v L) : (v = .slice none 0 0 ∧ L = []) ∨ ∃ g cap, v = .slice (some ⟨g, 0, none⟩) L.length cap ∧ L.length ≤ cap := by
  rcases h.2 with ⟨rfl, h0⟩ | ⟨g, cap, cur, rfl, hb, hg, hn, _⟩
  · exact .inl ⟨rfl, List.length_eq_zero_iff.1 h0⟩
  · exact .inr ⟨g, cap, rfl, hn⟩

theorem Row3.keep {F : Nat → Prop} {w w' : World} {v : Value} {L : List (Int × Int × ByteArray)} (h : Row3 w v L) (hM : Mod F w w') (hF : ∀ k, v.ownBlock = some k → ¬ F k) : Row3 w' v L := own_keep hM h hF

theorem Row3.lt {w : World} {v : Value} {L : List (Int × Int × ByteArray)} (h : Row3 w v L) : ∀ k, v.ownBlock = some k → k < w.heap.size := by
  intro k hk
  obtain ⟨cur, hc⟩ := own_blk h hk
  exact heap_lt hc

/-- Cells that a source has, nil let in. -/
def Src (w : World) (so : Option Addr) (xs : List Value) : Prop := ∀ j u, xs[j]? = some u → ∃ ad, so = some ad ∧ w.cell? (ad.add j) = some u

theorem Src.nil (w : World) (so : Option Addr) : Src w so [] := fun j u h => by simp at h

theorem Src.ext {w w' : World} {so : Option Addr} {xs : List Value} (h : Src w so xs) (hE : Ext w w') : Src w' so xs := fun j u hu => by
  obtain ⟨ad, e, hc⟩ := h j u hu
  exact ⟨ad, e, hE.cell hc⟩

theorem src_own {w : World} {g cap : Nat} {L : List (Int × Int × ByteArray)} (h : Row3 w (.slice (some ⟨g, 0, none⟩) L.length cap) L) (k : Nat) (so : Option Addr) (hso : (fl (L.drop k)) = [] ∨ so = some ⟨g, k * 3, none⟩) : Src w so (fl (L.drop k)) := by
  intro j u hu
  rcases hso with h0 | rfl
  · rw [h0] at hu; simp at hu
  · have hj := (List.getElem?_eq_some_iff.1 hu).1
    rw [fl_length, List.length_drop] at hj
    have hu' : (fl L)[k * 3 + j]? = some u := by
      have e : fl L = fl (L.take k) ++ fl (L.drop k) := by rw [← fl_append, List.take_append_drop]
      rw [e, List.getElem?_append_right (by rw [fl_length, List.length_take]; omega), fl_length, List.length_take, ← hu]
      congr 1
      omega
    refine ⟨⟨g, k * 3, none⟩, rfl, ?_⟩
    have e : (⟨g, k * 3, none⟩ : Addr).add j = ⟨g, k * 3 + j, none⟩ := by unfold Addr.add; split <;> simp_all
    rw [e, World.ownsRow.cellAt (w := w) h (k * 3 + j) (by omega), hu']

theorem src_take {w : World} {g cap : Nat} {L : List (Int × Int × ByteArray)} (h : Row3 w (.slice (some ⟨g, 0, none⟩) L.length cap) L) (k : Nat) : Src w (some ⟨g, 0, none⟩) (fl (L.take k)) := by
  intro j u hu
  have hj := (List.getElem?_eq_some_iff.1 hu).1
  have hu' : (fl L)[j]? = some u := by
    have e : fl L = fl (L.take k) ++ fl (L.drop k) := by rw [← fl_append, List.take_append_drop]
    rw [e, List.getElem?_append_left hj, hu]
  have hj' := (List.getElem?_eq_some_iff.1 hu').1
  refine ⟨⟨g, 0, none⟩, rfl, ?_⟩
  have e : (⟨g, 0, none⟩ : Addr).add j = ⟨g, j, none⟩ := by unfold Addr.add; split <;> simp_all
  rw [e, World.ownsRow.cellAt (w := w) h j (by rw [fl_length] at hj'; exact hj'), hu']

theorem run_append_none {P : Program} (w : World) (base : Nat) (t ty e : TypeId) (i : TypeInfo) (size : Nat) (ht : P.underlying t = some (.slice e)) (hi : P.info? e = some i)
    (v : Value) (n : Nat) (xs : List Value) (hown : w.ownsRow base e size v n xs) (c : Nat) : (Builtin.append_ #[t, t] ty #[v, .slice none 0 c]).run P w = .ok v w := by
  rcases hown.2 with ⟨rfl, rfl⟩ | ⟨g, cap, cur, rfl, _, _, hnc, _⟩
  · simp [Builtin.append_, run_underlying ht, sizeOf, typeInfo, hi, Builtin.lenOf, Builtin.firstCells]
  · simp [Builtin.append_, run_underlying ht, sizeOf, typeInfo, hi, Builtin.lenOf, Builtin.firstCells, hnc, storeCells]

/-- 'append(v, x..)', whatever the source is. -/
theorem run_app {P : Program} (w : World) (base : Nat) (t ty e : TypeId) (i : TypeInfo) (z : Value) (size bytes : Nat) (ht : P.underlying t = some (.slice e)) (hi : P.info? e = some i) (hz : i.zero = some z)
    (hsize : i.size = size) (hby : i.bytes = bytes) (hzs : z.cells.size = size) (hsz : 0 < size)
    (v : Value) (n : Nat) (xs : List Value) (hown : w.ownsRow base e size v n xs)
    (so : Option Addr) (m c : Nat) (news : List Value) (hl : news.length = m * size) (hsrc : Src w so news) (h1 : ∀ u ∈ news, u.oneCell' = true)
    (h63 : n + m ≤ 1000000000) (hbytes : bytes ≤ 1000) (hbase : base ≤ w.heap.size) :
    ∃ so' sc w', (Builtin.append_ #[t, t] ty #[v, .slice so m c]).run P w = .ok (.slice so' (n + m) sc) w' ∧ w'.ownsRow base e size (.slice so' (n + m) sc) (n + m) (xs ++ news) ∧ Mod (fun k => some k = v.ownBlock) w w' ∧
      ((Value.slice so' (n + m) sc).ownBlock = v.ownBlock ∨ (Value.slice so' (n + m) sc).ownBlock = some w.heap.size) := by
  cases so with
  | none =>
    have hn : news = [] := by
      cases news with
      | nil => rfl
      | cons u us =>
        obtain ⟨ad, e, _⟩ := hsrc 0 u rfl
        cases e
    subst hn
    have hm : m = 0 := by
      have h0 : m * size = 0 := by simpa using hl.symm
      rcases Nat.mul_eq_zero.1 h0 with h | h
      · exact h
      · omega
    subst hm
    obtain ⟨so', sc, rfl⟩ := own_slice hown
    exact ⟨so', sc, w, run_append_none w base t ty e i size ht hi _ n xs hown c, by simpa using hown, Mod.refl _ w, .inl rfl⟩
  | some ad =>
    have hnews : ∀ j u, news[j]? = some u → w.cell? (ad.add j) = some u := fun j u hu => by
      obtain ⟨ad', e, hc⟩ := hsrc j u hu
      injection e with e
      subst e
      exact hc
    have hbb : (n + m) * bytes ≤ 140737488355328 := Nat.le_trans (Nat.mul_le_mul h63 hbytes) (by omega)
    obtain ⟨v', w', hr, h2, h3, _, h5⟩ := run_append_own_at (P := P) w base t ty e i z size bytes ht hi hz hsize hby hzs hsz v n xs hown ad m c news hl hnews h1 (by simp only [maxLen]; omega) hbb hbase
    obtain ⟨so', sc, rfl⟩ := own_slice h2
    exact ⟨so', sc, w', hr, h2, .of_grown h3, h5⟩

theorem wp_app {P : Program} {w : World} {o : Oper} {a : Act} {K : Act → World → Prop} {Q : Exit → Act → World → Prop} (s x : Operand) (t : TypeId)
    (ho : o.op = .call { callee := .builtin .append, args := #[s, x], argTypes := #[t, t] })
    (base : Nat) (e : TypeId) (i : TypeInfo) (z : Value) (size bytes : Nat) (ht : P.underlying t = some (.slice e)) (hi : P.info? e = some i) (hz : i.zero = some z)
    (hsize : i.size = size) (hby : i.bytes = bytes) (hzs : z.cells.size = size) (hsz : 0 < size)
    (v : Value) (n : Nat) (xs : List Value) (hs : a.eval s = v) (hown : w.ownsRow base e size v n xs)
    (so : Option Addr) (m c : Nat) (news : List Value) (hx : a.eval x = .slice so m c) (hl : news.length = m * size) (hsrc : Src w so news) (h1 : ∀ u ∈ news, u.oneCell' = true)
    (h63 : n + m ≤ 1000000000) (hbytes : bytes ≤ 1000) (hbase : base ≤ w.heap.size)
    (h : ∀ so' sc w', w'.ownsRow base e size (.slice so' (n + m) sc) (n + m) (xs ++ news) → Mod (fun k => some k = v.ownBlock) w w' →
      ((Value.slice so' (n + m) sc).ownBlock = v.ownBlock ∨ (Value.slice so' (n + m) sc).ownBlock = some w.heap.size) → K (a.put o.dst (.slice so' (n + m) sc)) w') : o.wp P a w K Q := by
  obtain ⟨so', sc, w', hr, h2, h3, h4⟩ := run_app (P := P) w base t o.type e i z size bytes ht hi hz hsize hby hzs hsz v n xs hown so m c news hl hsrc h1 h63 hbytes hbase
  unfold Oper.wp execOp
  simp only [ho, resolve, invoke, builtin, Sem.run_bind, Sem.run_pure, Result.andThen_ok, List.map_toArray, List.map_cons, List.map_nil, hs, hx, hr]
  exact h so' sc w' h2 h3 h4

theorem wpList_app {P : Program} {w : World} {ops : Array Oper} {rest : List Oper} {o : Oper} {a : Act} {Q : Exit → Act → World → Prop} (hgd : o.guard = none) (s x : Operand) (t : TypeId)
    (ho : o.op = .call { callee := .builtin .append, args := #[s, x], argTypes := #[t, t] })
    (base : Nat) (e : TypeId) (i : TypeInfo) (z : Value) (size bytes : Nat) (ht : P.underlying t = some (.slice e)) (hi : P.info? e = some i) (hz : i.zero = some z)
    (hsize : i.size = size) (hby : i.bytes = bytes) (hzs : z.cells.size = size) (hsz : 0 < size)
    (v : Value) (n : Nat) (xs : List Value) (hs : a.eval s = v) (hown : w.ownsRow base e size v n xs)
    (so : Option Addr) (m c : Nat) (news : List Value) (hx : a.eval x = .slice so m c) (hl : news.length = m * size) (hsrc : Src w so news) (h1 : ∀ u ∈ news, u.oneCell' = true)
    (h63 : n + m ≤ 1000000000) (hbytes : bytes ≤ 1000) (hbase : base ≤ w.heap.size)
    (h : ∀ so' sc w', w'.ownsRow base e size (.slice so' (n + m) sc) (n + m) (xs ++ news) → Mod (fun k => some k = v.ownBlock) w w' →
      ((Value.slice so' (n + m) sc).ownBlock = v.ownBlock ∨ (Value.slice so' (n + m) sc).ownBlock = some w.heap.size) → wpList P ops Q rest (a.put o.dst (.slice so' (n + m) sc)) w') : wpList P ops Q (o :: rest) a w :=
  wpList_plain hgd fun _ hK => wp_app s x t ho base e i z size bytes ht hi hz hsize hby hzs hsz v n xs hs hown so m c news hx hl hsrc h1 h63 hbytes hbase fun so' sc w' h2 h3 h4 => hK _ _ (h so' sc w' h2 h3 h4)

theorem step_app {P : Program} {w : World} {ops : Array Oper} {o : Oper} {a : Act} {K : Act → World → Prop} {Q : Exit → Act → World → Prop} {E : Prop} (hgd : o.guard = none) (s x : Operand) (t : TypeId)
    (ho : o.op = .call { callee := .builtin .append, args := #[s, x], argTypes := #[t, t] })
    (base : Nat) (e : TypeId) (i : TypeInfo) (z : Value) (size bytes : Nat) (ht : P.underlying t = some (.slice e)) (hi : P.info? e = some i) (hz : i.zero = some z)
    (hsize : i.size = size) (hby : i.bytes = bytes) (hzs : z.cells.size = size) (hsz : 0 < size)
    (v : Value) (n : Nat) (xs : List Value) (hs : a.eval s = v) (hown : w.ownsRow base e size v n xs)
    (so : Option Addr) (m c : Nat) (news : List Value) (hx : a.eval x = .slice so m c) (hl : news.length = m * size) (hsrc : Src w so news) (h1 : ∀ u ∈ news, u.oneCell' = true)
    (h63 : n + m ≤ 1000000000) (hbytes : bytes ≤ 1000) (hbase : base ≤ w.heap.size)
    (h : ∀ so' sc w', w'.ownsRow base e size (.slice so' (n + m) sc) (n + m) (xs ++ news) → Mod (fun k => some k = v.ownBlock) w w' →
      ((Value.slice so' (n + m) sc).ownBlock = v.ownBlock ∨ (Value.slice so' (n + m) sc).ownBlock = some w.heap.size) → K (a.put o.dst (.slice so' (n + m) sc)) w') :
    if Region.wanted o (yielded ops a.tmps) = true then Oper.wp P o a w K Q else E := by
  have hw : Region.wanted o (yielded ops a.tmps) = true := by simp [Region.wanted, hgd]
  rw [if_pos hw]
  exact wp_app s x t ho base e i z size bytes ht hi hz hsize hby hzs hsz v n xs hs hown so m c news hx hl hsrc h1 h63 hbytes hbase h

/-- A row that was just made, of no elements. -/
theorem fresh_at {X : World} {g base size : Nat} {e : TypeId} (hb : base ≤ g) (h : X.heap[g]? = some (.cells #[] e (0, 0))) : X.ownsRow base e size (.slice (some ⟨g, 0, none⟩) 0 0) 0 [] :=
  ⟨by simp, .inr ⟨g, 0, #[], rfl, hb, h, by simp⟩⟩

theorem own_zero {w : World} {base n size : Nat} {e : TypeId} {v : Value} {xs : List Value} (ho : w.ownsRow base e size v n xs) : w.ownsRow 0 e size v n xs := by
  refine ⟨ho.1, ?_⟩
  rcases ho.2 with h | ⟨g, cap, cur, e, _, r⟩
  · exact .inl h
  · exact .inr ⟨g, cap, cur, e, Nat.zero_le _, r⟩

theorem own_base' {w : World} {base size n : Nat} {e : TypeId} {v : Value} {xs : List Value} (ho : w.ownsRow base e size v n xs) {k : Nat} (hk : v.ownBlock = some k) : base ≤ k := by
  rcases ho.2 with ⟨rfl, _⟩ | ⟨g, cap, cur, rfl, hb, _⟩
  · cases hk
  · exact (Option.some.inj hk) ▸ hb

/-- A row's cell is written. -/
theorem own_setN {w : World} {base size n g cap : Nat} {e : TypeId} {xs : List Value} (ho : w.ownsRow base e size (.slice (some ⟨g, 0, none⟩) n cap) n xs) (j : Nat) (u : Value) :
    (w.setCell ⟨g, j, none⟩ u).ownsRow base e size (.slice (some ⟨g, 0, none⟩) n cap) n (xs.set j u) := by
  refine ⟨by rw [List.length_set]; exact ho.1, ?_⟩
  rcases ho.2 with ⟨h, _⟩ | ⟨g', cap', cur, he, hb, hg, h1, h2, h3, h4⟩
  · cases h
  · injection he with e1 e2 e3
    injection e1 with e1
    injection e1 with e1 _
    subst e1 e3
    refine .inr ⟨g, cap, cur.setIfInBounds j u, rfl, hb, heap_set hg u, h1, h2, by simpa using h3, ?_⟩
    rw [Array.toList_setIfInBounds, List.take_set, h4]

theorem fl_set (L : List (Int × Int × ByteArray)) {i : Nat} (x : (Int × Int × ByteArray)) (hi : i < L.length) : (((fl L).set (i * 3) (.int .i64 x.1)).set (i * 3 + 1) (.int .i64 x.2.1)).set (i * 3 + 2) (.string x.2.2) = fl (L.set i x) := by
  induction L generalizing i with
  | nil => simp at hi
  | cons y L ih =>
    cases i with
    | zero => simp [fl_cons]
    | succ i =>
      have h := ih (i := i) (by simpa using hi)
      rw [show (i + 1) * 3 = i * 3 + 1 + 1 + 1 by omega]
      rw [fl_cons, List.set_cons_succ, fl_cons, ← h]
      simp

/-- The world behind a store into a row. -/
def set3r (W : World) (g i : Nat) (x : (Int × Int × ByteArray)) : World := ((W.setCell ⟨g, i * 3, none⟩ (.int .i64 x.1)).setCell ⟨g, i * 3 + 1, none⟩ (.int .i64 x.2.1)).setCell ⟨g, i * 3 + 2, none⟩ (.string x.2.2)

theorem Row3.set {w : World} {g cap : Nat} {L : List (Int × Int × ByteArray)} (h : Row3 w (.slice (some ⟨g, 0, none⟩) L.length cap) L) {i : Nat} (hi : i < L.length) (x : (Int × Int × ByteArray)) : Row3 (set3r w g i x) (.slice (some ⟨g, 0, none⟩) L.length cap) (L.set i x) := by
  have := own_setN (own_setN (own_setN h (i * 3) (.int .i64 x.1)) (i * 3 + 1) (.int .i64 x.2.1)) (i * 3 + 2) (.string x.2.2)
  rw [fl_set L x hi] at this
  unfold Row3 set3r
  rw [List.length_set]
  exact this

theorem set3r_mod {F : Nat → Prop} {w W : World} {g : Nat} (h : Mod F w W) (hz : F g ∨ w.heap.size ≤ g) (i : Nat) (x : (Int × Int × ByteArray)) : Mod F w (set3r W g i x) :=
  ((h.setCell (p := ⟨g, i * 3, none⟩) hz _).setCell (p := ⟨g, i * 3 + 1, none⟩) hz _).setCell (p := ⟨g, i * 3 + 2, none⟩) hz _

theorem Row3.free {w : World} {g n cap : Nat} {L : List (Int × Int × ByteArray)} (h : Row3 w (.slice (some ⟨g, 0, none⟩) n cap) L) (o : Nat) : w.frozen? ⟨g, o, none⟩ = false := by
  obtain ⟨cur, hc⟩ := own_blk h (k := g) rfl
  exact free_of_heap hc o

theorem info3 : (Try.prog.info? 31).map (fun i => (i.zero, i.size, i.bytes)) = some (some (.agg #[.int .i64 0, .int .i64 0, .string ⟨#[]⟩]), 3, 32) := by kernel_rfl

end Go.Proofs.Ytjgpoggbakanlaa
