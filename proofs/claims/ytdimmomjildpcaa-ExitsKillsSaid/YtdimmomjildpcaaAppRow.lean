/- Appending to rows that are one's own, whatever their elements' size. -/
import Derived.Test.YtdimmomjildpcaaTmMem
import Derived.Maps.AppendAt
import Derived.Deep.AppendLies
namespace Go.Proofs.Ytdimmomjildpcaa
open Go.RowKit
attribute [local irreducible] Ext

/-- Cells that a source has, nil let in. -/
def Src (w : World) (so : Option Addr) (xs : List Value) : Prop := ∀ j u, xs[j]? = some u → ∃ ad, so = some ad ∧ w.cell? (ad.add j) = some u

theorem Src.nil (w : World) (so : Option Addr) : Src w so [] := fun j u h => by simp at h

theorem Src.ext {w w' : World} {so : Option Addr} {xs : List Value} (h : Src w so xs) (hE : Ext w w') : Src w' so xs := fun j u hu => by
  obtain ⟨ad, e, hc⟩ := h j u hu
  exact ⟨ad, e, hE.cell hc⟩

theorem run_append_none {P : Program} (w : World) (base : Nat) (t ty e : TypeId) (i : TypeInfo) (size : Nat) (ht : P.underlying t = some (.slice e)) (hi : P.info? e = some i)
    (v : Value) (n : Nat) (xs : List Value) (hown : w.ownsRow base e size v n xs) (c : Nat) : (Builtin.append_ #[t, t] ty #[v, .slice none 0 c]).run P w = .ok v w := by
  rcases hown.2 with ⟨rfl, rfl⟩ | ⟨g, cap, cur, rfl, _, _, hnc, _⟩
  · simp [Builtin.append_, run_underlying ht, sizeOf, typeInfo, hi, Builtin.lenOf, Builtin.firstCells]
  · simp [Builtin.append_, run_underlying ht, sizeOf, typeInfo, hi, Builtin.lenOf, Builtin.firstCells, hnc, storeCells]

/-- 'append(v, x..)', whatever the source is. -/
theorem run_app {P : Program} (w : World) (base : Nat) (t ty e : TypeId) (i : TypeInfo) (z : Value) (size bytes : Nat) (ht : P.underlying t = some (.slice e)) (hi : P.info? e = some i) (hz : i.zero = some z)
    (hsize : i.size = size) (hby : i.bytes = bytes) (hzs : z.cells.size = size) (hsz : 0 < size)
    (v : Value) (n : Nat) (xs : List Value) (hown : w.ownsRow base e size v n xs)
    (so : Option Addr) (m c : Nat) (news : List Value) (hl : news.length = m * size) (hsrc : Src w so news) (h1 : ∀ u ∈ news, u.oneCell' = true)
    (h63 : n + m ≤ 1000000000) (hbytes : bytes ≤ 1000) (hbase : base ≤ w.heap.size) :
    ∃ so' sc w', (Builtin.append_ #[t, t] ty #[v, .slice so m c]).run P w = .ok (.slice so' (n + m) sc) w' ∧ w'.ownsRow base e size (.slice so' (n + m) sc) (n + m) (xs ++ news) ∧ Mod (fun k => some k = v.ownBlock) w w' ∧
      ((Value.slice so' (n + m) sc).ownBlock = v.ownBlock ∨ (Value.slice so' (n + m) sc).ownBlock = some w.heap.size) := by
  cases so with
  | none =>
    have hn : news = [] := by
      cases news with
      | nil => rfl
      | cons u us =>
        obtain ⟨ad, e, _⟩ := hsrc 0 u rfl
        cases e
    subst hn
    have hm : m = 0 := by
      have h0 : m * size = 0 := by simpa using hl.symm
      rcases Nat.mul_eq_zero.1 h0 with h | h
      · exact h
      · omega
    subst hm
    obtain ⟨so', sc, rfl⟩ := own_slice hown
    exact ⟨so', sc, w, run_append_none w base t ty e i size ht hi _ n xs hown c, by simpa using hown, Mod.refl _ w, .inl rfl⟩
  | some ad =>
    have hnews : ∀ j u, news[j]? = some u → w.cell? (ad.add j) = some u := fun j u hu => by
      obtain ⟨ad', e, hc⟩ := hsrc j u hu
      injection e with e
      subst e
      exact hc
    have hbb : (n + m) * bytes ≤ 140737488355328 := Nat.le_trans (Nat.mul_le_mul h63 hbytes) (by omega)
    obtain ⟨v', w', hr, h2, h3, _, h5⟩ := run_append_own_at (P := P) w base t ty e i z size bytes ht hi hz hsize hby hzs hsz v n xs hown ad m c news hl hnews h1 (by simp only [maxLen]; omega) hbb hbase
    obtain ⟨so', sc, rfl⟩ := own_slice h2
    exact ⟨so', sc, w', hr, h2, .of_grown h3, h5⟩

theorem wp_app {P : Program} {w : World} {o : Oper} {a : Act} {K : Act → World → Prop} {Q : Exit → Act → World → Prop} (s x : Operand) (t : TypeId)
    (ho : o.op = .call { callee := .builtin .append, args := #[s, x], argTypes := #[t, t] })
    (base : Nat) (e : TypeId) (i : TypeInfo) (z : Value) (size bytes : Nat) (ht : P.underlying t = some (.slice e)) (hi : P.info? e = some i) (hz : i.zero = some z)
    (hsize : i.size = size) (hby : i.bytes = bytes) (hzs : z.cells.size = size) (hsz : 0 < size)
    (v : Value) (n : Nat) (xs : List Value) (hs : a.eval s = v) (hown : w.ownsRow base e size v n xs)
    (so : Option Addr) (m c : Nat) (news : List Value) (hx : a.eval x = .slice so m c) (hl : news.length = m * size) (hsrc : Src w so news) (h1 : ∀ u ∈ news, u.oneCell' = true)
    (h63 : n + m ≤ 1000000000) (hbytes : bytes ≤ 1000) (hbase : base ≤ w.heap.size)
    (h : ∀ so' sc w', w'.ownsRow base e size (.slice so' (n + m) sc) (n + m) (xs ++ news) → Mod (fun k => some k = v.ownBlock) w w' →
      ((Value.slice so' (n + m) sc).ownBlock = v.ownBlock ∨ (Value.slice so' (n + m) sc).ownBlock = some w.heap.size) → K (a.put o.dst (.slice so' (n + m) sc)) w') : o.wp P a w K Q := by
  obtain ⟨so', sc, w', hr, h2, h3, h4⟩ := run_app (P := P) w base t o.type e i z size bytes ht hi hz hsize hby hzs hsz v n xs hown so m c news hl hsrc h1 h63 hbytes hbase
  unfold Oper.wp execOp
  simp only [ho, resolve, invoke, builtin, Sem.run_bind, Sem.run_pure, Result.andThen_ok, List.map_toArray, List.map_cons, List.map_nil, hs, hx, hr]
  exact h so' sc w' h2 h3 h4

theorem wpList_app {P : Program} {w : World} {ops : Array Oper} {rest : List Oper} {o : Oper} {a : Act} {Q : Exit → Act → World → Prop} (hgd : o.guard = none) (s x : Operand) (t : TypeId)
    (ho : o.op = .call { callee := .builtin .append, args := #[s, x], argTypes := #[t, t] })
    (base : Nat) (e : TypeId) (i : TypeInfo) (z : Value) (size bytes : Nat) (ht : P.underlying t = some (.slice e)) (hi : P.info? e = some i) (hz : i.zero = some z)
    (hsize : i.size = size) (hby : i.bytes = bytes) (hzs : z.cells.size = size) (hsz : 0 < size)
    (v : Value) (n : Nat) (xs : List Value) (hs : a.eval s = v) (hown : w.ownsRow base e size v n xs)
    (so : Option Addr) (m c : Nat) (news : List Value) (hx : a.eval x = .slice so m c) (hl : news.length = m * size) (hsrc : Src w so news) (h1 : ∀ u ∈ news, u.oneCell' = true)
    (h63 : n + m ≤ 1000000000) (hbytes : bytes ≤ 1000) (hbase : base ≤ w.heap.size)
    (h : ∀ so' sc w', w'.ownsRow base e size (.slice so' (n + m) sc) (n + m) (xs ++ news) → Mod (fun k => some k = v.ownBlock) w w' →
      ((Value.slice so' (n + m) sc).ownBlock = v.ownBlock ∨ (Value.slice so' (n + m) sc).ownBlock = some w.heap.size) → wpList P ops Q rest (a.put o.dst (.slice so' (n + m) sc)) w') : wpList P ops Q (o :: rest) a w :=
  wpList_plain hgd fun _ hK => wp_app s x t ho base e i z size bytes ht hi hz hsize hby hzs hsz v n xs hs hown so m c news hx hl hsrc h1 h63 hbytes hbase fun so' sc w' h2 h3 h4 => hK _ _ (h so' sc w' h2 h3 h4)

theorem step_app {P : Program} {w : World} {ops : Array Oper} {o : Oper} {a : Act} {K : Act → World → Prop} {Q : Exit → Act → World → Prop} {E : Prop} (hgd : o.guard = none) (s x : Operand) (t : TypeId)
    (ho : o.op = .call { callee := .builtin .append, args := #[s, x], argTypes := #[t, t] })
    (base : Nat) (e : TypeId) (i : TypeInfo) (z : Value) (size bytes : Nat) (ht : P.underlying t = some (.slice e)) (hi : P.info? e = some i) (hz : i.zero = some z)
    (hsize : i.size = size) (hby : i.bytes = bytes) (hzs : z.cells.size = size) (hsz : 0 < size)
    (v : Value) (n : Nat) (xs : List Value) (hs : a.eval s = v) (hown : w.ownsRow base e size v n xs)
    (so : Option Addr) (m c : Nat) (news : List Value) (hx : a.eval x = .slice so m c) (hl : news.length = m * size) (hsrc : Src w so news) (h1 : ∀ u ∈ news, u.oneCell' = true)
    (h63 : n + m ≤ 1000000000) (hbytes : bytes ≤ 1000) (hbase : base ≤ w.heap.size)
    (h : ∀ so' sc w', w'.ownsRow base e size (.slice so' (n + m) sc) (n + m) (xs ++ news) → Mod (fun k => some k = v.ownBlock) w w' →
      ((Value.slice so' (n + m) sc).ownBlock = v.ownBlock ∨ (Value.slice so' (n + m) sc).ownBlock = some w.heap.size) → K (a.put o.dst (.slice so' (n + m) sc)) w') :
    if Region.wanted o (yielded ops a.tmps) = true then Oper.wp P o a w K Q else E := by
  have hw : Region.wanted o (yielded ops a.tmps) = true := by simp [Region.wanted, hgd]
  rw [if_pos hw]
  exact wp_app s x t ho base e i z size bytes ht hi hz hsize hby hzs hsz v n xs hs hown so m c news hx hl hsrc h1 h63 hbytes hbase h

/-- A row that was just made, of no elements. -/
theorem fresh_at {X : World} {g base size : Nat} {e : TypeId} (hb : base ≤ g) (h : X.heap[g]? = some (.cells #[] e (0, 0))) : X.ownsRow base e size (.slice (some ⟨g, 0, none⟩) 0 0) 0 [] :=
  ⟨by simp, .inr ⟨g, 0, #[], rfl, hb, h, by simp⟩⟩

theorem own_zero {w : World} {base n size : Nat} {e : TypeId} {v : Value} {xs : List Value} (ho : w.ownsRow base e size v n xs) : w.ownsRow 0 e size v n xs := by
  refine ⟨ho.1, ?_⟩
  rcases ho.2 with h | ⟨g, cap, cur, e, _, r⟩
  · exact .inl h
  · exact .inr ⟨g, cap, cur, e, Nat.zero_le _, r⟩

theorem own_base' {w : World} {base size n : Nat} {e : TypeId} {v : Value} {xs : List Value} (ho : w.ownsRow base e size v n xs) {k : Nat} (hk : v.ownBlock = some k) : base ≤ k := by
  rcases ho.2 with ⟨rfl, _⟩ | ⟨g, cap, cur, rfl, hb, _⟩
  · cases hk
  · exact (Option.some.inj hk) ▸ hb

/-- A row's cell is written. -/
theorem own_setN {w : World} {base size n g cap : Nat} {e : TypeId} {xs : List Value} (ho : w.ownsRow base e size (.slice (some ⟨g, 0, none⟩) n cap) n xs) (j : Nat) (u : Value) :
    (w.setCell ⟨g, j, none⟩ u).ownsRow base e size (.slice (some ⟨g, 0, none⟩) n cap) n (xs.set j u) := by
  refine ⟨by rw [List.length_set]; exact ho.1, ?_⟩
  rcases ho.2 with ⟨h, _⟩ | ⟨g', cap', cur, he, hb, hg, h1, h2, h3, h4⟩
  · cases h
  · injection he with e1 e2 e3
    injection e1 with e1
    injection e1 with e1 _
    subst e1 e3
    refine .inr ⟨g, cap, cur.setIfInBounds j u, rfl, hb, heap_set hg u, h1, h2, by simpa using h3, ?_⟩
    rw [Array.toList_setIfInBounds, List.take_set, h4]

theorem info_parts {t : TypeId} {z : Value} {n by_ : Nat} (h : (Try.prog.info? t).map (fun i => (i.zero, i.size, i.bytes)) = some (some z, n, by_)) : ∃ i, Try.prog.info? t = some i ∧ i.zero = some z ∧ i.size = n ∧ i.bytes = by_ := by
  cases hi : Try.prog.info? t with
  | none => rw [hi] at h; simp at h
  | some i =>
    rw [hi] at h
    simp at h
    exact ⟨i, rfl, h.1, h.2.1, h.2.2⟩

end Go.Proofs.Ytdimmomjildpcaa
