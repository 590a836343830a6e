/- Memory: what a call may have written, by a set of blocks; what is otherwise as it was. -/
import Derived.Test.YtdimmomjildpcaaProg
import Derived.WalkKit
import Derived.WalkSpells
import Derived.WalkLawsBesides
import Derived.Deep.Draws
namespace Go.Proofs.Ytdimmomjildpcaa
open Go.RowKit

/-- Of the blocks that were there, only those of F may have been written; nothing else has turned. -/
structure Mod (F : Nat → Prop) (w w' : World) : Prop where
  os : w'.os = w.os
  tape : w'.tape = w.tape
  output : w'.output = w.output
  size : w.heap.size ≤ w'.heap.size
  block : ∀ k, k < w.heap.size → ¬ F k → w'.heap[k]? = w.heap[k]?

theorem Mod.refl (F : Nat → Prop) (w : World) : Mod F w w := ⟨rfl, rfl, rfl, Nat.le_refl _, fun _ _ _ => rfl⟩

/-- Two calls, one behind the other: the second may write what the first may, and what is new. -/
theorem Mod.trans {F G : Nat → Prop} {a b c : World} (h : Mod F a b) (k : Mod G b c) (hG : ∀ i, i < a.heap.size → G i → F i) : Mod F a c :=
  ⟨k.os.trans h.os, k.tape.trans h.tape, k.output.trans h.output, Nat.le_trans h.size k.size,
    fun i hi hf => (k.block i (Nat.lt_of_lt_of_le hi h.size) (fun g => hf (hG i hi g))).trans (h.block i hi hf)⟩

theorem Mod.mono {F G : Nat → Prop} {a b : World} (h : Mod F a b) (hG : ∀ i, i < a.heap.size → F i → G i) : Mod G a b :=
  ⟨h.os, h.tape, h.output, h.size, fun i hi hf => h.block i hi (fun g => hf (hG i hi g))⟩

theorem Mod.alloc {F : Nat → Prop} {a b : World} (h : Mod F a b) (o : Obj) : Mod F a (b.alloc o) :=
  ⟨h.os, h.tape, h.output, Nat.le_trans h.size (by simp), fun i hi hf => (Below.heap_alloc _ _ _ (Nat.lt_of_lt_of_le hi h.size)).trans (h.block i hi hf)⟩

theorem Mod.setCell {F : Nat → Prop} {a b : World} (h : Mod F a b) {p : Addr} (hp : F p.block ∨ a.heap.size ≤ p.block) (u : Value) : Mod F a (b.setCell p u) :=
  ⟨h.os, h.tape, h.output, Nat.le_trans h.size (by simp [World.setCell]), fun i hi hf => by
    refine (Below.heap_setCell _ _ _ _ ?_).trans (h.block i hi hf)
    intro e
    rcases hp with hp | hp
    · exact hf (e ▸ hp)
    · omega⟩

theorem Mod.drewN {F : Nat → Prop} {a b : World} (h : Mod F a b) (n : Nat) : Mod F a (b.drewN n) := ⟨h.os, h.tape, h.output, h.size, h.block⟩

theorem Mod.drew {F : Nat → Prop} {a b : World} (h : Mod F a b) : Mod F a b.drew := ⟨h.os, h.tape, h.output, h.size, h.block⟩

theorem Mod.grown {F : Nat → Prop} {a b c : World} {row : Option Nat} (h : Mod F a b) (hg : b.grownBy c row) (hr : ∀ k, row = some k → F k ∨ a.heap.size ≤ k) : Mod F a c :=
  ⟨hg.os.trans h.os, hg.tape.trans h.tape, hg.output.trans h.output, Nat.le_trans h.size hg.size, fun i hi hf => by
    refine (hg.block i (Nat.lt_of_lt_of_le hi h.size) ?_).trans (h.block i hi hf)
    intro e
    rcases hr i e.symm with hp | hp
    · exact hf hp
    · omega⟩

theorem Mod.below {F : Nat → Prop} {a b : World} (h : Mod F a b) {B : Nat} (hB : B ≤ a.heap.size) (hF : ∀ k, F k → B ≤ k) : Below B a b :=
  ⟨h.os, h.tape, h.output, h.size, fun k hk => h.block k (by omega) (fun f => by have := hF k f; omega)⟩

theorem Mod.of_below {B : Nat} {a b : World} (h : Below B a b) : Mod (fun k => B ≤ k) a b :=
  ⟨h.os, h.tape, h.output, h.size, fun k _ hf => h.block k (by omega)⟩

/-- A world in which a block is as it was. -/
theorem heap_lt {w : World} {k : Nat} {o : Obj} (h : w.heap[k]? = some o) : k < w.heap.size := (Array.getElem?_eq_some_iff.1 h).1

theorem Mod.keep {F : Nat → Prop} {a b : World} (h : Mod F a b) {k : Nat} {o : Obj} (ho : a.heap[k]? = some o) (hf : ¬ F k) : b.heap[k]? = some o :=
  (h.block k (heap_lt ho) hf).trans ho

theorem cell_of_heap {w : World} {b : Nat} {cs : Array Value} {T : TypeId} {fr : Nat × Nat} (h : w.heap[b]? = some (.cells cs T fr)) (o : Nat) : w.cell? ⟨b, o, none⟩ = cs[o]? := by
  simp [World.cell?, h]

theorem free_of_heap {w : World} {b : Nat} {cs : Array Value} {T : TypeId} (h : w.heap[b]? = some (.cells cs T (0, 0))) (o : Nat) : w.frozen? ⟨b, o, none⟩ = false := by
  simp [World.frozen?, h]

theorem heap_set {w : World} {b o : Nat} {cs : Array Value} {T : TypeId} {fr : Nat × Nat} (h : w.heap[b]? = some (.cells cs T fr)) (v : Value) :
    (w.setCell ⟨b, o, none⟩ v).heap[b]? = some (.cells (cs.setIfInBounds o v) T fr) := by
  simp [World.setCell, Array.getElem?_modify, h]

/-- A row that is owned stays so while other blocks are written. -/
theorem own_keep {F : Nat → Prop} {a b : World} (h : Mod F a b) {base size n : Nat} {e : TypeId} {v : Value} {xs : List Value} (ho : a.ownsRow base e size v n xs) (hf : ∀ k, v.ownBlock = some k → ¬ F k) :
    b.ownsRow base e size v n xs := by
  refine ⟨ho.1, ?_⟩
  rcases ho.2 with h0 | ⟨g, cap, cur, rfl, hb, hg, r⟩
  · exact .inl h0
  · exact .inr ⟨g, cap, cur, rfl, hb, h.keep hg (hf g rfl), r⟩

theorem bytes_beq (a b : ByteArray) : (a == b) = decide (a = b) := by
  obtain ⟨a⟩ := a
  obtain ⟨b⟩ := b
  show (a == b) = _
  rw [Bool.eq_iff_iff]
  simp

instance : LawfulBEq ByteArray where
  rfl {a} := by rw [bytes_beq]; simp
  eq_of_beq {a b} h := by rw [bytes_beq] at h; simpa using h

/-- A row's own block is a row of its element type. -/
theorem own_blk {w : World} {base size n : Nat} {e : TypeId} {v : Value} {xs : List Value} (ho : w.ownsRow base e size v n xs) {k : Nat} (hk : v.ownBlock = some k) : ∃ cur, w.heap[k]? = some (.cells cur e (0, 0)) := by
  rcases ho.2 with ⟨rfl, _⟩ | ⟨g, cap, cur, rfl, _, hg, _⟩
  · cases hk
  · exact ⟨cur, (Option.some.inj hk) ▸ hg⟩

theorem own_ne_elem {w : World} {base size n : Nat} {e : TypeId} {v : Value} {xs : List Value} (ho : w.ownsRow base e size v n xs) {b : Nat} {cs : Array Value} {T : TypeId} {fr : Nat × Nat}
    (hb : w.heap[b]? = some (.cells cs T fr)) (hT : T ≠ e) : v.ownBlock ≠ some b := by
  intro hk
  obtain ⟨cur, hc⟩ := own_blk ho hk
  rw [hb] at hc
  injection hc with hc
  injection hc with h1 h2
  exact hT h2

theorem own_ne_map {w : World} {base size n : Nat} {e : TypeId} {v : Value} {xs : List Value} (ho : w.ownsRow base e size v n xs) {b : Nat} {es : Array MapEntry} {c : Nat}
    (hb : w.heap[b]? = some (.map es c)) : v.ownBlock ≠ some b := by
  intro hk
  obtain ⟨cur, hc⟩ := own_blk ho hk
  rw [hb] at hc
  cases hc

theorem str_eq (a b : ByteArray) : (a.toList == b.toList) = decide (a = b) := by
  rw [ByteArray.toList_eq, ByteArray.toList_eq]
  obtain ⟨a⟩ := a
  obtain ⟨b⟩ := b
  rw [Bool.eq_iff_iff]
  simp

/-- A row's cells, one by one. -/
theorem own_cell {w : World} {base n : Nat} {e : TypeId} {v : Value} {xs : List Value} (ho : w.ownsRow base e 1 v n xs) {j : Nat} (hj : j < n) :
    ∃ g cap x, v = .slice (some ⟨g, 0, none⟩) n cap ∧ xs[j]? = some x ∧ w.cell? ⟨g, j, none⟩ = some x ∧ w.cell? ⟨g, 0 + j, none⟩ = some x := by
  have hl := ho.1
  rw [Nat.mul_one] at hl
  rcases ho.2 with ⟨_, h0⟩ | ⟨g, cap, cur, rfl, hb, hg, r⟩
  · omega
  · have hx : xs[j]? = some (xs[j]'(by omega)) := List.getElem?_eq_getElem (by omega)
    refine ⟨g, cap, xs[j]'(by omega), rfl, hx, ?_, ?_⟩
    · rw [World.ownsRow.cellAt (w := w) ho j (by omega), hx]
    · rw [Nat.zero_add, World.ownsRow.cellAt (w := w) ho j (by omega), hx]

theorem own_slice {w : World} {base size n : Nat} {e : TypeId} {v : Value} {xs : List Value} (ho : w.ownsRow base e size v n xs) : ∃ so sc, v = .slice so n sc := by
  rcases ho.2 with ⟨rfl, h0⟩ | ⟨g, cap, cur, rfl, _⟩
  · exact ⟨none, 0, by rw [h0]⟩
  · exact ⟨_, _, rfl⟩

/-- An argument's slice of one-cell elements: it lies below block B. -/
def ArgRow (B : Nat) (w : World) (v : Value) (xs : List Value) : Prop :=
  ∃ so cap, v = .slice so xs.length cap ∧ ∀ i x, xs[i]? = some x → ∃ b o, so = some ⟨b, o, none⟩ ∧ b < B ∧ w.cell? ⟨b, o + i, none⟩ = some x

theorem ArgRow.below {B : Nat} {w w' : World} {v : Value} {xs : List Value} (h : ArgRow B w v xs) (hB : Below B w w') : ArgRow B w' v xs := by
  obtain ⟨so, cap, rfl, hc⟩ := h
  refine ⟨so, cap, rfl, fun i x hx => ?_⟩
  obtain ⟨b, o, e, hb, hcell⟩ := hc i x hx
  exact ⟨b, o, e, hb, by rw [hB.cell (p := ⟨b, o + i, none⟩) hb]; exact hcell⟩

/-- From the row's own form of an argument's slice. -/
theorem ArgRow.of_cells {w : World} {a : Addr} {len cap : Nat} {xs : List Value} (hl : xs.length = len) (hc : ∀ i x, xs[i]? = some x → w.cell? (a.add i) = some x) :
    ArgRow w.heap.size w (.slice (some a) len cap) xs := by
  refine ⟨some a, cap, by rw [hl], fun i x hx => ?_⟩
  obtain ⟨b, o, s⟩ := a
  have h0 : 0 < xs.length := by have := (List.getElem?_eq_some_iff.1 hx).1; omega
  have hs : s = none := by
    have h1 := hc 0 (xs[0]) (List.getElem?_eq_getElem h0)
    rw [Addr.add_zero'] at h1
    cases s with
    | none => rfl
    | some n =>
      unfold World.cell? at h1
      split at h1
      · simp at h1
      · cases h1
  subst hs
  have h2 := hc i x hx
  rw [Addr.add_lit] at h2
  exact ⟨b, o, rfl, World.block_lt_of_cell? w _ h2, h2⟩

theorem ArgRow.nil (B : Nat) (w : World) : ArgRow B w (.slice none 0 0) [] := ⟨none, 0, rfl, fun i x hx => by simp at hx⟩

theorem Mod.of_grown {w w' : World} {row : Option Nat} (h : w.grownBy w' row) : Mod (fun k => some k = row) w w' := ⟨h.os, h.tape, h.output, h.size, fun k hk hf => h.block k hk hf⟩

/-- 'append' onto a row that is owned: the row behind it lies where it lay, or is new. -/
theorem run_append_mine {P : Program} (w : World) (base : Nat) (t ty e : TypeId) (i : TypeInfo) (z : Value) (size bytes : Nat) (ht : P.underlying t = some (.slice e)) (hi : P.info? e = some i) (hz : i.zero = some z)
    (hsize : i.size = size) (hby : i.bytes = bytes) (hzs : z.cells.size = size) (hsz : 0 < size)
    (v : Value) (n : Nat) (xs : List Value) (hown : w.ownsRow base e size v n xs)
    (a : Addr) (m c : Nat) (news : List Value) (hl : news.length = m * size) (hm0 : 0 < m) (hnews : ∀ j u, news[j]? = some u → w.cell? (a.add j) = some u) (h1 : ∀ u ∈ news, u.oneCell' = true)
    (h63 : n + m ≤ maxLen) (hbytes : (n + m) * bytes ≤ 140737488355328) (hbase : base ≤ w.heap.size) :
    ∃ v' w', (Builtin.append_ #[t, t] ty #[v, .slice (some a) m c]).run P w = .ok v' w' ∧ w'.ownsRow base e size v' (n + m) (xs ++ news) ∧ Mod (fun k => some k = v.ownBlock) w w' ∧
      (v'.ownBlock = v.ownBlock ∨ v'.ownBlock = some w.heap.size) ∧ ∃ g sc, v' = .slice (some ⟨g, 0, none⟩) (n + m) sc := by
  obtain ⟨v', w', hr, h2, h3, _⟩ := run_append_own (P := P) w base t ty e i z size bytes ht hi hz hsize hby hzs hsz v n xs hown a m c news hl hnews h1 h63 hbytes hbase
  refine ⟨v', w', hr, h2, .of_grown h3, ?_⟩
  have h63' : n + m ≤ 9223372036854775807 := by simp only [maxLen] at h63; omega
  subst hsize
  subst hby
  rcases hown.2 with ⟨rfl, rfl⟩ | ⟨g, cap, cur, rfl, hbg, hg, hnc, hcm, hcs, htake⟩
  · have h48 : m * i.bytes ≤ 281474976710656 := by
      have e : (0 + m) * i.bytes = m * i.bytes := by rw [Nat.zero_add]
      omega
    have := run_append_nil (P := P) w t ty e i z ht hi hz a m c news hl hnews hm0 (by omega) h48
    rw [this] at hr
    injection hr with e1 _
    subst e1
    exact ⟨.inr rfl, _, _, by rw [Nat.zero_add]⟩
  · by_cases hroom : n + m ≤ cap
    · have hfit : n * i.size + news.length ≤ cur.size := by rw [hl, hcs, ← Nat.add_mul]; exact Nat.mul_le_mul_right _ hroom
      have := run_append_room (P := P) w t ty e i ht hi g n cap cur hg a m c news hl hnews h1 hroom hfit
      rw [this] at hr
      injection hr with e1 _
      subst e1
      exact ⟨.inl rfl, _, _, rfl⟩
    · have := run_append_grow (P := P) w t ty e i z ht hi hz ⟨g, 0, none⟩ n cap xs hown.1 (hown.cells (g := g) rfl) a m c news hl hnews (by omega) (by omega) (growslice_fits (by omega) hbytes)
      rw [this] at hr
      injection hr with e1 _
      subst e1
      exact ⟨.inr rfl, _, _, rfl⟩

/-- 'append(x, u)': one element of one cell, that was just boxed. -/
theorem wpList_app1 {P : Program} (w : World) {ops : Array Oper} {rest : List Oper} {o : Oper} {a : Act} {Q : Exit → Act → World → Prop} (hgd : o.guard = none) (s x : Operand) (t : TypeId)
    (ho : o.op = .call { callee := .builtin .append, args := #[s, x], argTypes := #[t, t] })
    (base : Nat) (e : TypeId) (i : TypeInfo) (z : Value) (bytes : Nat) (ht : P.underlying t = some (.slice e)) (hi : P.info? e = some i) (hz : i.zero = some z)
    (hsize : i.size = 1) (hby : i.bytes = bytes) (hzs : z.cells.size = 1)
    (v : Value) (n : Nat) (xs : List Value) (hs : a.eval s = v) (hown : w.ownsRow base e 1 v n xs) (u : Value)
    (hx : a.eval x = .slice (some ⟨w.heap.size, 0, none⟩) 1 1) (h1 : u.oneCell' = true)
    (hn : n ≤ 4398046511103) (hb : bytes ≤ 32) (hbase : base ≤ w.heap.size)
    (h : ∀ g sc w', w'.ownsRow base e 1 (.slice (some ⟨g, 0, none⟩) (n + 1) sc) (n + 1) (xs ++ [u]) → Mod (fun k => some k = v.ownBlock) w w' → (v.ownBlock = some g ∨ w.heap.size ≤ g) →
      wpList P ops Q rest (a.put o.dst (.slice (some ⟨g, 0, none⟩) (n + 1) sc)) w') : wpList P ops Q (o :: rest) a (w.alloc (.cells #[u] e)) := by
  refine wpList_plain hgd fun K hK => ?_
  have hbb : (n + 1) * bytes ≤ 140737488355328 := Nat.le_trans (Nat.mul_le_mul_left _ hb) (by omega)
  obtain ⟨v', w', hr, h2, h3, h4, g, sc, rfl⟩ := run_append_mine (P := P) (w.alloc (.cells #[u] e)) base t o.type e i z 1 bytes ht hi hz hsize hby hzs (by decide) v n xs (hown.alloc _)
    ⟨w.heap.size, 0, none⟩ 1 1 [u] rfl (by decide) (fun j u' hj => by
      have : j = 0 := by
        have := (List.getElem?_eq_some_iff.1 hj).1
        simpa using this
      subst this
      have hj' : u = u' := by simpa using hj
      subst hj'
      have := cell_of_heap (heap_alloc_new w (.cells #[u] e)) 0
      rw [Addr.add_zero']
      rw [this]
      rfl) (fun u' hu => by simp at hu; rw [hu]; exact h1) (by simp only [maxLen]; omega) hbb (by simp; omega)
  unfold Oper.wp execOp
  simp only [ho, resolve, invoke, builtin, Sem.run_bind, Sem.run_pure, Result.andThen_ok, List.map_toArray, List.map_cons, List.map_nil, hs, hx, hr]
  refine hK _ _ (h g sc w' h2 ?_ ?_)
  · exact ((Mod.refl _ w).alloc _).trans h3 (fun _ _ h => h)
  · rcases h4 with h4 | h4
    · exact .inl h4.symm
    · have hk' := Option.some.inj h4
      have : (w.alloc (.cells #[u] e)).heap.size = w.heap.size + 1 := by simp
      right
      simp at hk'
      omega

end Go.Proofs.Ytdimmomjildpcaa
