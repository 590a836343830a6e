/- The document's Put. -/
import Derived.Test.YtpkapfhfnnfomaaRefTree
import Derived.Test.YtpkapfhfnnfomaaTreeOrdersWalk
import Derived.StillTailTactics
namespace Go.Proofs.Ytpkapfhfnnfomaa
open Go.RowKit

/-- The two rows, whatever lies in them. -/
structure Rows2 (w : World) (b : Nat) (kv vv : Value) (K V : List Int) : Prop where
  blk : w.heap[b]? = some (.cells #[kv, vv] 38 (0, 0))
  keys : w.ownsRow 0 3 1 kv K.length (K.map (Value.int .i64))
  vals : w.ownsRow 0 3 1 vv V.length (V.map (Value.int .i64))
  apart : ∀ k, kv.ownBlock = some k → vv.ownBlock ≠ some k

theorem RefAt.rows {w : World} {b : Nat} {kv vv : Value} {L : List (Int × Int)} (h : RefAt w b kv vv L) : Rows2 w b kv vv (L.map Prod.fst) (L.map Prod.snd) :=
  ⟨h.blk, by simpa [List.map_map, Function.comp_def] using h.keys, by simpa [List.map_map, Function.comp_def] using h.vals, h.apart⟩

theorem RefAt.of_rows {w : World} {b : Nat} {kv vv : Value} {L : List (Int × Int)} (h : Rows2 w b kv vv (L.map Prod.fst) (L.map Prod.snd)) : RefAt w b kv vv L :=
  ⟨h.blk, by simpa [List.map_map, Function.comp_def] using h.keys, by simpa [List.map_map, Function.comp_def] using h.vals, h.apart⟩

theorem Rows2.drewN {w : World} {b : Nat} {kv vv : Value} {K V : List Int} (h : Rows2 w b kv vv K V) (n : Nat) : Rows2 (w.drewN n) b kv vv K V := ⟨h.blk, h.keys, h.vals, h.apart⟩
theorem Rows2.drew {w : World} {b : Nat} {kv vv : Value} {K V : List Int} (h : Rows2 w b kv vv K V) : Rows2 w.drew b kv vv K V := ⟨h.blk, h.keys, h.vals, h.apart⟩

/-- A row's cell is written. -/
theorem own_set {w : World} {base n g cap : Nat} {e : TypeId} {xs : List Value} (ho : w.ownsRow base e 1 (.slice (some ⟨g, 0, none⟩) n cap) n xs) (j : Nat) (u : Value) :
    (w.setCell ⟨g, j, none⟩ u).ownsRow base e 1 (.slice (some ⟨g, 0, none⟩) n cap) n (xs.set j u) := by
  refine ⟨by rw [List.length_set]; exact ho.1, ?_⟩
  rcases ho.2 with ⟨h, _⟩ | ⟨g', cap', cur, he, hb, hg, h1, h2, h3, h4⟩
  · cases h
  · injection he with e1 e2 e3
    injection e1 with e1
    injection e1 with e1 _
    subst e1 e3
    refine .inr ⟨g, cap, cur.setIfInBounds j u, rfl, hb, heap_set hg u, h1, h2, by simpa using h3, ?_⟩
    rw [Array.toList_setIfInBounds, List.take_set, h4]

theorem own_cap {w : World} {base n : Nat} {e : TypeId} {v : Value} {xs : List Value} (ho : w.ownsRow base e 1 v n xs) (h0 : 0 < n) : ∃ g cap cur, v = .slice (some ⟨g, 0, none⟩) n cap ∧ w.heap[g]? = some (.cells cur e (0, 0)) := by
  rcases ho.2 with ⟨_, h⟩ | ⟨g, cap, cur, rfl, _, hg, _⟩
  · omega
  · exact ⟨g, cap, cur, rfl, hg⟩

theorem Rows2.set_key {w : World} {b gk nk ck : Nat} {vv : Value} {K V : List Int} (h : Rows2 w b (.slice (some ⟨gk, 0, none⟩) nk ck) vv K V) (hn : K.length = nk) (j : Nat) (u : Int) :
    Rows2 (w.setCell ⟨gk, j, none⟩ (.int .i64 u)) b (.slice (some ⟨gk, 0, none⟩) nk ck) vv (K.set j u) V ∧ Mod (fun k => k = gk) w (w.setCell ⟨gk, j, none⟩ (.int .i64 u)) := by
  subst hn
  have hM : Mod (fun k => k = gk) w (w.setCell ⟨gk, j, none⟩ (.int .i64 u)) := (Mod.refl (fun k => k = gk) w).setCell (p := ⟨gk, j, none⟩) (.inl rfl) _
  refine ⟨⟨hM.keep h.blk (fun e => own_ne_elem h.keys h.blk (by decide) (by rw [e]; rfl)), ?_, own_keep hM h.vals (fun k hk e => h.apart k (by rw [e]; rfl) hk), h.apart⟩, hM⟩
  have := own_set h.keys j (.int .i64 u)
  rw [List.length_set, List.map_set]
  exact this

theorem Rows2.set_val {w : World} {b gv nv cv : Nat} {kv : Value} {K V : List Int} (h : Rows2 w b kv (.slice (some ⟨gv, 0, none⟩) nv cv) K V) (hn : V.length = nv) (j : Nat) (u : Int) :
    Rows2 (w.setCell ⟨gv, j, none⟩ (.int .i64 u)) b kv (.slice (some ⟨gv, 0, none⟩) nv cv) K (V.set j u) ∧ Mod (fun k => k = gv) w (w.setCell ⟨gv, j, none⟩ (.int .i64 u)) := by
  subst hn
  have hM : Mod (fun k => k = gv) w (w.setCell ⟨gv, j, none⟩ (.int .i64 u)) := (Mod.refl (fun k => k = gv) w).setCell (p := ⟨gv, j, none⟩) (.inl rfl) _
  refine ⟨⟨hM.keep h.blk (fun e => own_ne_elem h.vals h.blk (by decide) (by rw [e]; rfl)), own_keep hM h.keys (fun k hk e => h.apart k hk (by rw [e]; rfl)), ?_, h.apart⟩, hM⟩
  have := own_set h.vals j (.int .i64 u)
  rw [List.length_set, List.map_set]
  exact this

/-- What a writing call of the document's tree leaves. -/
def RefPost (w w' : World) (b : Nat) (kv vv : Value) (L : List (Int × Int)) : Prop :=
  ∃ kv' vv', RefAt w' b kv' vv' L ∧ Mod (fun k => k = b ∨ some k = kv.ownBlock ∨ some k = vv.ownBlock) w w' ∧ ∀ k, kv'.ownBlock = some k ∨ vv'.ownBlock = some k → some k = kv.ownBlock ∨ some k = vv.ownBlock ∨ w.heap.size ≤ k

theorem ins_there {key x : Int} {L : List (Int × Int)} {a : Int × Int} (ha : L[place key L]? = some a) (hk : a.1 = key) : ins key x L = L.set (place key L) (key, x) := by
  induction L with
  | nil => simp at ha
  | cons c L ih =>
    simp only [place, ins] at ha ⊢
    split
    · rename_i hc
      rw [if_pos hc] at ha
      rw [ih (by simpa using ha)]
      rfl
    · rename_i hc
      rw [if_neg hc] at ha
      obtain rfl : c = a := by simpa using ha
      rw [if_pos hk]
      rfl

theorem ins_not {key x : Int} {L : List (Int × Int)} (h : there key L = false) : ins key x L = L.take (place key L) ++ (key, x) :: L.drop (place key L) := by
  induction L with
  | nil => rfl
  | cons c L ih =>
    simp only [there, place] at h
    simp only [place, ins]
    split
    · rename_i hc
      rw [if_pos hc] at h
      rw [ih (by simpa [there] using h)]
      rfl
    · rename_i hc
      rw [if_neg hc] at h
      have hne : ¬ c.1 = key := by simpa using h
      rw [if_neg hne]
      rfl

set_option maxHeartbeats 2000000 in
theorem putL_there {b : Nat} {kv vv : Value} {L : List (Int × Int)} (key x : Int) (w : World) (h : RefAt w b kv vv L) (hL : L.length ≤ 1000000) {a : Int × Int} (ha : L[place key L]? = some a) (hk : a.1 = key) (ht : there key L = true) :
    Calls Try.prog 15 #[.pointer (some ⟨b, 0, none⟩), .int .i64 key, .int .i64 x] w fun e w' => e = .returned (.bool false) ∧ RefPost w w' b kv vv (ins key x L) := by
  have hf := find_any key w h (by omega)
  have c1 := cell_of_heap h.blk 1
  simp only [List.getElem?_toArray, List.getElem?_cons_succ, List.getElem?_cons_zero] at c1
  rw [ht] at hf
  have hlt : place key L < L.length := (List.getElem?_eq_some_iff.1 ha).1
  obtain ⟨g, cap, x0, he, hx, hc, hc'⟩ := own_cell h.vals hlt
  obtain ⟨g', cap', cur, he', hg⟩ := own_cap h.vals (by omega)
  rw [he] at he'
  injection he' with e1 e2 e3
  injection e1 with e1
  injection e1 with e1
  subst e1 e3
  have hfr := free_of_heap hg (place key L)
  subst he
  rw [ins_there ha hk]
  have HR := Lib.hid h
  have HL := Lib.hid hlt
  have HA := Lib.hid (And.intro ha hk)
  obtain ⟨j, hj⟩ : ∃ j, place key L = j := ⟨_, rfl⟩
  rw [hj] at hf hlt hc hc' hfr ⊢
  have HJ := Lib.hid hj
  clear h hx ha hk ht hg e2 hc' hj HL
  go_enter Try.func15, Try.ntmps15
  go_wp2_with (go_at_call 28; (with_reducible refine hf.mono ?_); rintro e w' ⟨rfl, n, rfl⟩)
  go_ret
  obtain ⟨ha, hk⟩ := HA.out
  rw [HJ.out] at ha
  obtain ⟨h1, h2⟩ := Rows2.set_val (HR.out.drewN n).rows (by simp) j x
  refine ⟨rfl, kv, .slice (some ⟨g, 0, none⟩) L.length cap, RefAt.of_rows ?_, (((Mod.refl _ w).drewN n).setCell (p := ⟨g, j, none⟩) (.inl (.inr (.inr rfl))) _), fun k hk => ?_⟩
  · rw [List.map_set, List.map_set]
    have e : (L.map Prod.fst).set j (key, x).1 = L.map Prod.fst := by
      obtain ⟨h3, h4⟩ := List.getElem?_eq_some_iff.1 ha
      have h5 : (L.map Prod.fst)[j]'(by simpa using h3) = key := by simp [h4, hk]
      show (L.map Prod.fst).set j key = _
      rw [← h5, List.set_getElem_self]
    rw [e]
    exact h1
  · rcases hk with hk | hk
    · exact .inl hk.symm
    · exact .inr (.inl hk.symm)

/-- The row while it is moved up: a place at k that holds anything. -/
def gap (xs : List Int) (k : Nat) (c : Int) : List Int := xs.take k ++ c :: xs.drop k

theorem gap_length (xs : List Int) {k : Nat} (c : Int) (hk : k ≤ xs.length) : (gap xs k c).length = xs.length + 1 := by
  simp [gap]; omega

theorem gap_end (xs : List Int) (c : Int) : gap xs xs.length c = xs ++ [c] := by simp [gap]

theorem gap_set (xs : List Int) {k : Nat} (c d : Int) (hk : k ≤ xs.length) : (gap xs k c).set k d = gap xs k d := by
  unfold gap
  rw [List.set_append_right _ _ (by simp; omega)]
  have : k - (xs.take k).length = 0 := by simp; omega
  rw [this]
  rfl

theorem gap_low (xs : List Int) {q : Nat} (c : Int) (hq : q + 1 ≤ xs.length) : (gap xs (q + 1) c)[q]? = xs[q]? := by
  unfold gap
  rw [List.getElem?_append_left (by simp; omega), List.getElem?_take, if_pos (by omega)]

theorem gap_step (xs : List Int) {q : Nat} {c y : Int} (hy : xs[q]? = some y) : (gap xs (q + 1) c).set (q + 1) y = gap xs q y := by
  have hq := (List.getElem?_eq_some_iff.1 hy).1
  rw [gap_set xs c y (by omega)]
  unfold gap
  have h1 : xs.take (q + 1) = xs.take q ++ [y] := by
    rw [List.take_add_one, hy]
    rfl
  have h2 : xs.drop q = y :: xs.drop (q + 1) := by
    rw [List.drop_eq_getElem_cons hq]
    rw [(List.getElem?_eq_some_iff.1 hy).2]
  rw [h1, h2]
  simp

theorem Rows2.key_at {w : World} {b : Nat} {kv vv : Value} {K V : List Int} (h : Rows2 w b kv vv K V) {j : Nat} {y : Int} (hy : K[j]? = some y) :
    ∃ g cap, kv = .slice (some ⟨g, 0, none⟩) K.length cap ∧ w.cell? ⟨g, j, none⟩ = some (.int .i64 y) ∧ w.frozen? ⟨g, j, none⟩ = false := by
  have hj := (List.getElem?_eq_some_iff.1 hy).1
  obtain ⟨g, cap, x0, he, hx, hc, _⟩ := own_cell h.keys hj
  obtain ⟨g', cap', cur, he', hg⟩ := own_cap h.keys (by omega)
  rw [he] at he'
  injection he' with e1 e2 e3
  injection e1 with e1
  injection e1 with e1
  subst e1
  rw [List.getElem?_map, hy] at hx
  obtain rfl : Value.int .i64 y = x0 := by simpa using hx
  exact ⟨g, cap, he, hc, free_of_heap hg j⟩

theorem Rows2.val_at {w : World} {b : Nat} {kv vv : Value} {K V : List Int} (h : Rows2 w b kv vv K V) {j : Nat} {y : Int} (hy : V[j]? = some y) :
    ∃ g cap, vv = .slice (some ⟨g, 0, none⟩) V.length cap ∧ w.cell? ⟨g, j, none⟩ = some (.int .i64 y) ∧ w.frozen? ⟨g, j, none⟩ = false := by
  have hj := (List.getElem?_eq_some_iff.1 hy).1
  obtain ⟨g, cap, x0, he, hx, hc, _⟩ := own_cell h.vals hj
  obtain ⟨g', cap', cur, he', hg⟩ := own_cap h.vals (by omega)
  rw [he] at he'
  injection he' with e1 e2 e3
  injection e1 with e1
  injection e1 with e1
  subst e1
  rw [List.getElem?_map, hy] at hx
  obtain rfl : Value.int .i64 y = x0 := by simpa using hx
  exact ⟨g, cap, he, hc, free_of_heap hg j⟩

/-- One more stands behind the keys. -/
theorem Rows2.app_key {w w1 : World} {b g sc : Nat} {kv vv : Value} {K V : List Int} {u : Int} (h : Rows2 w b kv vv K V) (hrow : w1.ownsRow 0 3 1 (.slice (some ⟨g, 0, none⟩) (K.length + 1) sc) (K.length + 1) (K.map (Value.int .i64) ++ [.int .i64 u]))
    (hmod : Mod (fun k => some k = kv.ownBlock) w w1) (hfr : kv.ownBlock = some g ∨ w.heap.size ≤ g) :
    Rows2 (w1.setCell ⟨b, 0, none⟩ (.slice (some ⟨g, 0, none⟩) (K.length + 1) sc)) b (.slice (some ⟨g, 0, none⟩) (K.length + 1) sc) vv (K ++ [u]) V ∧
      Mod (fun k => k = b ∨ some k = kv.ownBlock) w (w1.setCell ⟨b, 0, none⟩ (.slice (some ⟨g, 0, none⟩) (K.length + 1) sc)) ∧ w1.cell? ⟨b, 0, none⟩ = some kv ∧ w1.frozen? ⟨b, 0, none⟩ = false := by
  have hb0 : kv.ownBlock ≠ some b := own_ne_elem h.keys h.blk (by decide)
  have hblk1 := hmod.keep h.blk (fun e => hb0 e.symm)
  have hg1 : g ≠ b := fun e => own_ne_elem hrow hblk1 (by decide) (by rw [e]; rfl)
  have hM2 : Mod (fun k => k = b) w1 (w1.setCell ⟨b, 0, none⟩ (.slice (some ⟨g, 0, none⟩) (K.length + 1) sc)) := (Mod.refl (fun k => k = b) w1).setCell (p := ⟨b, 0, none⟩) (.inl rfl) _
  have hv1 := own_keep hmod h.vals (fun k hk e => h.apart k e.symm hk)
  have cc := cell_of_heap hblk1 0
  simp only [List.getElem?_toArray, List.getElem?_cons_zero] at cc
  refine ⟨⟨by simpa using heap_set (o := 0) hblk1 (.slice (some ⟨g, 0, none⟩) (K.length + 1) sc), ?_, own_keep hM2 hv1 (fun k hk e => own_ne_elem hv1 hblk1 (by decide) (by rw [hk, e])), ?_⟩, (hmod.mono (fun _ _ e => .inr e)).trans hM2 (fun _ _ e => .inl e), cc, free_of_heap hblk1 0⟩
  · have := own_keep hM2 hrow (fun k hk e => hg1 ((Option.some.inj hk).trans e))
    simpa using this
  · intro k hk hvk
    have : g = k := Option.some.inj hk
    subst this
    rcases hfr with hfr | hfr
    · exact h.apart g hfr hvk
    · obtain ⟨cur, hc⟩ := own_blk h.vals hvk
      have := heap_lt hc
      omega

/-- One more stands behind the values. -/
theorem Rows2.app_val {w w1 : World} {b g sc : Nat} {kv vv : Value} {K V : List Int} {u : Int} (h : Rows2 w b kv vv K V) (hrow : w1.ownsRow 0 3 1 (.slice (some ⟨g, 0, none⟩) (V.length + 1) sc) (V.length + 1) (V.map (Value.int .i64) ++ [.int .i64 u]))
    (hmod : Mod (fun k => some k = vv.ownBlock) w w1) (hfr : vv.ownBlock = some g ∨ w.heap.size ≤ g) :
    Rows2 (w1.setCell ⟨b, 1, none⟩ (.slice (some ⟨g, 0, none⟩) (V.length + 1) sc)) b kv (.slice (some ⟨g, 0, none⟩) (V.length + 1) sc) K (V ++ [u]) ∧
      Mod (fun k => k = b ∨ some k = vv.ownBlock) w (w1.setCell ⟨b, 1, none⟩ (.slice (some ⟨g, 0, none⟩) (V.length + 1) sc)) ∧ w1.cell? ⟨b, 1, none⟩ = some vv ∧ w1.frozen? ⟨b, 1, none⟩ = false := by
  have hb0 : vv.ownBlock ≠ some b := own_ne_elem h.vals h.blk (by decide)
  have hblk1 := hmod.keep h.blk (fun e => hb0 e.symm)
  have hg1 : g ≠ b := fun e => own_ne_elem hrow hblk1 (by decide) (by rw [e]; rfl)
  have hM2 : Mod (fun k => k = b) w1 (w1.setCell ⟨b, 1, none⟩ (.slice (some ⟨g, 0, none⟩) (V.length + 1) sc)) := (Mod.refl (fun k => k = b) w1).setCell (p := ⟨b, 1, none⟩) (.inl rfl) _
  have hv1 := own_keep hmod h.keys (fun k hk e => h.apart k hk e.symm)
  have cc := cell_of_heap hblk1 1
  simp only [List.getElem?_toArray, List.getElem?_cons_succ, List.getElem?_cons_zero] at cc
  refine ⟨⟨by simpa using heap_set (o := 1) hblk1 (.slice (some ⟨g, 0, none⟩) (V.length + 1) sc), own_keep hM2 hv1 (fun k hk e => own_ne_elem hv1 hblk1 (by decide) (by rw [hk, e])), ?_, ?_⟩, (hmod.mono (fun _ _ e => .inr e)).trans hM2 (fun _ _ e => .inl e), cc, free_of_heap hblk1 1⟩
  · have := own_keep hM2 hrow (fun k hk e => hg1 ((Option.some.inj hk).trans e))
    simpa using this
  · intro k hk hvk
    have : g = k := Option.some.inj hvk
    subst this
    rcases hfr with hfr | hfr
    · exact h.apart g hk hfr
    · obtain ⟨cur, hc⟩ := own_blk h.keys hk
      have := heap_lt hc
      omega

theorem gap_at (xs : List Int) {k : Nat} (c : Int) (hk : k ≤ xs.length) : (gap xs k c)[k]? = some c := by
  unfold gap
  have h : (xs.take k).length = k := by simp; omega
  rw [List.getElem?_append_right (by omega), h, Nat.sub_self]
  rfl

/-- One step of the moving up, in the keys. -/
theorem Rows2.up_key {w : World} {b g n sc : Nat} {vv : Value} {K V : List Int} {q : Nat} {c y : Int} (h : Rows2 w b (.slice (some ⟨g, 0, none⟩) n sc) vv (gap K (q + 1) c) V) (hn : n = K.length + 1) (hy : K[q]? = some y) :
    w.cell? ⟨b, 0, none⟩ = some (.slice (some ⟨g, 0, none⟩) n sc) ∧ w.cell? ⟨g, q, none⟩ = some (.int .i64 y) ∧ w.cell? ⟨g, q + 1, none⟩ = some (.int .i64 c) ∧ w.frozen? ⟨g, q + 1, none⟩ = false ∧
      Rows2 (w.setCell ⟨g, q + 1, none⟩ (.int .i64 y)) b (.slice (some ⟨g, 0, none⟩) n sc) vv (gap K q y) V ∧ Mod (fun k => k = g) w (w.setCell ⟨g, q + 1, none⟩ (.int .i64 y)) := by
  have hq := (List.getElem?_eq_some_iff.1 hy).1
  have hlen := gap_length K (k := q + 1) c (by omega)
  obtain ⟨g1, cap1, he1, h1, _⟩ := h.key_at (j := q) (y := y) (by rw [gap_low K c (by omega)]; exact hy)
  obtain ⟨g2, cap2, he2, h2, h3⟩ := h.key_at (j := q + 1) (y := c) (gap_at K c (by omega))
  injection he1 with e1
  injection e1 with e1
  injection e1 with e1
  subst e1
  injection he2 with e1
  injection e1 with e1
  injection e1 with e1
  subst e1
  have c0 := cell_of_heap h.blk 0
  simp only [List.getElem?_toArray, List.getElem?_cons_zero] at c0
  obtain ⟨h4, h5⟩ := h.set_key (by omega) (q + 1) y
  rw [gap_step K hy] at h4
  exact ⟨c0, h1, h2, h3, h4, h5⟩

theorem Rows2.up_val {w : World} {b g n sc : Nat} {kv : Value} {K V : List Int} {q : Nat} {c y : Int} (h : Rows2 w b kv (.slice (some ⟨g, 0, none⟩) n sc) K (gap V (q + 1) c)) (hn : n = V.length + 1) (hy : V[q]? = some y) :
    w.cell? ⟨b, 1, none⟩ = some (.slice (some ⟨g, 0, none⟩) n sc) ∧ w.cell? ⟨g, q, none⟩ = some (.int .i64 y) ∧ w.cell? ⟨g, q + 1, none⟩ = some (.int .i64 c) ∧ w.frozen? ⟨g, q + 1, none⟩ = false ∧
      Rows2 (w.setCell ⟨g, q + 1, none⟩ (.int .i64 y)) b kv (.slice (some ⟨g, 0, none⟩) n sc) K (gap V q y) ∧ Mod (fun k => k = g) w (w.setCell ⟨g, q + 1, none⟩ (.int .i64 y)) := by
  have hq := (List.getElem?_eq_some_iff.1 hy).1
  have hlen := gap_length V (k := q + 1) c (by omega)
  obtain ⟨g1, cap1, he1, h1, _⟩ := h.val_at (j := q) (y := y) (by rw [gap_low V c (by omega)]; exact hy)
  obtain ⟨g2, cap2, he2, h2, h3⟩ := h.val_at (j := q + 1) (y := c) (gap_at V c (by omega))
  injection he1 with e1
  injection e1 with e1
  injection e1 with e1
  subst e1
  injection he2 with e1
  injection e1 with e1
  injection e1 with e1
  subst e1
  have c0 := cell_of_heap h.blk 1
  simp only [List.getElem?_toArray, List.getElem?_cons_succ, List.getElem?_cons_zero] at c0
  obtain ⟨h4, h5⟩ := h.set_val (by omega) (q + 1) y
  rw [gap_step V hy] at h4
  exact ⟨c0, h1, h2, h3, h4, h5⟩

theorem Rows2.end_key {w : World} {b g n sc : Nat} {vv : Value} {K V : List Int} {j : Nat} {c : Int} (h : Rows2 w b (.slice (some ⟨g, 0, none⟩) n sc) vv (gap K j c) V) (hn : n = K.length + 1) (hj : j ≤ K.length) (y : Int) :
    w.cell? ⟨b, 0, none⟩ = some (.slice (some ⟨g, 0, none⟩) n sc) ∧ w.cell? ⟨g, j, none⟩ = some (.int .i64 c) ∧ w.frozen? ⟨g, j, none⟩ = false ∧
      Rows2 (w.setCell ⟨g, j, none⟩ (.int .i64 y)) b (.slice (some ⟨g, 0, none⟩) n sc) vv (gap K j y) V ∧ Mod (fun k => k = g) w (w.setCell ⟨g, j, none⟩ (.int .i64 y)) := by
  have hlen := gap_length K c hj
  obtain ⟨g2, cap2, he2, h2, h3⟩ := h.key_at (j := j) (y := c) (gap_at K c hj)
  injection he2 with e1
  injection e1 with e1
  injection e1 with e1
  subst e1
  have c0 := cell_of_heap h.blk 0
  simp only [List.getElem?_toArray, List.getElem?_cons_zero] at c0
  obtain ⟨h4, h5⟩ := h.set_key (by omega) j y
  rw [gap_set K c y hj] at h4
  exact ⟨c0, h2, h3, h4, h5⟩

theorem Rows2.end_val {w : World} {b g n sc : Nat} {kv : Value} {K V : List Int} {j : Nat} {c : Int} (h : Rows2 w b kv (.slice (some ⟨g, 0, none⟩) n sc) K (gap V j c)) (hn : n = V.length + 1) (hj : j ≤ V.length) (y : Int) :
    w.cell? ⟨b, 1, none⟩ = some (.slice (some ⟨g, 0, none⟩) n sc) ∧ w.cell? ⟨g, j, none⟩ = some (.int .i64 c) ∧ w.frozen? ⟨g, j, none⟩ = false ∧
      Rows2 (w.setCell ⟨g, j, none⟩ (.int .i64 y)) b kv (.slice (some ⟨g, 0, none⟩) n sc) K (gap V j y) ∧ Mod (fun k => k = g) w (w.setCell ⟨g, j, none⟩ (.int .i64 y)) := by
  have hlen := gap_length V c hj
  obtain ⟨g2, cap2, he2, h2, h3⟩ := h.val_at (j := j) (y := c) (gap_at V c hj)
  injection he2 with e1
  injection e1 with e1
  injection e1 with e1
  subst e1
  have c0 := cell_of_heap h.blk 1
  simp only [List.getElem?_toArray, List.getElem?_cons_succ, List.getElem?_cons_zero] at c0
  obtain ⟨h4, h5⟩ := h.set_val (by omega) j y
  rw [gap_set V c y hj] at h4
  exact ⟨c0, h2, h3, h4, h5⟩

/-- What Put makes of the rows, where the key is new. -/
def PutPost (w w' : World) (b : Nat) (kv vv : Value) (K V : List Int) : Prop :=
  ∃ kv' vv', Rows2 w' b kv' vv' K V ∧ Mod (fun k => k = b ∨ some k = kv.ownBlock ∨ some k = vv.ownBlock) w w' ∧ ∀ k, kv'.ownBlock = some k ∨ vv'.ownBlock = some k → some k = kv.ownBlock ∨ some k = vv.ownBlock ∨ w.heap.size ≤ k

set_option maxHeartbeats 4000000 in
theorem putR_new {b : Nat} {kv vv : Value} {K V : List Int} (key x : Int) (w : World) (h : Rows2 w b kv vv K V) (hL : K.length ≤ 1000000) (hKV : V.length = K.length) {j : Nat} (hj : j ≤ K.length)
    (hf : Calls Try.prog 28 #[.pointer (some ⟨b, 0, none⟩), .int .i64 key] w fun e w' => e = .returned (.tuple #[.int .i64 j, .bool false]) ∧ ∃ n, w' = w.drewN n) :
    Calls Try.prog 15 #[.pointer (some ⟨b, 0, none⟩), .int .i64 key, .int .i64 x] w fun e w' => e = .returned (.bool true) ∧ PutPost w w' b kv vv (gap K j key) (gap V j x) := by
  obtain ⟨ko, kc, rfl⟩ := own_slice h.keys
  obtain ⟨vo, vc, rfl⟩ := own_slice h.vals
  have c0 := cell_of_heap h.blk 0
  simp only [List.getElem?_toArray, List.getElem?_cons_zero] at c0
  have HR := Lib.hid h
  have HKV := Lib.hid hKV
  have hVK : V.length ≤ 1000000 := by omega
  clear h hKV
  obtain ⟨i0, hi, hz0, hz1, hz2⟩ := info_parts info_int
  go_enter Try.func15, Try.ntmps15
  go_wp2_with (first
    | (go_at_call 28; (with_reducible refine hf.mono ?_); rintro e w' ⟨rfl, nd, rfl⟩; have hrow0 := (HR.out.drewN nd).keys)
    | (at_builtin; refine wpList_app1 _ rfl _ _ 33 rfl 0 3 i0 (.int .i64 0) 8 Try.underlying33 hi hz0 hz1 hz2 rfl _ _ _ rfl hrow0 (.int .i64 0) rfl rfl (by omega) (by omega) (by omega) ?_))
  intro g1 sc1 w1 hrow1 hmod1 hfr1
  have happ := (HR.out.drewN nd).app_key hrow1 hmod1 hfr1
  obtain ⟨h2, hm2, cc, cf⟩ := happ
  have H2 := Lib.hid h2
  have HM2 := Lib.hid hm2
  have HF := Lib.hid hfr1
  have c1 := cell_of_heap h2.blk 1
  simp only [List.getElem?_toArray, List.getElem?_cons_succ, List.getElem?_cons_zero] at c1
  have hrow2 := h2.vals
  clear hrow1 hmod1 h2 hm2 hfr1 hrow0 hf
  go_wp2_with (at_builtin; refine wpList_app1 _ rfl _ _ 33 rfl 0 3 i0 (.int .i64 0) 8 Try.underlying33 hi hz0 hz1 hz2 rfl _ _ _ rfl hrow2 (.int .i64 0) (by show Value.slice (some ⟨w1.heap.size, 0, none⟩) 1 1 = _; simp) rfl (by omega) (by omega) (by omega) ?_)
  intro g2 sc2 w2 hrow3 hmod3 hfr3
  obtain ⟨h4, hm4, cc2, cf2⟩ := H2.out.app_val hrow3 hmod3 (by simpa using hfr3)
  have H4 := Lib.hid h4
  have HM4 := Lib.hid hm4
  have HF3 := Lib.hid hfr3
  have d0 := cell_of_heap h4.blk 0
  simp only [List.getElem?_toArray, List.getElem?_cons_zero] at d0
  clear hrow3 hmod3 h4 hm4 hfr3 hrow2 c0 c1
  go_wp2_with fail
  have hF1 : ∀ k : Nat, k = g1 → (k = b ∨ some k = (Value.slice ko K.length kc).ownBlock ∨ some k = (Value.slice vo V.length vc).ownBlock) ∨ w.heap.size ≤ k := by
    rintro k rfl
    rcases HF.out with h | h
    · exact .inl (.inr (.inl h.symm))
    · exact .inr h
  have hs12 : w.heap.size ≤ w1.heap.size := by
    have := HM2.out.size
    simpa using this
  have hF2 : ∀ k : Nat, k = g2 → (k = b ∨ some k = (Value.slice ko K.length kc).ownBlock ∨ some k = (Value.slice vo V.length vc).ownBlock) ∨ w.heap.size ≤ k := by
    rintro k rfl
    rcases HF3.out with h | h
    · exact .inl (.inr (.inr h.symm))
    · exact .inr (Nat.le_trans hs12 h)
  have hMa : Mod (fun k => k = b ∨ some k = (Value.slice ko K.length kc).ownBlock ∨ some k = (Value.slice vo V.length vc).ownBlock) w (w2.setCell ⟨b, 1, none⟩ (.slice (some ⟨g2, 0, none⟩) (V.length + 1) sc2)) := by
    have m1 := HM2.out.mono (G := fun k => k = b ∨ some k = (Value.slice ko K.length kc).ownBlock ∨ some k = (Value.slice vo V.length vc).ownBlock) (fun k _ h => h.elim .inl (fun h => .inr (.inl h)))
    have m2 := m1.trans HM4.out (fun k _ h => h.elim .inl (fun h => .inr (.inr h)))
    exact ⟨m2.os, m2.tape, m2.output, m2.size, m2.block⟩
  have HMa := Lib.hid hMa
  have HF1 := Lib.hid hF1
  have HF2 := Lib.hid hF2
  have h4' : Rows2 (w2.setCell ⟨b, 1, none⟩ (.slice (some ⟨g2, 0, none⟩) (V.length + 1) sc2)) b (.slice (some ⟨g1, 0, none⟩) (K.length + 1) sc1) (.slice (some ⟨g2, 0, none⟩) (V.length + 1) sc2) (gap K K.length 0) (gap V K.length 0) := by
    have := H4.out
    rw [← gap_end K, ← gap_end V] at this
    rw [HKV.out] at this ⊢
    exact this
  have H5 := Lib.hid h4'
  clear h4' hF1 hF2 hMa d0 cc cf cc2 cf2 H4 H2 HM2 HM4 HF HF3 hs12
  go_loopg [9] K.length (fun g i wr => ∃ (k : Nat) (c d : Int), g = k ∧ i = .int .i64 k ∧ j ≤ k ∧ k ≤ K.length ∧ Hid (Rows2 wr b (.slice (some ⟨g1, 0, none⟩) (K.length + 1) sc1) (.slice (some ⟨g2, 0, none⟩) (V.length + 1) sc2) (gap K k c) (gap V k d)) ∧
    Hid (Mod (fun k => k = b ∨ some k = (Value.slice ko K.length kc).ownBlock ∨ some k = (Value.slice vo V.length vc).ownBlock) w wr))
  case atStart => exact ⟨K.length, 0, 0, rfl, rfl, hj, Nat.le_refl _, H5, HMa⟩
  case round =>
    clear H5 HMa
    obtain ⟨k, c, d, hgk, rfl, hjk, hkn, HR5, HM5⟩ := hrel
    by_cases hlt : j < k
    · obtain ⟨q, rfl⟩ : ∃ q, k = q + 1 := ⟨k - 1, by omega⟩
      obtain ⟨y, hy⟩ : ∃ y, K[q]? = some y := ⟨K[q]'(by omega), List.getElem?_eq_getElem (by omega)⟩
      obtain ⟨z, hz⟩ : ∃ z, V[q]? = some z := ⟨V[q]'(by have := HKV.out; omega), List.getElem?_eq_getElem (by have := HKV.out; omega)⟩
      obtain ⟨a0, a1, a2, a3, h6, m6⟩ := HR5.out.up_key rfl hy
      obtain ⟨b0, b1, b2, b3, h7, m7⟩ := h6.drew.up_val rfl hz
      have H7 := Lib.hid h7
      have M6 := Lib.hid m6.drew
      have M7 := Lib.hid m7
      have hqv : q + 1 < V.length + 1 := by have := HKV.out; omega
      obtain ⟨kk, hkk⟩ : ∃ kk : Int, ((q + 1 : Nat) : Int) = kk := ⟨_, rfl⟩
      rw [hkk]
      have t0 : decide ((j : Int) < kk) = true := decide_eq_true (by omega)
      have t1 : IntKind.i64.wrap (kk - 1) = (q : Int) := by rw [IntWalk.i64_in _ (by omega)]; omega
      have t2 : kk.toNat = q + 1 := by omega
      have t3 : 0 ≤ kk := by omega
      have t4 : kk < (K.length : Int) + 1 := by omega
      have t5 : kk < (V.length : Int) + 1 := by omega
      have t6 : (q : Int) < (K.length : Int) + 1 := by omega
      have t7 : (q : Int) < (V.length : Int) + 1 := by omega
      clear h6 m6 h7 m7 hy hz hkk HR5
      go_wp2_with fail
      go_still_tail 14, (by kernel_rfl)
      change wpList _ _ _ _ _ wr.drew
      go_wp2_with fail
      generalize (wr.setCell ⟨g1, q + 1, none⟩ (.int .i64 y)).drew = wq at b0 b1 b2 b3 H7 M6 M7 ⊢
      go_still_tail 14, (by kernel_rfl)
      change wpList _ _ _ _ _ wq.drew
      go_wp2_with fail
      go_roundg q
      case measure => omega
      case rel =>
        refine ⟨q, y, z, rfl, rfl, by omega, by omega, Lib.hid H7.out.drew, Lib.hid ?_⟩
        refine ((HM5.out.trans M6.out ?_).trans M7.out ?_).drew
        · intro i hi e
          rcases HF1.out i e with h | h
          · exact h
          · omega
        · intro i hi e
          rcases HF2.out i e with h | h
          · exact h
          · omega
    · obtain rfl : k = j := by omega
      have hkv : k ≤ V.length := by have := HKV.out; omega
      obtain ⟨a0, a1, a2, h6, m6⟩ := HR5.out.end_key rfl hkn key
      obtain ⟨b0, b1, b2, h7, m7⟩ := h6.end_val rfl hkv x
      have H7 := Lib.hid h7
      have M6 := Lib.hid m6
      have M7 := Lib.hid m7
      have t4 : (k : Int) < (K.length : Int) + 1 := by omega
      have t5 : (k : Int) < (V.length : Int) + 1 := by omega
      clear h6 m6 h7 m7 HR5 hlt
      go_wp2_with fail
      go_ret
      refine ⟨rfl, _, _, H7.out, (HM5.out.trans M6.out ?_).trans M7.out ?_, ?_⟩
      · intro i hi e
        rcases HF1.out i e with h | h
        · exact h
        · omega
      · intro i hi e
        rcases HF2.out i e with h | h
        · exact h
        · omega
      · rintro i (h | h)
        · have e : i = g1 := (Option.some.inj h).symm
          have hb : i ≠ b := by
            rintro rfl
            exact own_ne_elem H7.out.keys H7.out.blk (by decide) h
          rcases HF1.out i e with h' | h'
          · rcases h' with h' | h' | h'
            · exact absurd h' hb
            · exact .inl h'
            · exact .inr (.inl h')
          · exact .inr (.inr h')
        · have e : i = g2 := (Option.some.inj h).symm
          have hb : i ≠ b := by
            rintro rfl
            exact own_ne_elem H7.out.vals H7.out.blk (by decide) h
          rcases HF2.out i e with h' | h'
          · rcases h' with h' | h' | h'
            · exact absurd h' hb
            · exact .inl h'
            · exact .inr (.inl h')
          · exact .inr (.inr h')

theorem putL_any {b : Nat} {kv vv : Value} {L : List (Int × Int)} (key x : Int) (w : World) (h : RefAt w b kv vv L) (hL : L.length ≤ 1000000) (hr : Rising L) :
    Calls Try.prog 15 #[.pointer (some ⟨b, 0, none⟩), .int .i64 key, .int .i64 x] w fun e w' => e = .returned (.bool (!(lookR L key).2)) ∧ RefPost w w' b kv vv (ins key x L) := by
  rcases there_look (key := key) hr with ⟨ht, a, ha, hk, hlk⟩ | ⟨ht, hlk⟩
  · have hR : lookR L key = (a.2, true) := by unfold lookR; rw [hlk]
    rw [hR]
    exact putL_there key x w h hL ha hk ht
  · have hR : lookR L key = (0, false) := by unfold lookR; rw [hlk]
    rw [hR, ins_not ht]
    have hf := find_any key w h (by omega)
    rw [ht] at hf
    refine (putR_new key x w h.rows (by simpa using hL) (by simp) (j := place key L) (by simpa using place_le key L) hf).mono ?_
    rintro e w' ⟨rfl, kv', vv', h1, h2, h3⟩
    refine ⟨rfl, kv', vv', RefAt.of_rows ?_, h2, h3⟩
    have e1 : (L.take (place key L) ++ (key, x) :: L.drop (place key L)).map Prod.fst = gap (L.map Prod.fst) (place key L) key := by simp [gap]
    have e2 : (L.take (place key L) ++ (key, x) :: L.drop (place key L)).map Prod.snd = gap (L.map Prod.snd) (place key L) x := by simp [gap]
    rw [e1, e2]
    exact h1

end Go.Proofs.Ytpkapfhfnnfomaa
